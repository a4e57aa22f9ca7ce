/- Texts of one proof, one behind the other: DelS, TysP, PlL, PlM, PlW, PlX, PlY, PlF, PlZ, PlP, Above, RefRight, RefGrowsK, RefA. -/
import Derived.Test.YtnfiadlonjediaaGreatDoorM9
import Derived.Test.YtnfiadlonjediaaGreatDoorM8
import Derived.ArgAppend
import Derived.Test.YtnfiadlonjediaaGreatDoorM7
import Derived.Test.YtnfiadlonjediaaGreatDoorM12
import Derived.Test.YtnfiadlonjediaaGreatDoorM13
import Derived.Test.YtnfiadlonjediaaGreatDoorM11
import Derived.Test.YtnfiadlonjediaaGreatDoorM4
import Derived.Test.YtnfiadlonjediaaGreatDoorM6
import Derived.Test.YtnfiadlonjediaaGreatDoorRows
import Derived.WalkKit
import Derived.WalkSpells
import Derived.WalkLawsBesides
import Derived.Handy
import Derived.Deep.QuietTactic
import Derived.Deep.Light
import Derived.BigQuiet
namespace Go.Proofs.YtnfiadlonjediaaGreatDoor
section
open Go.RowKit Go.Proofs.Tryz
set_option maxRecDepth 100000
end
section
open Go.RowKit Go.ChangeShapes Go.WideShapes Go.Proofs.Tryz
structure SpotV where
 at_:PolV
 size:PolV
 since:Int
 deriving Inhabited
def dD:Flat SpotV where
 size:=3
 cells:=fun x=>[.slice x.at_.addr x.at_.list.length x.at_.cap,.slice x.size.addr x.size.list.length x.size.cap,.int .i64 x.since]
 len:=fun _=>rfl
 one:=fun x u hu=>by
  simp at hu
  rcases hu with rfl | rfl | rfl<;>rfl
 pos:=m7
structure LayV where
 at_:(Sl PolV)
 size:PolV
 deriving Inhabited
def bEl:Tab:=[(3,⟨.int .i64,1⟩),(2,⟨.int .i64,1⟩),(5,⟨.int .u8,1⟩),(4,⟨.bool,1⟩),(77,⟨.int .u8,1⟩),(32,⟨.int .i64,1⟩),(43,⟨.slice 111,1⟩),(42,⟨.slice 43,1⟩),(172,⟨.struct [(3,0),(3,1),(2,2),(43,3),(77,4)],5⟩),(78,⟨.slice 172,1⟩),(95,⟨.struct [(42,0),(3,1)],2⟩),(22,⟨.slice 95,1⟩),(80,⟨.struct [(3,0),(3,1),(43,2),(42,3),(77,4),(78,5)],6⟩),(23,⟨.slice 80,1⟩),(24,⟨.slice 3,1⟩),(99,⟨.slice 4,1⟩),(26,⟨.struct [(3,0),(22,1),(23,2),(24,3)],4⟩),(114,⟨.struct [(3,0),(3,1)],2⟩),(97,⟨.slice 114,1⟩),(201,⟨.struct [(3,0),(3,1),(3,2),(99,3)],4⟩),(214,⟨.struct [(43,0),(43,1),(3,2)],3⟩),(329,⟨.slice 214,1⟩),(45,⟨.struct [(42,0),(43,1)],2⟩),(198,⟨.array 64 4,64⟩),(111,⟨.struct [(2,0),(109,1)],7⟩),(109,⟨.array 6 5,6⟩),(290,⟨.slice 5,1⟩),(224,⟨.int .u64,1⟩),(199,⟨.other,1⟩),(274,⟨.other,1⟩),(126,⟨.other,1⟩),(105,⟨.struct [(43,0),(103,1),(3,2),(102,3)],4⟩),(102,⟨.map 3 214,1⟩),(330,⟨.slice 214,1⟩),(284,⟨.other,1⟩),(103,⟨.slice 284,1⟩),(101,⟨.other,1⟩)]
theorem dV:dH prog bEl:=uU.ok
 ⟨⟨by rw [underlying3];rfl,k8⟩,
  ⟨by rw [underlying2];rfl,k8⟩,
  ⟨by rw [underlying5];rfl,k8⟩,
  ⟨by rw [underlying4];rfl,k8⟩,
  ⟨by rw [underlying77];rfl,k8⟩,
  ⟨by rw [underlying32];rfl,k8⟩,
  ⟨by rw [underlying43];rfl,k8⟩,
  ⟨by rw [underlying42];rfl,k8⟩,
  ⟨by rw [underlying172];rfl,k8⟩,
  ⟨by rw [underlying78];rfl,k8⟩,
  ⟨by rw [underlying95];rfl,k8⟩,
  ⟨by rw [underlying22];rfl,k8⟩,
  ⟨by rw [underlying80];rfl,k8⟩,
  ⟨by rw [underlying23];rfl,k8⟩,
  ⟨by rw [underlying24];rfl,k8⟩,
  ⟨by rw [underlying99];rfl,k8⟩,
  ⟨by rw [underlying26];rfl,k8⟩,
  ⟨by rw [underlying114];rfl,k8⟩,
  ⟨by rw [underlying97];rfl,k8⟩,
  ⟨by rw [underlying201];rfl,k8⟩,
  ⟨by rw [underlying214];rfl,k8⟩,
  ⟨by rw [underlying329];rfl,k8⟩,
  ⟨by rw [underlying45];rfl,k8⟩,
  ⟨by rw [underlying198];rfl,k8⟩,
  ⟨by rw [underlying111];rfl,k8⟩,
  ⟨by rw [underlying109];rfl,k8⟩,
  ⟨by rw [underlying290];rfl,k8⟩,
  ⟨by rw [underlying224];rfl,k8⟩,
  ⟨by rw [underlying199];rfl,k8⟩,
  ⟨by rw [underlying274];rfl,k8⟩,
  ⟨by rw [underlying126];rfl,k8⟩,
  ⟨by rw [underlying105];rfl,k8⟩,
  ⟨by rw [underlying102];rfl,k8⟩,
  ⟨by rw [underlying330];rfl,k8⟩,
  ⟨by rw [underlying284];rfl,k8⟩,
  ⟨by rw [underlying103];rfl,k8⟩,
  ⟨by rw [underlying101];rfl,k8⟩,e8⟩
theorem vL: ∃i:TypeInfo,prog.info? 214=some i∧i.zero=some (.agg #[.slice none 0 0,.slice none 0 0,.int .i64 0])∧i.size=3∧i.bytes=56:=by
 have h:(prog.info? 214).map (fun i=>(i.zero,i.size,i.bytes))=some (some (.agg #[.slice none 0 0,.slice none 0 0,.int .i64 0]),3,56):=k8
 cases hi:prog.info? 214 with
 | none=>simp [hi] at h
 | some i=>simp [hi] at h;exact⟨i,rfl,h.1,h.2.1,h.2.2⟩
theorem bGv{β:cX}{n:Nat}{Γ:Env}{H:List bC}{F:List bD}{Q:Exit→Act→World→Prop}{ops:Array Oper}{rest:List Oper}{o:Oper}{d:Nat}{x:Operand}{m:SpotV}(hw:want ops Γ o=some true)(ho:o.op= .buildSlice 330 1 #[(0,x)])(hd:o.dst=some d)(hn:Nat.blt d n=true)
  (hx:Γ.ev x=some (.agg #[.slice m.at_.addr m.at_.list.length m.at_.cap,.slice m.size.addr m.size.list.length m.size.cap,.int .i64 m.since])) (k: ∀b,At β n ((d,.slice (some ⟨b,0,none⟩) 1 1)::Γ) (.obj b (.cells (dD.all [m]).toArray 214)::H) F (wpList prog ops Q rest)):At β n Γ H F (wpList prog ops Q (o::rest)):=by
 obtain⟨i,hi,hz,hs,_⟩:=vL;refine nS hw ho hd hn hx underlying330 hi hz k7 k7 ?_ k;rw [hs]
 kernel_rfl
theorem at_none_row{β:cX}{n:Nat}{Γ:Env}{H:List bC}{F:List bD}{Q:Exit→Act→World→Prop}{ops:Array Oper}{rest:List Oper}{o:Oper}{d:Nat}(hw:want ops Γ o=some true)(ho:o.op= .buildSlice 330 0 #[])(hd:o.dst=some d)(hn:Nat.blt d n=true)
  (k: ∀b,At β n ((d,.slice (some ⟨b,0,none⟩) 0 0)::Γ) (dD.row (.slice (some ⟨b,0,none⟩) 0 0) 214 []::H) F (wpList prog ops Q rest)):At β n Γ H F (wpList prog ops Q (o::rest)):=by
 obtain⟨i,hi,_⟩:=vL;exact bOq dD hw ho hd hn underlying330 hi k
theorem at_app_row{β:cX}{n:Nat}{Γ:Env}{H:List bC}{F:List bD}{Q:Exit→Act→World→Prop}{ops:Array Oper}{rest:List Oper}{o:Oper}{d:Nat}{x y:Operand}{c q:Nat}{v:Value}{A:Option Addr}{xs ys:List SpotV}{H':List bC}(hH:bT H (dD.row v 214 xs) H')(hr:dF β H F dD A ys)(hg:o.guard=none)
  (ho:o.op= .call {callee:= .builtin .append,args:= #[x,y],argTypes:= #[330,330]}) (hd:o.dst=some d) (hn:Nat.blt d n=true)
  (hx:Γ.ev x=some v) (hy:Γ.ev y=some (.slice A q c)) (hq:q=ys.length) (hl:xs.length+ys.length≤2513169434916)
  (k: ∀A' cap',At β n ((d,.slice A' (xs++ys).length cap')::Γ) (dD.row (.slice A' (xs++ys).length cap') 214 (xs++ys)::H') F (wpList prog ops Q rest)):At β n Γ H F (wpList prog ops Q (o::rest)):=by
 obtain⟨i,hi,hz,hs,hb⟩:=vL;exact iZ hH hr hg ho hd hn underlying330 hi hz hs hb rfl hx hy hq k7 m7 k
end
section
open Go.RowKit Go.Proofs.Tryz
structure RowV where
 b:Nat
 A:Option Addr
 c:Nat
 full:Bool
 l:List SpotV
def sz (x:SpotV):List Mono:=x.size.list
def SpotV.c(x:SpotV):SpC:=⟨x.at_.list,x.size.list⟩
def gM (rows:List RowV):List SpotV:=rows.flatMap (·.l)
def bCz (rows:List RowV):Prop:= ∀(i j:Nat) (r q:RowV),rows[i]?=some r→rows[j]?=some q→i≠j→ ∀x∈r.l,∀y∈q.l,sz x≠sz y
def RowOk (r:RowV):Prop:=(r.full=true→r.c=r.l.length)∧r.l.length≤r.c∧pQ SpotV.since r.l∧(∀x∈r.l,∀y∈r.l,sz x=sz y)∧ ∀x∈r.l,sz x≠[]
def Rising(fs:List SpotV):Prop:=fs.Pairwise fun a b=>a.since<b.since
theorem zQ{rows:List RowV}{x:SpotV}:x∈gM rows↔ ∃(k:Nat) (r:RowV),rows[k]?=some r∧x∈r.l:=by
 unfold gM;rw [List.mem_flatMap];constructor
 ·rintro⟨r,hr,hx⟩;obtain⟨k,hk⟩:=List.getElem?_of_mem hr;exact⟨k,r,hk,hx⟩
 ·rintro⟨k,r,hk,hx⟩;exact⟨r,List.mem_of_getElem? hk,hx⟩
theorem bHt{α:Type}{l:List α}{k:Nat}{x:α}(h:l[k]?=some x):l=l.take k++x::l.drop (k+1):=by
 obtain⟨hlt,e⟩:=List.getElem?_eq_some_iff.1 h;rw [←e,List.getElem_cons_drop hlt,List.take_append_drop]
theorem pl_set{α:Type}{l:List α}{k:Nat}{x y:α}(h:l[k]?=some x):l.set k y=l.take k++y::l.drop (k+1):=by
 have hlt:=(List.getElem?_eq_some_iff.1 h).1;rw [List.set_eq_take_append_cons_drop,if_pos hlt]
theorem pl_erase{α:Type}{l:List α}{k:Nat}{x:α}(_h:l[k]?=some x):l.eraseIdx k=l.take k++l.drop (k+1):=List.eraseIdx_eq_take_drop_succ ..
theorem bCm{rows:List RowV}{k:Nat}{r:RowV}(h:rows[k]?=some r):(gM rows).Perm (r.l++(gM (rows.take k)++gM (rows.drop (k+1)))):=by
 have e:gM rows=gM (rows.take k)++(r.l++gM (rows.drop (k+1))):=by
  conv=>lhs;rw [bHt h]
  simp [gM,List.flatMap_append,List.flatMap_cons]
 rw [e];exact List.perm_append_comm_assoc _ _ _
theorem plf_set{rows:List RowV}{k:Nat}{r q:RowV}(h:rows[k]?=some r):(gM (rows.set k q)).Perm (q.l++(gM (rows.take k)++gM (rows.drop (k+1)))):=by
 have e:gM (rows.set k q)=gM (rows.take k)++(q.l++gM (rows.drop (k+1))):=by
  rw [pl_set h];simp [gM,List.flatMap_append,List.flatMap_cons]
 rw [e];exact List.perm_append_comm_assoc _ _ _
theorem pl_eperm{α:Type}{l:List α}{k:Nat}{x:α}(h:l[k]?=some x):l.Perm (x::l.eraseIdx k):=by
 rw [pl_erase h]
 conv=>lhs;rw [bHt h]
 exact List.perm_middle
theorem pl_take{fs:List SpotV}{rows:List RowV}{k:Nat}{r q:RowV}{x:SpotV}{n:List Mono}(hp:(gM rows).Perm fs)(hasc:Rising fs)(hk:rows[k]?=some r)(ha:bCz rows)(hs: ∀y∈r.l,sz y=n)
  (hx:x∈r.l) (hmin: ∀y∈r.l,x.since≤y.since) (hl:r.l.Perm (x::q.l)): ∃i,fs[i]?=some x∧fs.findIdx? (fun y=>decide (sz y=n))=some i∧(gM (rows.set k q)).Perm (fs.eraseIdx i):=by
 have hxf:x∈fs:=hp.mem_iff.1 (zQ.2 ⟨k,r,hk,hx⟩);obtain⟨i,hi⟩:=List.getElem?_of_mem hxf;obtain⟨hlt,ei⟩:=List.getElem?_eq_some_iff.1 hi;refine⟨i,hi,?_,?_⟩
 ·rw [List.findIdx?_eq_some_iff_getElem];refine⟨hlt,by rw [ei];simp [hs x hx],fun j hj=>?_⟩;have hjl:j<fs.length:=k7
  have hlt2:fs[j].since<x.since:=by
   have:=(List.pairwise_iff_getElem.1 hasc) j i hjl hlt hj
   rwa [ei] at this
  have hm:fs[j]∈gM rows:=hp.mem_iff.2 (List.getElem_mem hjl);obtain⟨k2,r2,hk2,hm2⟩:=zQ.1 hm
  by_cases e:k=k2
  ·subst e;rw [hk] at hk2;cases hk2;have:=hmin _ hm2;omega
  ·have h1:=ha k k2 r r2 hk hk2 e x hx _ hm2;simp only [decide_eq_true_eq];intro h2;exact h1 (by rw [hs x hx,h2])
 ·have h1:=(bCm hk).symm.trans hp
  have h2:=(h1.trans (pl_eperm hi))
  have h3:(x::(q.l++(gM (rows.take k)++gM (rows.drop (k+1))))).Perm (x::fs.eraseIdx i):=((hl.append_right _).symm.trans h2)
  exact(plf_set hk).trans (List.Perm.cons_inv h3)
theorem pl_none{fs:List SpotV}{rows:List RowV}{n:List Mono}(hp:(gM rows).Perm fs)(h: ∀(k:Nat) (r:RowV),rows[k]?=some r→ ∀x∈r.l,sz x≠n):fs.findIdx? (fun y=>decide (sz y=n))=none:=by
 rw [List.findIdx?_eq_none_iff];intro x hx;obtain⟨k,r,hk,hm⟩:=zQ.1 (hp.mem_iff.2 hx);simp [h k r hk x hm]
theorem pl_give{fs:List SpotV}{rows:List RowV}{k:Nat}{r q:RowV}{x:SpotV}(hp:(gM rows).Perm fs)(hk:rows[k]?=some r)(hq:q.l=r.l++[x]):(gM (rows.set k q)).Perm (fs++[x]):=by
 refine(plf_set hk).trans ?_;rw [hq,List.append_assoc];have h1:=(bCm hk).symm.trans hp;have h2:(r.l++([x]++(gM (rows.take k)++gM (rows.drop (k+1))))).Perm ([x]++(r.l++(gM (rows.take k)++gM (rows.drop (k+1))))):=List.perm_append_comm_assoc _ _ _;exact h2.trans ((h1.append_left [x]).trans List.perm_append_comm)
theorem pl_apset{rows:List RowV}{k:Nat}{r q:RowV}(ha:bCz rows)(hk:rows[k]?=some r)(h: ∀x∈q.l,∀(j:Nat) (p:RowV),rows[j]?=some p→j≠k→ ∀y∈p.l,sz x≠sz y):bCz (rows.set k q):=by
 have hkl:=(List.getElem?_eq_some_iff.1 hk).1;intro i j a b hi hj hij x hx y hy;rw [List.getElem?_set] at hi hj;split at hi<;>split at hj
 ·omega
 ·rename_i e1 e2;simp at hi;subst hi;exact h x hx j b hj (fun e=>e2 e.symm) y hy
 ·rename_i e1 e2;simp at hj;subst hj;exact fun e=>h y hy i a hi (fun e=>e1 e.symm) x hx e.symm
 ·exact ha i j a b hi hj hij x hx y hy
theorem pl_apnew{rows:List RowV}{q:RowV}(ha:bCz rows)(h:q.l=[]):bCz (rows++[q]):=by
 have key: ∀(i:Nat) (a:RowV) (x:SpotV),(rows++[q])[i]?=some a→x∈a.l→rows[i]?=some a:=fun i a x hi hx=>by
  rw [List.getElem?_append] at hi;split at hi
  ·exact hi
  ·cases hn:i-rows.length with
   | zero=>
    rw [hn] at hi;simp at hi;subst hi;rw [h] at hx;cases hx
   | succ m=>
    rw [hn] at hi;simp at hi
 exact fun i j a b hi hj hij x hx y hy=>ha i j a b (key i a x hi hx) (key j b y hj hy) hij x hx y hy
theorem plf_new{rows:List RowV}{q:RowV}(h:q.l=[]):gM (rows++[q])=gM rows:=by simp [gM,List.flatMap_append,h]
structure PSt where
 end_:PolV
 fA:Option Addr
 fc:Nat
 rows:List RowV
 since:Int
 kv:List (Int×SpotV)
def pW (k:Int):List (Int×SpotV)→Option SpotV
 | []=>none
 | p::r=>if k==p.1 then some p.2 else pW k r
def setS (k:Int)(v:SpotV):List (Int×SpotV)→List (Int×SpotV)
 | []=>[(k,v)]
 | p::r=>if k==p.1 then (k,v)::r else p::setS k v r
def delS (k:Int):List (Int×SpotV)→List (Int×SpotV)
 | []=>[]
 | p::r=>if k==p.1 then r else p::delS k r
def spV (x:SpotV):Value:= .agg (dD.cells x).toArray
def kvV (kv:List (Int×SpotV)):KV:=kv.map fun p=>(p.1,spV p.2)
theorem getS_V(k:Int): ∀kv,bKg k (kvV kv)=(pW k kv).map spV
 | []=>rfl
 | p::r=>by
  show(if k==p.1 then some (spV p.2) else bKg k (kvV r))=_;unfold pW;split
  ·rfl
  ·exact getS_V k r
theorem setS_V(k:Int)(v:SpotV): ∀kv,zH k (spV v) (kvV kv)=kvV (setS k v kv)
 | []=>rfl
 | p::r=>by
  show(if k==p.1 then (k,spV v)::kvV r else (p.1,spV p.2)::zH k (spV v) (kvV r))=_;unfold setS;split
  ·rfl
  ·rw [setS_V k v r];rfl
theorem getS_set(k j:Int)(v:SpotV): ∀kv,pW j (setS k v kv)=if j=k then some v else pW j kv
 | []=>by simp [setS,pW]
 | p::r=>by
  unfold setS
  by_cases h:k=p.1
  ·subst h;simp only [beq_self_eq_true,if_true,pW]
   by_cases hj:j=p.1
   ·simp [hj]
   ·simp [hj]
  ·simp only [beq_iff_eq,h,if_false,pW,getS_set k j v r]
   by_cases hj:j=p.1
   ·subst hj;simp [Ne.symm h]
   ·simp [hj]
theorem bNy(k:Int)(v:SpotV): ∀kv,∀j,j∈(setS k v kv).map (·.1)→j=k∨j∈kv.map (·.1)
 | [],j,h=>by simp [setS] at h;exact .inl h
 | p::r,j,h=>by
  unfold setS at h;split at h
  ·rename_i e;simp at e;simp at h⊢
   rcases h with h | h
   ·exact .inl h
   ·exact .inr (.inr h)
  ·simp only [List.map_cons,List.mem_cons] at h⊢
   rcases h with h | h
   ·exact .inr (.inl h)
   ·rcases bNy k v r j h with h | h
    ·exact .inl h
    ·exact .inr (.inr h)
theorem bIs(k:Int)(v:SpotV): ∀kv,(kv.map (·.1)).Nodup→((setS k v kv).map (·.1)).Nodup
 | [],_=>by simp [setS]
 | p::r,h=>by
  simp only [List.map_cons,List.nodup_cons] at h;unfold setS;split
  ·rename_i e;simp at e;simp only [List.map_cons,List.nodup_cons];rw [e];exact h
  ·rename_i e;simp only [List.map_cons,List.nodup_cons];refine⟨fun hm=>?_,bIs k v r h.2⟩
   rcases bNy k v r _ hm with h1 | h1
   ·exact e (by simp [h1])
   ·exact h.1 h1
theorem setS_mem(k:Int)(v:SpotV): ∀kv,∀p∈setS k v kv,p.2=v∨p∈kv
 | [],p,h=>by simp [setS] at h;exact .inl (by rw [h])
 | q::r,p,h=>by
  unfold setS at h;split at h
  ·rcases List.mem_cons.1 h with rfl | h
   ·exact .inl rfl
   ·exact .inr (List.mem_cons_of_mem _ h)
  ·rcases List.mem_cons.1 h with rfl | h
   ·exact .inr (List.mem_cons_self ..)
   ·rcases setS_mem k v r p h with h | h
    ·exact .inl h
    ·exact .inr (List.mem_cons_of_mem _ h)
theorem bGg(k:Int): ∀kv,(delS k kv).Sublist kv
 | []=> .slnil
 | p::r=>by
  unfold delS;split
  ·exact List.sublist_cons_self ..
  ·exact(bGg k r).cons_cons _
theorem delS_nodup(k:Int)(kv)(h:(kv.map (·.1)).Nodup):((delS k kv).map (·.1)).Nodup:=h.sublist ((bGg k kv).map _)
theorem bMc(k:Int): ∀kv,k∉kv.map (·.1)→pW k kv=none
 | [],_=>rfl
 | p::r,h=>by
  simp only [List.map_cons,List.mem_cons,not_or] at h;unfold pW;rw [if_neg (by simp [h.1]),bMc k r h.2]
theorem getS_del(k j:Int): ∀kv,(kv.map (·.1)).Nodup→pW j (delS k kv)=if j=k then none else pW j kv
 | [],_=>by simp [delS,pW]
 | p::r,h=>by
  simp only [List.map_cons,List.nodup_cons] at h;unfold delS
  by_cases e:k=p.1
  ·subst e;simp only [beq_self_eq_true,if_true]
   by_cases hj:j=p.1
   ·subst hj;rw [if_pos rfl,bMc _ r h.1]
   ·rw [if_neg hj];simp [pW,hj]
  ·simp only [beq_iff_eq,e,if_false,pW,getS_del k j r h.2]
   by_cases hj:j=p.1
   ·subst hj;simp [Ne.symm e]
   ·simp [hj]
theorem getS_mem{k:Int}{x:SpotV}: ∀{kv},pW k kv=some x→ ∃p∈kv,p.2=x
 | [],h=>by cases h
 | p::r,h=>by
  unfold pW at h;split at h
  ·cases h;exact⟨p,List.mem_cons_self ..,rfl⟩
  ·obtain⟨q,hq,e⟩:=getS_mem h;exact⟨q,List.mem_cons_of_mem _ hq,e⟩
theorem pl_mape{α β:Type}(f:α→β): ∀(l:List α) (i:Nat),(l.eraseIdx i).map f=(l.map f).eraseIdx i
 | [],_=>rfl
 | _::_,0=>rfl
 | x::l,i+1=>by simp [pl_mape f l i]
structure fS (st:PSt) (pool:List SpotV) (s:PlC) (fs:List SpotV) (M:Nat):Prop where
 end_:st.end_.list=s.end_
 free:fs.map SpotV.c=s.free
 flat:(gM st.rows).Perm fs
 rise:Rising fs
 top: ∀x∈fs,x.since≤st.since
 apart:bCz st.rows
 ok: ∀(k:Nat) (r:RowV),st.rows[k]?=some r→RowOk r
 keys:(st.kv.map (·.1)).Nodup
 laid: ∀b:Nat,(pW b st.kv).map SpotV.c=(s.laid[b]?).bind id
 poolR: ∀x∈fs,x∈pool
 poolL: ∀p∈st.kv,p.2∈pool
 low:0≤st.since
 high:st.since≤M
 many:st.rows.length≤M
 len:fs.length≤M
structure Picked (n:List Mono) (st:PSt) (k:Nat) (r:RowV):Prop where
 at_:st.rows[k]?=some r
 all: ∀x∈r.l,sz x=n
 rest: ∀(j:Nat) (q:RowV),st.rows[j]?=some q→j≠k→ ∀y∈q.l,sz y≠n
section
variable {st : PSt} {pool fs : List SpotV} {s : PlC} {M k : Nat} {r q : RowV} {n : List Mono} {x y : SpotV}
theorem fS.more(h:fS st pool s fs M){M':Nat}(hm:M≤M'):fS st pool s fs M':=⟨h.end_,h.free,h.flat,h.rise,h.top,h.apart,h.ok,h.keys,h.laid,h.poolR,h.poolL,h.low,by have:=h.high;omega,Nat.le_trans h.many hm,Nat.le_trans h.len hm⟩
theorem fS.wide(h:fS st pool s fs M)(x:SpotV):fS st (x::pool) s fs M:=⟨h.end_,h.free,h.flat,h.rise,h.top,h.apart,h.ok,h.keys,h.laid,fun y hy=>List.mem_cons_of_mem _ (h.poolR y hy),fun p hp=>List.mem_cons_of_mem _ (h.poolL p hp),h.low,h.high,h.many,h.len⟩
theorem fS.later(h:fS st pool s fs M):fS {st with since:=st.since+1} pool s fs (M+1):=⟨h.end_,h.free,h.flat,h.rise,fun x hx=>by have:=h.top x hx;show x.since≤st.since+1;omega,h.apart,h.ok,h.keys,h.laid,h.poolR,h.poolL,by have:=h.low;show 0≤st.since+1;omega,by have:=h.high;show st.since+1≤_;omega,by have:=h.many;show st.rows.length≤_;omega,by have:=h.len;omega⟩
theorem fS.mem(h:fS st pool s fs M)(hk:st.rows[k]?=some r)(hx:x∈r.l):x∈fs:=h.flat.mem_iff.1 (zQ.2 ⟨k,r,hk,hx⟩)
theorem fS.inPool(h:fS st pool s fs M)(hk:st.rows[k]?=some r)(hx:x∈r.l):x∈pool:=h.poolR x (h.mem hk hx)
theorem fS.rlen(h:fS st pool s fs M)(hk:st.rows[k]?=some r):r.l.length≤M:=by
 have h1:=(bCm hk).length_eq;have h2:=h.flat.length_eq;have:=h.len;rw [List.length_append] at h1;omega
theorem picked_old(h:fS st pool s fs M)(hk:st.rows[k]?=some r)(h0:r.l[0]?=some x)(hn:sz x=n):Picked n st k r:=by
 have hx:x∈r.l:=List.mem_of_getElem? h0;have hall: ∀y∈r.l,sz y=n:=fun y hy=>((h.ok k r hk).2.2.2.1 y hy x hx).trans hn;exact⟨hk,hall,fun j q hj hjk y hy e=>h.apart j k q r hj hk hjk y hy x hx (e.trans hn.symm)⟩
theorem picked_new(h:fS st pool s fs M)(hq:q.l=[])(hno: ∀(j:Nat) (r:RowV) (x:SpotV),st.rows[j]?=some r→r.l[0]?=some x→sz x≠n)(A:Option Addr)(c:Nat)(hf:q.full=false):
  fS {st with rows:=st.rows++[q],fA:=A,fc:=c} pool s fs (M+1)∧Picked n {st with rows:=st.rows++[q],fA:=A,fc:=c} st.rows.length q:=by
 have hno2: ∀(j:Nat) (r:RowV),st.rows[j]?=some r→ ∀y∈r.l,sz y≠n:=fun j r hj y hy=>by
  cases hl:r.l with
  | nil=>rw [hl] at hy;cases hy
  | cons z t=>
   have h1:r.l[0]?=some z:=by rw [hl];rfl
   rw [(h.ok j r hj).2.2.2.1 y hy z (f4 h1)];exact hno j r z hj h1
 have key: ∀(i:Nat) (a:RowV),(st.rows++[q])[i]?=some a→i≠st.rows.length→st.rows[i]?=some a:=fun i a hi hne=>by
  rw [List.getElem?_append] at hi;split at hi
  ·exact hi
  ·cases hn:i-st.rows.length with
   | zero=>omega
   | succ m=>rw [hn] at hi;simp at hi
 have hl:(st.rows++[q])[st.rows.length]?=some q:=by simp
 refine⟨⟨h.end_,h.free,by show(gM (st.rows++[q])).Perm fs;rw [plf_new hq];exact h.flat,h.rise,h.top,pl_apnew h.apart hq,fun i a hi=>?_,h.keys,h.laid,h.poolR,h.poolL,h.low,by have:=h.high;show st.since≤_;omega,by have:=h.many;show(st.rows++[q]).length≤_;rw [List.length_append];simp;omega,by have:=h.len;omega⟩,hl,fun y hy=>(by rw [hq] at hy;cases hy),fun j p hj hjk y hy=>hno2 j p (key j p hj hjk) y hy⟩
 by_cases e:i=st.rows.length
 ·subst e;have hi:(st.rows++[q])[st.rows.length]?=some a:=hi;rw [hl] at hi;cases hi;refine⟨fun e=>(by rw [hf] at e;cases e),by rw [hq];exact Nat.zero_le _,?_,fun x hx=>(by rw [hq] at hx;cases hx),fun x hx=>(by rw [hq] at hx;cases hx)⟩;intro k a b _ ha;rw [hq] at ha;simp at ha
 ·exact h.ok i a (key i a hi e)
theorem picked_none(h:fS st pool s fs M)(hp:Picked n st k r)(he:r.l=[]):s.free.findIdx? (fun y=>decide (y.size=n))=none:=by
 rw [←h.free,List.findIdx?_map];refine pl_none h.flat fun j p hj x hx=>?_
 by_cases e:j=k
 ·subst e;rw [hp.at_] at hj;cases hj;rw [he] at hx;cases hx
 ·exact hp.rest j p hj e x hx
theorem rel_take(h:fS st pool s fs M)(hp:Picked n st k r)(h0:r.l[0]?=some x)(hq:r.l.Perm (x::q.l))(hh:pQ SpotV.since q.l)(hc:q.c=q.l.length):
  ∃i,s.free[i]?=some x.c∧s.free.findIdx? (fun y=>decide (y.size=n))=some i∧fS {st with rows:=st.rows.set k q} pool {s with free:=s.free.eraseIdx i} (fs.eraseIdx i) M:=by
 have hx:x∈r.l:=List.mem_of_getElem? h0;have hok:=h.ok k r hp.at_
 have hmin: ∀y∈r.l,x.since≤y.since:=fun y hy=>by
  obtain⟨j,hj⟩:=List.getElem?_of_mem hy;exact heap_min hok.2.2.1 h0 j y hj
 have hsub: ∀y∈q.l,y∈r.l:=fun y hy=>hq.mem_iff.2 (List.mem_cons_of_mem _ hy);obtain⟨i,h1,h2,h3⟩:=pl_take h.flat h.rise hp.at_ h.apart hp.all hx hmin hq;have hkl:=(List.getElem?_eq_some_iff.1 hp.at_).1
 refine⟨i,by rw [←h.free,List.getElem?_map,h1];rfl,by rw [←h.free,List.findIdx?_map];exact h2,⟨h.end_,?_,h3,h.rise.sublist (List.eraseIdx_sublist ..),fun y hy=>h.top y ((List.eraseIdx_sublist ..).subset hy),pl_apset h.apart hp.at_ fun a ha j p hj hjk b hb=>h.apart k j r p hp.at_ hj (Ne.symm hjk) a (hsub a ha) b hb,
  fun j a hj=>?_,h.keys,h.laid,fun y hy=>h.poolR y ((List.eraseIdx_sublist ..).subset hy),h.poolL,h.low,h.high,by show(st.rows.set k q).length≤M;rw [List.length_set];exact h.many,by have:=h.len;have:=(List.eraseIdx_sublist fs i).length_le;omega⟩⟩
 ·show(fs.eraseIdx i).map SpotV.c=s.free.eraseIdx i;rw [←h.free,pl_mape]
 ·have hj:(st.rows.set k q)[j]?=some a:=hj;rw [List.getElem?_set] at hj;split at hj
  ·simp at hj;subst hj;exact⟨fun _=>hc,k7,hh,fun a ha b hb=>hok.2.2.2.1 a (hsub a ha) b (hsub b hb),fun a ha=>hok.2.2.2.2 a (hsub a ha)⟩
  ·exact h.ok j a hj
theorem rel_give(h:fS st pool s fs M)(hp:Picked (sz x) st k r)(hn:sz x≠[])(hq:q.l=r.l++[x])(hf:q.full=false)(hc:q.l.length≤q.c)(hsi:x.since=st.since)(hst: ∀f∈fs,f.since<x.since)(hxp:x∈pool):
  fS {st with rows:=st.rows.set k q} pool {s with free:=s.free++[x.c]} (fs++[x]) (M+1):=by
 have hok:=h.ok k r hp.at_;have hkl:=(List.getElem?_eq_some_iff.1 hp.at_).1
 have hin: ∀y∈q.l,y∈r.l∨y=x:=fun y hy=>by
  rw [hq] at hy
  rcases List.mem_append.1 hy with h1 | h1
  ·exact .inl h1
  ·exact .inr (by simpa using h1)
 have hsz: ∀y∈q.l,sz y=sz x:=fun y hy=>by
  rcases hin y hy with h1 | h1
  ·exact hp.all y h1
  ·rw [h1]
 refine⟨h.end_,by rw [List.map_append,h.free];rfl,pl_give h.flat hp.at_ hq,?_,fun y hy=>?_,pl_apset h.apart hp.at_ fun a ha j p hj hjk b hb e=>hp.rest j p hj hjk b hb (e.symm.trans (hsz a ha)),fun j a hj=>?_,h.keys,h.laid,fun y hy=>?_,h.poolL,h.low,by have:=h.high;show st.since≤_;omega,
  by show(st.rows.set k q).length≤_;rw [List.length_set];have:=h.many;omega,by have:=h.len;rw [List.length_append];simp;omega⟩
 ·refine List.pairwise_append.2 ⟨h.rise,List.pairwise_singleton _ _,fun a ha b hb=>?_⟩;have e:b=x:=by simpa using hb
  subst e;exact hst a ha
 ·show y.since≤st.since
  rcases List.mem_append.1 hy with h1 | h1
  ·exact h.top y h1
  ·have e:y=x:=by simpa using h1
   subst e;omega
 ·have hj:(st.rows.set k q)[j]?=some a:=hj;rw [List.getElem?_set] at hj;split at hj
  ·simp at hj;subst hj;refine⟨fun e=>(by rw [hf] at e;cases e),hc,?_,fun a ha b hb=>(hsz a ha).trans (hsz b hb).symm,fun a ha=>by rw [hsz a ha];exact hn⟩;rw [hq];refine heap_push hok.2.2.1 fun b hb=>?_;have:=hst b (h.mem hp.at_ hb);omega
  ·exact h.ok j a hj
 ·rcases List.mem_append.1 hy with h1 | h1
  ·exact h.poolR y h1
  ·have e:y=x:=by simpa using h1
   subst e;exact hxp
theorem rel_laid(h:fS st pool s fs M)(b:Nat)(hb:b<s.laid.length)(hx:x∈pool)(ats:List (List Mono)):fS {st with kv:=setS b x st.kv} pool {s with laid:=s.laid.set b (some x.c),ats:=ats} fs M:=
 ⟨h.end_,h.free,h.flat,h.rise,h.top,h.apart,h.ok,bIs _ _ _ h.keys,fun j=>by
  show(pW j (setS b x st.kv)).map SpotV.c=((s.laid.set b (some x.c))[j]?).bind id;rw [getS_set,List.getElem?_set]
  by_cases e:j=b
  ·subst e;simp [hb]
  ·rw [if_neg k7,if_neg k7]
   exact h.laid j,h.poolR,fun p hp=>by
  rcases setS_mem _ _ _ p hp with h1 | h1
  ·rw [h1];exact hx
  ·exact h.poolL p h1,h.low,h.high,h.many,h.len⟩
theorem rel_gone(h:fS st pool s fs M)(b:Nat)(hb:b<s.laid.length):fS {st with kv:=delS b st.kv} pool {s with laid:=s.laid.set b none} fs M:=
 ⟨h.end_,h.free,h.flat,h.rise,h.top,h.apart,h.ok,delS_nodup _ _ h.keys,fun j=>by
  show(pW j (delS b st.kv)).map SpotV.c=((s.laid.set b none)[j]?).bind id;rw [getS_del _ _ _ h.keys,List.getElem?_set]
  by_cases e:j=b
  ·subst e;simp [hb]
  ·rw [if_neg k7,if_neg k7]
   exact h.laid j,h.poolR,fun p hp=>h.poolL p ((bGg _ _).subset hp),h.low,h.high,h.many,h.len⟩
theorem rel_end(h:fS st pool s fs M)(e:PolV)(l:List Mono)(he:e.list=l):fS {st with end_:=e} pool {s with end_:=l} fs M:=
 ⟨he,h.free,h.flat,h.rise,h.top,h.apart,h.ok,h.keys,h.laid,h.poolR,h.poolL,h.low,h.high,h.many,h.len⟩
end
theorem zM(A:Option Addr)(n c:Nat):cA prog 165 [.slice A n c] [] [] (fun(_:Unit)=> .int .i64 (n:Nat)) (fun _=>[]) (fun _=>[]):=by
 have hT:=dV;refine j1 func165 ntmps165 ?_;intro β hM;refine g13 ?_;exact rs1 () trivial
theorem Less_spec(A:Option Addr)(c i j:Nat)(l:List SpotV)(x y:SpotV)(hx:l[i]?=some x)(hy:l[j]?=some y):cA prog 372 [.slice A l.length c,.int .i64 (i:Nat),.int .i64 (j:Nat)] [dD.row (.slice A l.length c) 214 l] [] (fun(_:Unit)=> .bool (decide (x.since<y.since))) (fun(_:Unit)=>[dD.row (.slice A l.length c) 214 l]) (fun _=>[]):=by
 have hT:=dV;refine j1 func372 ntmps372 ?_;intro β hM;refine fI ?_;have hi:=(List.getElem?_eq_some_iff.1 hx).1;have hj:=(List.getElem?_eq_some_iff.1 hy).1;refine g5 ?_;refine fB _ _ [(true,0),(true,1),(true,2),(true,3),(true,4),(true,5),(true,6),(true,7),(true,8),(true,9),(true,10),(true,11)] dR l9 (.c0 .nil) bA.self ?_;refine g2 ?_;refine stM rfl (bI hT (k:=i) (cC .head) rfl rfl rfl rfl rfl l7 rfl k7) ?_;refine one ?_;refine stM rfl (iX hx 2) ?_;refine g2 ?_;refine stM rfl (bI hT (k:=j) (cC .head) rfl rfl rfl rfl rfl l7 rfl k7) ?_;refine one ?_;refine stM rfl (iX hy 2) ?_;refine g5 ?_;exact rs1 () trivial
theorem Push_spec(A:Option Addr)(b c:Nat)(l:List SpotV)(x:SpotV)(hl:l.length≤100000000):cA prog 374 [.pointer (some ⟨b,0,none⟩),.iface 214 (.agg #[.slice x.at_.addr x.at_.list.length x.at_.cap,.slice x.size.addr x.size.list.length x.size.cap,.int .i64 x.since])] [.obj b (.cells ([.slice A l.length c]:List Value).toArray 330),dD.row (.slice A l.length c) 214 l] [] (fun(_:Option Addr×Nat)=> .tuple #[]) (fun(y:Option Addr×Nat)=>[.obj b (.cells ([.slice y.1 (l++[x]).length y.2]:List Value).toArray 330),dD.row (.slice y.1 (l++[x]).length y.2) 214 (l++[x])]) (fun _=>[]):=by
 have hT:=dV;refine j1 func374 ntmps374 ?_;intro β hM;refine oM 9 _ _ [(true,0),(true,1),(true,2),(true,3),(true,4),(true,5),(false,6),(false,7),(true,8)] dR l9 (.c0 .nil) bA.self ?_;refine g5 ?_;refine stL rfl (yW rfl underlying214 (fun _ e=>by cases e) rfl) ?_;refine one ?_;refine bGv (m:=x) rfl rfl rfl rfl rfl fun b1=>?_;refine g2 ?_;refine at_app_row kT2 (fM .head rfl) rfl rfl rfl rfl rfl rfl rfl o9 fun A2 c3=>?_;refine g5 ?_;exact cG (A2,c3) rfl (.c0 (.c0 .nil)) e8 p6
section
variable {P : Program} {β : cX} {n : Nat} {Γ : Env} {H : List bC} {F : List bD} {Q : Exit → Act → World → Prop} {K : Act → World → Prop} {T : Tab} {α : Type} {E : Flat α}
theorem run_cutHM(hT:dH P T){t e sz:Nat}{ei:TI}(ht:T.get t=some ⟨.slice e,sz⟩)(he:T.get e=some ei){A:Option Addr}{l c k:Nat}(hk:k≤c)(kj kk:IntKind)(w:World):(Instr.sliceAt t (.slice A l c) none (some (.int kj (k:Nat))) (some (.int kk (k:Nat)))).run P w= .ok (.slice A k k) w:=by
 obtain⟨d,hu,hd⟩:=hT.any ht;cases d<;>simp [TD.of] at hd
 subst hd;have hel:=elem_of hu;rw [run_sliceAt_slice w t _ _ _ _ r9,run_slice_hm w t A l c r9 kj kk (k:Int) (k:Int) k7 k7 k7,hel,hT.size he];simp only [Result.andThen_ok,sliced,Int.toNat_natCast,Nat.zero_mul,Nat.sub_zero]
 congr 2
 split
 ·rfl
 ·cases A<;>simp [Addr.add]
theorem sti_cutHM(hT:dH P T){o:Oper}{t e sz k l cap:Nat}{ei:TI}{x i i':Operand}{kj kk:IntKind}{z z':Int}{A:Option Addr}(ho:o.op= .slice t x none (some i) (some i'))(hx:Γ.ev x=some (.slice A l cap))(hi:Γ.ev i=some (.int kj z))(hi':Γ.ev i'=some (.int kk z'))
  (ht:T.get t=some ⟨.slice e,sz⟩) (he:T.get e=some ei) (hz:z=(k:Nat)) (hz':z'=(k:Nat)) (hk:k≤cap):Sti P β n Γ H F o (.slice A k k):=fun a w S f s hF=>by
 subst hz hz';unfold execOp;simp only [ho,f.ev hx,Option.map_some,Option.map_none,f.ev hi,f.ev hi'];rw [Sem.run_bind,run_cutHM hT ht he hk];rfl
theorem at_held_cut{A:Option Addr}{m c k c':Nat}{xs:List α}{H':List bC}(hH:bT H (E.held (.slice A m c) xs) H')(hk:k≤xs.length)(h:At β n Γ (E.held (.slice A k c') (xs.take k)::H') F K):At β n Γ H F K:=fun a w S f s hF=>by
 have s2:=s.perm hH.perm
 have hb: ∀b,(E.held (.slice A k c') (xs.take k)).blk=some b→(E.held (.slice A m c) xs).blk=some b:=fun b hb=>by
  have hb:tL (.slice A k c') (xs.take k)=some b:=hb;show tL (.slice A m c) xs=some b
  cases xs with
  | nil=>rw [List.take_nil] at hb;cases hb
  | cons x xs=>
   cases k with
   | zero=>cases hb
   | succ k=>cases A<;>exact hb
 have hok:(E.held (.slice A m c) xs).ok w:=s2.ok _ (List.mem_cons_self ..);have hsep:=List.pairwise_cons.1 s2.sep
 have hok2:(E.held (.slice A k c') (xs.take k)).ok w:=by
  refine⟨A,c',by rw [List.length_take,Nat.min_eq_left hk],?_⟩
  rcases Nat.eq_zero_or_pos k with rfl | h0
  ·exact .inl (List.take_zero ..)
  ·obtain⟨g,off,cap,cs,t,fz,e,hbk,hh,hall⟩:=qC hok (k:=0) k7;injection e with e1 _ _
   subst e1
   have hbk2:(E.held (.slice (some ⟨g,off,none⟩) k c') (xs.take k)).blk=some g:=by
    show tL _ (xs.take k)=some g
    cases xs with
    | nil=>simp at hk;omega
    | cons x xs=>
     cases k with
     | zero=>omega
     | succ k=>rfl
   refine .inr ⟨g,off,cs,t,fz,rfl,?_,fun j u hj=>hall j u ?_⟩
   ·show((tL (.slice (some ⟨g,off,none⟩) k c') (xs.take k)).bind fun i=>w.heap[i]?)=_;rw [show tL (.slice (some ⟨g,off,none⟩) k c') (xs.take k)=some g from hbk2];exact hh
   ·have e:E.all xs=E.all (xs.take k)++E.all (xs.drop k):=by rw [←E.all_append,List.take_append_drop]
    rw [e,List.getElem?_append_left (List.getElem?_eq_some_iff.1 hj).1];exact hj
 exact h a w S f ⟨s2.kept,fun d hd=>by
  rcases List.mem_cons.1 hd with rfl | hd
  ·exact hok2
  ·exact s2.ok d (List.mem_cons_of_mem _ hd),fun d hd b hdb=>by
  rcases List.mem_cons.1 hd with rfl | hd
  ·exact s2.own _ (List.mem_cons_self ..) b (hb b hdb)
  ·exact s2.own d (List.mem_cons_of_mem _ hd) b hdb,List.pairwise_cons.2 ⟨fun d hd b hdb=>hsep.1 d hd b (hb b hdb),hsep.2⟩,s2.zone⟩ hF
end
theorem tY:(prog.info? 214).bind (·.zero)=some (.agg #[.slice none 0 0,.slice none 0 0,.int .i64 0]):=k8
theorem LessH_spec(A:Option Addr)(c i j:Nat)(l:List SpotV)(x y:SpotV)(hx:l[i]?=some x)(hy:l[j]?=some y):cA prog 372 [.slice A l.length c,.int .i64 (i:Nat),.int .i64 (j:Nat)] [dD.held (.slice A l.length c) l] [] (fun(_:Unit)=> .bool (decide (x.since<y.since))) (fun(_:Unit)=>[dD.held (.slice A l.length c) l]) (fun _=>[]):=by
 have hT:=dV;refine j1 func372 ntmps372 ?_;intro β hM;refine fI ?_;have hi:=(List.getElem?_eq_some_iff.1 hx).1;have hj:=(List.getElem?_eq_some_iff.1 hy).1;refine g5 ?_;refine fB _ _ [(true,0),(true,1),(true,2),(true,3),(true,4),(true,5),(true,6),(true,7),(true,8),(true,9),(true,10),(true,11)] dR l9 (.c0 .nil) bA.self ?_;refine g2 ?_;refine stM rfl (bI hT (k:=i) (cV .head) rfl rfl rfl rfl rfl l7 rfl k7) ?_;refine one ?_;refine stM rfl (iX hx 2) ?_;refine g2 ?_;refine stM rfl (bI hT (k:=j) (cV .head) rfl rfl rfl rfl rfl l7 rfl k7) ?_;refine one ?_;refine stM rfl (iX hy 2) ?_;refine g5 ?_;exact rs1 () trivial
theorem SwapH_spec(A:Option Addr)(c i j:Nat)(l:List SpotV)(x y:SpotV)(hx:l[i]?=some x)(hy:l[j]?=some y):cA prog 375 [.slice A l.length c,.int .i64 (i:Nat),.int .i64 (j:Nat)] [dD.held (.slice A l.length c) l] [] (fun(_:Unit)=> .tuple #[]) (fun(_:Unit)=>[dD.held (.slice A l.length c) ((l.set i y).set j x)]) (fun _=>[]):=by
 have hT:=dV;refine j1 func375 ntmps375 ?_;intro β hM;have hi:=(List.getElem?_eq_some_iff.1 hx).1;have hj:=(List.getElem?_eq_some_iff.1 hy).1;refine at_mixT _ _ (.fl 0 (.fl 1 (.fl 2 (.fl 3 (.fl 4 (.fl 5 (.fl 8 (.fl 9 (.two 6 10 (.two 7 10 (.op 10 (.op 11 (.op 12 (.op 13 (.op 14 (.op 15 .nil)))))) (.two 7 11 (.op 11 (.op 12 (.op 13 (.op 14 (.op 15 .nil))))) (.op 7 (.op 12 (.op 13 (.op 14 (.op 15 .nil))))))) (.two 6 11 (.two 7 11 (.op 11 (.op 12 (.op 13 (.op 14 (.op 15 .nil))))) (.op 7 (.op 12 (.op 13 (.op 14 (.op 15 .nil)))))) (.op 6 (.op 7 (.op 12 (.op 13 (.op 14 (.op 15 .nil)))))))))))))))) dR l9 .nil bA.self ?_;refine g8 ?_;refine tU (o:=_) (o':=_) rfl rfl ?_ ?_
 ·refine ss (bI hT (k:=j) (cV .head) rfl rfl rfl rfl rfl l7 rfl k7) ?_;refine one ?_;refine tU (o:=_) (o':=_) rfl rfl ?_ ?_
  ·refine ss (lL hy 0) ?_;refine g2 ?_;refine ss (bI hT (k:=i) (cV .head) rfl rfl rfl rfl rfl l7 rfl k7) ?_;refine g2 ?_;refine ss (lL hx 0) ?_;refine g2 ?_;refine ss (bI hT (k:=i) (cV .head) rfl rfl rfl rfl rfl l7 rfl k7) ?_;refine g2 ?_;refine dG hT (k:=i) (fo:=0) (y':=y) .head rfl rfl rfl rfl rfl rfl rfl rfl rfl hx rfl ?_;refine g2 ?_;obtain⟨x1,hx2⟩:=gx (l.set i y) j (m9);refine ss (bI hT (k:=j) (cV .head) rfl rfl rfl rfl rfl l7 rfl (m9)) ?_;refine g2 ?_;refine dG hT (k:=j) (fo:=0) (y':=x) .head rfl rfl rfl rfl rfl rfl rfl rfl rfl hx2 rfl ?_;refine g2 ?_;exact cG () rfl (.c0 .nil) e8 p6
  refine ss (bI hT (k:=i) (cV .head) rfl rfl rfl rfl rfl l7 rfl k7) ?_;refine one ?_;refine tU (o:=_) (o':=_) rfl rfl ?_ ?_
  ·refine ss (lL hy 0) ?_;refine g2 ?_;refine ss (lL hx 0) ?_;refine g2 ?_;refine ss (bI hT (k:=i) (cV .head) rfl rfl rfl rfl rfl l7 rfl k7) ?_;refine g2 ?_;refine dG hT (k:=i) (fo:=0) (y':=y) .head rfl rfl rfl rfl rfl rfl rfl rfl rfl hx rfl ?_;refine g2 ?_;obtain⟨x3,hx4⟩:=gx (l.set i y) j (m9);refine ss (bI hT (k:=j) (cV .head) rfl rfl rfl rfl rfl l7 rfl (m9)) ?_;refine g2 ?_;refine dG hT (k:=j) (fo:=0) (y':=x) .head rfl rfl rfl rfl rfl rfl rfl rfl rfl hx4 rfl ?_;refine g2 ?_;exact cG () rfl (.c0 .nil) e8 p6
  refine ss (lL hx 0) ?_;refine g2 ?_;refine ss (lL hy 0) ?_;refine g2 ?_;refine ss (bI hT (k:=i) (cV .head) rfl rfl rfl rfl rfl l7 rfl k7) ?_;refine g2 ?_;refine dG hT (k:=i) (fo:=0) (y':=y) .head rfl rfl rfl rfl rfl rfl rfl rfl rfl hx rfl ?_;refine g2 ?_;obtain⟨x5,hx6⟩:=gx (l.set i y) j (m9);refine ss (bI hT (k:=j) (cV .head) rfl rfl rfl rfl rfl l7 rfl (m9)) ?_;refine g2 ?_;refine dG hT (k:=j) (fo:=0) (y':=x) .head rfl rfl rfl rfl rfl rfl rfl rfl rfl hx6 rfl ?_;refine g2 ?_;exact cG () rfl (.c0 .nil) e8 p6
 refine ss (bI hT (k:=i) (cV .head) rfl rfl rfl rfl rfl l7 rfl k7) ?_;refine one ?_;refine tU (o:=_) (o':=_) rfl rfl ?_ ?_
 ·refine ss (bI hT (k:=j) (cV .head) rfl rfl rfl rfl rfl l7 rfl k7) ?_;refine one ?_;refine tU (o:=_) (o':=_) rfl rfl ?_ ?_
  ·refine ss (lL hy 0) ?_;refine g2 ?_;refine ss (lL hx 0) ?_;refine g2 ?_;refine ss (bI hT (k:=i) (cV .head) rfl rfl rfl rfl rfl l7 rfl k7) ?_;refine g2 ?_;refine dG hT (k:=i) (fo:=0) (y':=y) .head rfl rfl rfl rfl rfl rfl rfl rfl rfl hx rfl ?_;refine g2 ?_;obtain⟨x7,hx8⟩:=gx (l.set i y) j (m9);refine ss (bI hT (k:=j) (cV .head) rfl rfl rfl rfl rfl l7 rfl (m9)) ?_;refine g2 ?_;refine dG hT (k:=j) (fo:=0) (y':=x) .head rfl rfl rfl rfl rfl rfl rfl rfl rfl hx8 rfl ?_;refine g2 ?_;exact cG () rfl (.c0 .nil) e8 p6
  refine ss (lL hx 0) ?_;refine g2 ?_;refine ss (lL hy 0) ?_;refine g2 ?_;refine ss (bI hT (k:=i) (cV .head) rfl rfl rfl rfl rfl l7 rfl k7) ?_;refine g2 ?_;refine dG hT (k:=i) (fo:=0) (y':=y) .head rfl rfl rfl rfl rfl rfl rfl rfl rfl hx rfl ?_;refine g2 ?_;obtain⟨x9,hx10⟩:=gx (l.set i y) j (m9);refine ss (bI hT (k:=j) (cV .head) rfl rfl rfl rfl rfl l7 rfl (m9)) ?_;refine g2 ?_;refine dG hT (k:=j) (fo:=0) (y':=x) .head rfl rfl rfl rfl rfl rfl rfl rfl rfl hx10 rfl ?_;refine g2 ?_;exact cG () rfl (.c0 .nil) e8 p6
 refine ss (lL hx 0) ?_;refine g2 ?_;refine ss (bI hT (k:=j) (cV .head) rfl rfl rfl rfl rfl l7 rfl k7) ?_;refine g2 ?_;refine ss (lL hy 0) ?_;refine g2 ?_;refine ss (bI hT (k:=i) (cV .head) rfl rfl rfl rfl rfl l7 rfl k7) ?_;refine g2 ?_;refine dG hT (k:=i) (fo:=0) (y':=y) .head rfl rfl rfl rfl rfl rfl rfl rfl rfl hx rfl ?_;refine g2 ?_;obtain⟨x11,hx12⟩:=gx (l.set i y) j (m9);refine ss (bI hT (k:=j) (cV .head) rfl rfl rfl rfl rfl l7 rfl (m9)) ?_;refine g2 ?_;refine dG hT (k:=j) (fo:=0) (y':=x) .head rfl rfl rfl rfl rfl rfl rfl rfl rfl hx12 rfl ?_;refine g2 ?_;exact cG () rfl (.c0 .nil) e8 p6
theorem PopH_spec(A:Option Addr)(b c m:Nat)(l:List SpotV)(x:SpotV)(hlm:l.length=m+1)(hc:m+1≤c)(hx:l[m]?=some x)(hl:m≤100000000):cA prog 373 [.pointer (some ⟨b,0,none⟩)] [.obj b (.cells ([.slice A (m+1) c]:List Value).toArray 330),dD.held (.slice A (m+1) c) l] [] (fun(_:Unit)=> .iface 214 (.agg #[.slice x.at_.addr x.at_.list.length x.at_.cap,.slice x.size.addr x.size.list.length x.size.cap,.int .i64 x.since])) (fun(_:Unit)=>[.obj b (.cells ([.slice A m m]:List Value).toArray 330),dD.held (.slice A m m) (l.take m)]) (fun _=>[]):=by
 have hT:=dV;refine j1 func373 ntmps373 ?_;intro β hM;refine g12 ?_;refine bM (z':=((m:Nat):Int)) q8 ?_;refine g9 ?_;refine ss (bI hT (k:=m) (cV kT1) rfl rfl rfl rfl rfl hlm.symm k7 (k7)) ?_;refine ss (lL hx 0) ?_;refine i7 tY fun b1=>?_;refine g11 ?_;refine ss (sti_cutHM hT (k:=m) rfl rfl rfl rfl rfl rfl rfl rfl k7) ?_;refine g7 ?_;refine ss (vW rfl underlying214 (fun _ e=>by cases e) rfl) ?_;refine g4 ?_;refine at_held_cut (k:=m) (c':=m) kT2 k7 ?_;exact rs1 () trivial
theorem load_rowbox{w:World}{b n c:Nat}{A:Option Addr}(h:w.cell? ⟨b,0,none⟩=some (.slice A n c)):(loadVar 330 ⟨b,0,none⟩).run prog w= .ok (.slice A n c) w:=by
 have ha: ∀w,(isAgg 330).run prog w= .ok false w:=dV.agg (t:=330) (i:=⟨.slice 214,1⟩) rfl;simp only [loadVar,Sem.run_bind,Result.andThen_ok,ha,Bool.false_eq_true,if_false,run_load,h]
theorem jP{name:String}{f:FuncId}{w:World}{b n c:Nat}{A:Option Addr}(hm: ∀w b,(method (prog.types.size+Made.depth) 284 (.pointer (some ⟨b,0,none⟩)) name).run prog w=(do let r←loadVar 330 ⟨b,0,none⟩;pure (f,r):Sem (FuncId×Value)).run prog w)(h:w.cell? ⟨b,0,none⟩=some (.slice A n c)):
  (method (prog.types.size+Made.depth) 284 (.pointer (some ⟨b,0,none⟩)) name).run prog w= .ok (f,.slice A n c) w:=by
 rw [hm,Sem.run_bind,load_rowbox h];rfl
theorem bIn(w:World)(b:Nat):(method (prog.types.size+Made.depth) 284 (.pointer (some ⟨b,0,none⟩)) "Len").run prog w=(do let r←loadVar 330 ⟨b,0,none⟩;pure (165,r):Sem (FuncId×Value)).run prog w:=k8
theorem sS(w:World)(b:Nat):(method (prog.types.size+Made.depth) 284 (.pointer (some ⟨b,0,none⟩)) "Less").run prog w=(do let r←loadVar 330 ⟨b,0,none⟩;pure (372,r):Sem (FuncId×Value)).run prog w:=k8
theorem wW(w:World)(b:Nat):(method (prog.types.size+Made.depth) 284 (.pointer (some ⟨b,0,none⟩)) "Swap").run prog w=(do let r←loadVar 330 ⟨b,0,none⟩;pure (375,r):Sem (FuncId×Value)).run prog w:=k8
theorem bLy(w:World)(b:Nat):(method (prog.types.size+Made.depth) 284 (.pointer (some ⟨b,0,none⟩)) "Push").run prog w= .ok (374,.pointer (some ⟨b,0,none⟩)) w:=k8
theorem meth_pop(w:World)(b:Nat):(method (prog.types.size+Made.depth) 284 (.pointer (some ⟨b,0,none⟩)) "Pop").run prog w= .ok (373,.pointer (some ⟨b,0,none⟩)) w:=k8
def rowBox(r:RowV):bC:= .obj r.b (.cells ([.slice r.A r.l.length r.c]:List Value).toArray 330)
def rowArr(r:RowV):bC:=if r.full then dD.held (.slice r.A r.l.length r.c) r.l else dD.row (.slice r.A r.l.length r.c) 214 r.l
def famR (rows:List RowV):List bC:=rows.flatMap fun r=>[rowBox r,rowArr r]
def rowG (r:RowV):bD:=(bD.cells r.b 0 [.slice r.A r.l.length r.c]).and (dD.sl (.slice r.A r.l.length r.c) r.l)
theorem bNl(r:RowV)(rows:List RowV):famR (r::rows)=rowBox r::rowArr r::famR rows:=rfl
theorem pE(a b:List RowV):famR (a++b)=famR a++famR b:=List.flatMap_append
theorem fam_out{rows:List RowV}{k:Nat}{r:RowV}(h:rows[k]?=some r)(H:List bC):(H++famR rows).Perm (rowBox r::rowArr r::(H++famR (rows.take k++rows.drop (k+1)))):=by
 have e:famR rows=famR (rows.take k)++([rowBox r,rowArr r]++famR (rows.drop (k+1))):=by
  conv=>lhs;rw [bHt h]
  rw [pE,bNl];rfl
 rw [e,pE];have h1:(famR (rows.take k)++([rowBox r,rowArr r]++famR (rows.drop (k+1)))).Perm ([rowBox r,rowArr r]++(famR (rows.take k)++famR (rows.drop (k+1)))):=List.perm_append_comm_assoc _ _ _;exact(h1.append_left H).trans (List.perm_append_comm_assoc _ _ _)
theorem fam_back{rows:List RowV}{k:Nat}{r:RowV}(h:rows[k]?=some r)(q:RowV)(H:List bC):(rowBox q::rowArr q::(H++famR (rows.take k++rows.drop (k+1)))).Perm (H++famR (rows.set k q)):=by
 have e:famR (rows.set k q)=famR (rows.take k)++([rowBox q,rowArr q]++famR (rows.drop (k+1))):=by
  rw [pl_set h,pE,bNl];rfl
 rw [e,pE];have h1:(famR (rows.take k)++([rowBox q,rowArr q]++famR (rows.drop (k+1)))).Perm ([rowBox q,rowArr q]++(famR (rows.take k)++famR (rows.drop (k+1)))):=List.perm_append_comm_assoc _ _ _;exact((h1.append_left H).trans (List.perm_append_comm_assoc _ _ _)).symm
theorem fam_new{rows:List RowV}(q:RowV)(H:List bC):(rowBox q::rowArr q::(H++famR rows)).Perm (H++famR (rows++[q])):=by
 rw [pE];have h1:([rowBox q,rowArr q]++(H++famR rows)).Perm ((H++famR rows)++[rowBox q,rowArr q]):=List.perm_append_comm;rw [List.append_assoc] at h1;exact h1
theorem lends_rowArr{r:RowV}{L:List bC}{G:List bD}(h:uW L G):uW (rowArr r::L) (dD.sl (.slice r.A r.l.length r.c) r.l::G):=by
 unfold rowArr;split
 ·exact lends_held h
 ·exact oD h
theorem bMx: ∀(rows:List RowV),uW (famR rows) [bD.each rows rowG]
 | []=>fun S w _ _=>All.cons (fun x hx=>by cases hx) (fun g hg=>by cases hg)
 | r::rows=>fun S w hok hS=>by
  have h1:=lA (b:=r.b) (cs:=[.slice r.A r.l.length r.c]) (t:=330) (lends_rowArr (r:=r) (bMx rows)) S w hok hS;have a1:=h1 _ (List.mem_cons_self ..);have a2:=h1 _ (List.mem_cons_of_mem _ (List.mem_cons_self ..));have a3:=h1 _ (List.mem_cons_of_mem _ (List.mem_cons_of_mem _ (List.mem_cons_self ..)));refine All.cons (fun x hx=>?_) (fun g hg=>by cases hg)
  rcases List.mem_cons.1 hx with rfl | hx
  ·exact⟨a1,a2⟩
  ·exact a3 x hx
theorem Split.front: ∀(L H:List bC),Split (L++H) L H
 | [],_=> .nil
 | _::L,H=> .c0 (Split.front L H)
section
variable {P : Program} {β : cX} {n : Nat} {Γ : Env} {H H' : List bC} {F : List bD} {K : Act → World → Prop}
theorem at_arr_held{r:RowV}(hH:bT H (rowArr r) H')(h:At β n Γ (dD.held (.slice r.A r.l.length r.c) r.l::H') F K):At β n Γ H F K:=by
 unfold rowArr at hH;split at hH
 ·exact fun a w S f s k=>h a w S f (s.perm hH.perm) k
 ·exact bBd hH h
end
theorem rowArr_full{r:RowV}(h:r.full=true):rowArr r=dD.held (.slice r.A r.l.length r.c) r.l:=by unfold rowArr;rw [if_pos h]
theorem rowArr_room{r:RowV}(h:r.full=false):rowArr r=dD.row (.slice r.A r.l.length r.c) 214 r.l:=by unfold rowArr;rw [if_neg s8]
theorem bNt{α:Type}{l:List α}{x z:α}{N:Nat}(hl:l.length=N+1)(_hx:l[0]?=some x)(_hz:l[N]?=some z):(l.set 0 z).set N x=(l.take N).set 0 z++[x]:=by
 apply List.ext_getElem?;intro i;rw [List.getElem?_set,List.getElem?_set,List.getElem?_append];simp only [List.length_set,List.length_take,hl,List.getElem?_set,List.getElem?_take];have hm:min N (N+1)=N:=k7
 rw [hm]
 by_cases h1:i<N
 ·rw [if_neg k7,if_pos h1]
  by_cases h0:0=i
  ·subst h0;rw [if_pos rfl,if_pos k7,if_pos rfl,if_pos k7]
  ·rw [if_neg h0,if_neg h0,if_pos h1]
 ·rw [if_neg h1]
  by_cases h2:N=i
  ·subst h2;rw [if_pos rfl,if_pos k7,Nat.sub_self];rfl
  ·rw [if_neg h2,if_neg k7,List.getElem?_eq_none k7,List.getElem?_eq_none n5]
theorem swap_perm{α:Type}{l m:List α}{x z:α}{N:Nat}(hl:l.length=N+1)(hx:l[0]?=some x)(hz:l[N]?=some z)(hm:m.Perm ((l.take N).set 0 z)):l.Perm (x::m):=by
 have h1:((l.set 0 z).set N x).Perm l:=by
  have h0:0<l.length:=k7
  have hN:N<l.length:=k7
  have e1:l[N]=z:=by have:=List.getElem?_eq_getElem hN;rw [hz] at this;exact(Option.some.inj this).symm
  have e2:l[0]=x:=by have:=List.getElem?_eq_getElem h0;rw [hx] at this;exact(Option.some.inj this).symm
  have:((l.set 0 l[N]).set N l[0]).Perm l:=List.set_set_perm h0 hN
  rwa [e1,e2] at this
 rw [bNt hl hx hz] at h1;exact h1.symm.trans ((hm.symm.append_right [x]).trans List.perm_append_comm)
section
variable {α : Type} {m : List α} {i j k : Nat} {y z w : α}
theorem gX(h:m[k]?=some y):(m++[w])[k]?=some y:=by
 rw [List.getElem?_append_left (List.getElem?_eq_some_iff.1 h).1];exact h
theorem bCv(hy:m[i]?=some y)(hz:m[j]?=some z):((m++[w]).set i z).set j y=(m.set i z).set j y++[w]:=by
 have h1:=(List.getElem?_eq_some_iff.1 hy).1;have h2:=(List.getElem?_eq_some_iff.1 hz).1;rw [List.set_append_left _ _ h1,List.set_append_left _ _ (by simpa using h2)]
theorem bBr(hy:m[i]?=some y)(hz:m[j]?=some z):((m.set i z).set j y).Perm m:=by
 obtain⟨h1,e1⟩:=List.getElem?_eq_some_iff.1 hy;obtain⟨h2,e2⟩:=List.getElem?_eq_some_iff.1 hz;have:((m.set i m[j]).set j m[i]).Perm m:=List.set_set_perm h1 h2
 rwa [e1,e2] at this
end
section
variable {m : List SpotV} {i : Nat} {y y1 y2 : SpotV}
theorem child1(h1:m[2*i+1]?=some y1)(hy:y.since≤y1.since)(hm:m.length≤2*i+2): ∀(k:Nat) b,1≤k→(k-1)/2=i→m[k]?=some b→y.since≤b.since:=fun k b hk he hb=>by
 have hlt:=(List.getElem?_eq_some_iff.1 hb).1;have e:k=2*i+1:=k7
 subst e;rw [h1] at hb;cases hb;exact hy
theorem child2(h1:m[2*i+1]?=some y1)(h2:m[2*i+1+1]?=some y2)(hy1:y.since≤y1.since)(hy2:y.since≤y2.since): ∀(k:Nat) b,1≤k→(k-1)/2=i→m[k]?=some b→y.since≤b.since:=fun k b hk he hb=>by
 have e:k=2*i+1∨k=2*i+1+1:=k7
 rcases e with rfl | rfl
 ·rw [h1] at hb;cases hb;exact hy1
 ·rw [h2] at hb;cases hb;exact hy2
theorem sink_none(h:bHn SpotV.since m i)(hm:m.length≤2*i+1):pQ SpotV.since m:=fun k a b hk ha hb=>by
 have hlt:=(List.getElem?_eq_some_iff.1 hb).1;exact h.1 k a b hk k7 ha hb
end
theorem lessN{A:Option Addr}{c i j n:Nat}{l:List SpotV}{x y:SpotV}(h:l.length=n)(hx:l[i]?=some x)(hy:l[j]?=some y):cA prog 372 [.slice A n c,.int .i64 (i:Nat),.int .i64 (j:Nat)] [dD.held (.slice A n c) l] [] (fun(_:Unit)=> .bool (decide (x.since<y.since))) (fun(_:Unit)=>[dD.held (.slice A n c) l]) (fun _=>[]):=by
 subst h;exact LessH_spec A c i j l x y hx hy
theorem swapN{A:Option Addr}{c i j n:Nat}{l:List SpotV}{x y:SpotV}(h:l.length=n)(hx:l[i]?=some x)(hy:l[j]?=some y):cA prog 375 [.slice A n c,.int .i64 (i:Nat),.int .i64 (j:Nat)] [dD.held (.slice A n c) l] [] (fun(_:Unit)=> .tuple #[]) (fun(_:Unit)=>[dD.held (.slice A n c) ((l.set i y).set j x)]) (fun _=>[]):=by
 subst h;exact SwapH_spec A c i j l x y hx hy
theorem up0_spec(A:Option Addr)(b c:Nat)(l:List SpotV):cA prog 222 [.iface 284 (.pointer (some ⟨b,0,none⟩)),.int .i64 0] [.obj b (.cells ([.slice A l.length c]:List Value).toArray 330),dD.row (.slice A l.length c) 214 l] [] (fun(_:Unit)=> .tuple #[]) (fun(_:Unit)=>[.obj b (.cells ([.slice A l.length c]:List Value).toArray 330),dD.row (.slice A l.length c) 214 l]) (fun _=>[]):=by
 have hT:=dV;refine j1 func222 ntmps222 ?_;intro β hM;refine one ?_;refine bNr 1 ?_;refine at_round ?_;refine g5 ?_;refine bM (z':=(-1:Int)) m7 ?_;refine ss (sti_quoI rfl rfl rfl k7) ?_;refine bM (z':=((0:Nat):Int)) m7 ?_;refine g9 ?_;refine bQ (t':=true) m7 ?_;refine g15 ?_;exact cG () rfl (.c0 (.c0 .nil)) e8 (rfl)
theorem upS_spec(A:Option Addr)(b c m:Nat)(l:List SpotV)(x y:SpotV)(hx:l[m+1]?=some x)(hy:l[m/2]?=some y)(hle:y.since≤x.since)(hm:m≤100000000):cA prog 222 [.iface 284 (.pointer (some ⟨b,0,none⟩)),.int .i64 ((m+1:Nat):Int)] [.obj b (.cells ([.slice A l.length c]:List Value).toArray 330),dD.row (.slice A l.length c) 214 l] [] (fun(_:Unit)=> .tuple #[]) (fun(_:Unit)=>[.obj b (.cells ([.slice A l.length c]:List Value).toArray 330),dD.row (.slice A l.length c) 214 l]) (fun _=>[]):=by
 have hT:=dV;refine j1 func222 ntmps222 ?_;intro β hM;refine one ?_;refine bNr 1 ?_;refine at_round ?_;refine g5 ?_;refine bM (z':=((m:Nat):Int)) q8 ?_;refine ss (sti_quoI rfl rfl rfl k7) ?_;refine bM (z':=((m/2:Nat):Int)) (by rw [Int.tdiv_eq_ediv_of_nonneg k7];exact yB k7 k7) ?_;refine g9 ?_;refine bQ (t':=false) (beq_eq_false_iff_ne.2 k7) ?_;refine g4 ?_;refine fY (j4 func372) (Less_spec A c (m+1) (m/2) l x y hx hy) rfl rfl rfl rfl rfl (fun w S s k=>jP (fun w b=>sS w b) ((bAg .head) w S s k 0 _ rfl)) rfl (.c1 .nil) e8 fun _=>?_;refine bQ (t':=false) (decide_eq_false k7) ?_;refine g10 ?_;exact cG () rfl (.c1 (.c0 .nil)) e8 (rfl)
theorem downS_spec(A:Option Addr)(b c N:Nat)(m0:List SpotV)(z:SpotV)(hN:m0.length=N)(hs:bHn SpotV.since m0 0)(hb:N≤100000000):cA prog 221 [.iface 284 (.pointer (some ⟨b,0,none⟩)),.int .i64 0,.int .i64 (N:Nat)] [.obj b (.cells ([.slice A (N+1) c]:List Value).toArray 330),dD.held (.slice A (N+1) c) (m0++[z])] [] (fun(x:List SpotV×Bool)=> .bool x.2) (fun(x:List SpotV×Bool)=>[.obj b (.cells ([.slice A (N+1) c]:List Value).toArray 330),dD.held (.slice A (N+1) c) (x.1++[z])]) (fun(x:List SpotV×Bool)=>[bD.pure (x.1.Perm m0∧pQ SpotV.since x.1)]):=by
 have hT:=dV;refine j1 func221 ntmps221 ?_;intro β hM;refine g13 ?_;refine bX (ι:=Nat×List SpotV) [(0,_),(1,_),(2,_)] ⟨rfl,rfl,rfl,e8⟩ (fun⟨i,m⟩=>[(7,.int .i64 (i:Nat))]) (fun⟨i,m⟩=>[dD.held (.slice A (N+1) c) (m++[z])]) (fun⟨i,m⟩=>[bD.pure (m.length=N∧m.Perm m0∧bHn SpotV.since m i∧(i<N∨i=0))]) (fun⟨i,m⟩=>N-i) (0,m0) ⟨rfl,e8⟩ (.c1 .nil) ⟨e9 (⟨hN,List.Perm.refl _,hs,.inr rfl⟩),e8⟩ ?_;rintro⟨i,m⟩;dsimp only;refine bL d7 fun hinv2=>?_;have hlm:=hinv2.1;have hii:=hinv2.2.2.2;have hlen:(m++[z]).length=N+1:=by simp;omega
 refine g5 ?_;refine inc (2*i) ?_;refine one ?_;refine inc ((2*i)+1) ?_;refine g10 ?_;refine k_le (fun hg18=>?_) fun hg18=>?_
 ·refine g21 ?_;have hhp:pQ SpotV.since m:=sink_none hinv2.2.2.1 k7;exact rs1 (m,_) ⟨e9 ⟨hinv2.2.1,hhp⟩,e8⟩
 refine g2 ?_;refine bQ (t':=false) (decide_eq_false k7) ?_;refine g17 ?_;refine inc (((2*i)+1)+1) ?_;refine g9 ?_;refine xK (fun hg28=>?_) fun hg28=>?_
 ·refine g3 ?_;obtain⟨y1,hy2⟩:=gx m (2*i+1+1);obtain⟨y3,hy4⟩:=gx m (2*i+1);refine fY (j4 func372) (lessN hlen (gX hy2) (gX hy4)) rfl rfl rfl rfl rfl (fun w S s k=>jP (fun w b=>sS w b) ((bAg kT1) w S s k 0 _ rfl)) rfl (.c0 .nil) e8 fun _=>?_;refine g3 ?_;refine fJ (fun hc33=>?_) fun hc33=>?_
  ·refine g11 ?_;obtain⟨y5,hy6⟩:=gx m i;refine fY (j4 func372) (lessN hlen (gX hy2) (gX hy6)) rfl rfl rfl rfl rfl (fun w S s k=>jP (fun w b=>sS w b) ((bAg kT1) w S s k 0 _ rfl)) rfl (.c0 .nil) e8 fun _=>?_;refine g3 ?_;refine bKt (fun hc39=>?_) fun hc39=>?_
   ·have hc39:=Int.not_lt.1 (of_decide_eq_false hc39);refine g15 ?_;have hhp:pQ SpotV.since m:=bJv hinv2.2.2.1 hy6 fun k q h1 h2 h3=>Int.le_trans (show y5.since≤y1.since by omega) ((child2 hy4 hy2 k7 k7) k q h1 h2 h3);exact rs1 (m,_) ⟨e9 ⟨hinv2.2.1,hhp⟩,e8⟩
   have hc39:=of_decide_eq_true hc39;refine g7 ?_;refine fY (j4 func375) (swapN hlen (gX hy6) (gX hy2)) rfl rfl rfl rfl rfl (fun w S s k=>jP (fun w b=>wW w b) ((bAg kT1) w S s k 0 _ rfl)) rfl (.c0 .nil) e8 fun _=>?_;have hsw:=bCv (w:=z) hy6 hy2;rw [hsw];refine g8 ?_;exact bk2 ((2*i+1+1),(m.set i y1).set (2*i+1+1) y5) ⟨e9 (⟨by simp only [List.length_set];omega,(bBr hy6 hy2).trans hinv2.2.1,bBn hinv2.2.2.1 hy6 hy2 k7 k7 k7 (child2 hy4 hy2 k7 k7),k7⟩),e8⟩
  refine g8 ?_;obtain⟨y7,hy8⟩:=gx m i;refine fY (j4 func372) (lessN hlen (gX hy4) (gX hy8)) rfl rfl rfl rfl rfl (fun w S s k=>jP (fun w b=>sS w b) ((bAg kT1) w S s k 0 _ rfl)) rfl (.c0 .nil) e8 fun _=>?_;refine g3 ?_;refine bKt (fun hc39=>?_) fun hc39=>?_
  ·have hc39:=Int.not_lt.1 (of_decide_eq_false hc39);refine g15 ?_;have hhp:pQ SpotV.since m:=bJv hinv2.2.2.1 hy8 fun k q h1 h2 h3=>Int.le_trans (show y7.since≤y3.since by omega) ((child2 hy4 hy2 k7 k7) k q h1 h2 h3);exact rs1 (m,_) ⟨e9 ⟨hinv2.2.1,hhp⟩,e8⟩
  have hc39:=of_decide_eq_true hc39;refine g7 ?_;refine fY (j4 func375) (swapN hlen (gX hy8) (gX hy4)) rfl rfl rfl rfl rfl (fun w S s k=>jP (fun w b=>wW w b) ((bAg kT1) w S s k 0 _ rfl)) rfl (.c0 .nil) e8 fun _=>?_;have hsw:=bCv (w:=z) hy8 hy4;rw [hsw];refine g8 ?_;exact bk2 ((2*i+1),(m.set i y3).set (2*i+1) y7) ⟨e9 (⟨by simp only [List.length_set];omega,(bBr hy8 hy4).trans hinv2.2.1,bBn hinv2.2.2.1 hy8 hy4 k7 k7 k7 (child2 hy4 hy2 k7 k7),k7⟩),e8⟩
 refine g16 ?_;obtain⟨y9,hy10⟩:=gx m (2*i+1);obtain⟨y11,hy12⟩:=gx m i;refine fY (j4 func372) (lessN hlen (gX hy10) (gX hy12)) rfl rfl rfl rfl rfl (fun w S s k=>jP (fun w b=>sS w b) ((bAg kT1) w S s k 0 _ rfl)) rfl (.c0 .nil) e8 fun _=>?_;refine g3 ?_;refine bKt (fun hc39=>?_) fun hc39=>?_
 ·have hc39:=Int.not_lt.1 (of_decide_eq_false hc39);refine g15 ?_;have hhp:pQ SpotV.since m:=bJv hinv2.2.2.1 hy12 fun k q h1 h2 h3=>Int.le_trans (show y11.since≤y9.since by omega) ((child1 hy10 (Int.le_refl _) k7) k q h1 h2 h3);exact rs1 (m,_) ⟨e9 ⟨hinv2.2.1,hhp⟩,e8⟩
 have hc39:=of_decide_eq_true hc39;refine g7 ?_;refine fY (j4 func375) (swapN hlen (gX hy12) (gX hy10)) rfl rfl rfl rfl rfl (fun w S s k=>jP (fun w b=>wW w b) ((bAg kT1) w S s k 0 _ rfl)) rfl (.c0 .nil) e8 fun _=>?_;have hsw:=bCv (w:=z) hy12 hy10;rw [hsw];refine g8 ?_;exact bk2 ((2*i+1),(m.set i y9).set (2*i+1) y11) ⟨e9 (⟨by simp only [List.length_set];omega,(bBr hy12 hy10).trans hinv2.2.1,bBn hinv2.2.2.1 hy12 hy10 k7 k7 k7 (child1 hy10 (Int.le_refl _) k7),k7⟩),e8⟩
theorem up_any(A:Option Addr)(b c:Nat)(l:List SpotV)(x:SpotV)(ha: ∀q∈l,q.since≤x.since)(hl:l.length≤100000000):cA prog 222 [.iface 284 (.pointer (some ⟨b,0,none⟩)),.int .i64 (l.length:Nat)] [.obj b (.cells ([.slice A (l++[x]).length c]:List Value).toArray 330),dD.row (.slice A (l++[x]).length c) 214 (l++[x])] [] (fun(_:Unit)=> .tuple #[])
  (fun(_:Unit)=>[.obj b (.cells ([.slice A (l++[x]).length c]:List Value).toArray 330),dD.row (.slice A (l++[x]).length c) 214 (l++[x])]) (fun _=>[]):=by
 rcases Nat.eq_zero_or_pos l.length with h0 | h0
 ·have e:l=[]:=List.eq_nil_of_length_eq_zero h0;subst e;exact up0_spec A b c [x]
 ·obtain⟨m,hm⟩: ∃m,l.length=m+1:=⟨l.length-1,k7⟩
  obtain⟨y,hy⟩: ∃y,l[m/2]?=some y:=⟨_,List.getElem?_eq_getElem k7⟩
  have:=upS_spec A b c m (l++[x]) x y (by rw [←hm];simp) (gX hy) (ha y (f4 hy)) k7;rw [←hm] at this;exact this
theorem at_full_row{β:cX}{n:Nat}{Γ:Env}{H:List bC}{F:List bD}{Q:Exit→Act→World→Prop}{ops:Array Oper}{rest:List Oper}{o:Oper}{d c q m:Nat}{x y:Operand}{A B:Option Addr}{xs ys:List SpotV}(hr:dF β H F dD A xs)(hs:dF β H F dD B ys)(hw:want ops Γ o=some true)
  (ho:o.op= .call {callee:= .builtin .append,args:= #[x,y],argTypes:= #[330,330]}) (hd:o.dst=some d) (hn:Nat.blt d n=true) (hx:Γ.ev x=some (.slice A m m)) (hm:m=xs.length) (hy:Γ.ev y=some (.slice B q c)) (hq:q=ys.length) (h0:0<ys.length) (hl:xs.length+ys.length≤2000000000)
  (k: ∀A' cap',At β n ((d,.slice A' (xs++ys).length cap')::Γ) (dD.row (.slice A' (xs++ys).length cap') 214 (xs++ys)::H) F (wpList prog ops Q rest)):At β n Γ H F (wpList prog ops Q (o::rest)):=by
 obtain⟨i,hi,hz,hsz,hb⟩:=vL;exact bIb (E:=dD) hr hs hw ho hd hn underlying330 hi hz hsz hb rfl hx hm hy hq h0 k7 m7 k
theorem PushH_spec(A:Option Addr)(b:Nat)(l:List SpotV)(x:SpotV)(hl:l.length≤100000000):cA prog 374 [.pointer (some ⟨b,0,none⟩),.iface 214 (.agg #[.slice x.at_.addr x.at_.list.length x.at_.cap,.slice x.size.addr x.size.list.length x.size.cap,.int .i64 x.since])] [.obj b (.cells ([.slice A l.length l.length]:List Value).toArray 330),dD.held (.slice A l.length l.length) l] [] (fun(_:Option Addr×Nat)=> .tuple #[]) (fun(y:Option Addr×Nat)=>[.obj b (.cells ([.slice y.1 (l++[x]).length y.2]:List Value).toArray 330),dD.row (.slice y.1 (l++[x]).length y.2) 214 (l++[x])]) (fun _=>[]):=by
 have hT:=dV;refine j1 func374 ntmps374 ?_;intro β hM;refine oM 9 _ _ [(true,0),(true,1),(true,2),(true,3),(true,4),(true,5),(false,6),(false,7),(true,8)] dR l9 (.c0 .nil) bA.self ?_;refine g5 ?_;refine stL rfl (yW rfl underlying214 (fun _ e=>by cases e) rfl) ?_;refine one ?_;refine bGv (m:=x) rfl rfl rfl rfl rfl fun b1=>?_;refine g2 ?_;refine at_full_row (cV kT2) (fM .head rfl) rfl rfl rfl rfl rfl rfl rfl rfl (Nat.succ_pos _) o9 fun A2 c3=>?_;refine g5 ?_;exact cG (A2,c3) rfl (.c0 (.c0 .nil)) e8 p6
theorem HPush_spec(A:Option Addr)(b c:Nat)(l:List SpotV)(x:SpotV)(ha: ∀q∈l,q.since≤x.since)(hl:l.length≤100000000):cA prog 168 [.iface 284 (.pointer (some ⟨b,0,none⟩)),.iface 214 (.agg #[.slice x.at_.addr x.at_.list.length x.at_.cap,.slice x.size.addr x.size.list.length x.size.cap,.int .i64 x.since])] [.obj b (.cells ([.slice A l.length c]:List Value).toArray 330),dD.row (.slice A l.length c) 214 l] [] (fun(_:Option Addr×Nat)=> .tuple #[]) (fun(y:Option Addr×Nat)=>[.obj b (.cells ([.slice y.1 (l++[x]).length y.2]:List Value).toArray 330),dD.row (.slice y.1 (l++[x]).length y.2) 214 (l++[x])]) (fun(y:Option Addr×Nat)=>[bD.pure ((l++[x]).length≤y.2)]):=by
 have hT:=dV;refine j1 func168 ntmps168 ?_;intro β hM;refine g4 ?_;refine fY (j4 func374) (Push_spec A b c l x hl) rfl rfl rfl rfl rfl (fun w S s k=>bLy w b) rfl (.c0 (.c0 .nil)) e8 fun y1=>?_;refine g5 ?_;refine fY (j4 func165) (zM y1.1 (l++[x]).length y1.2) rfl rfl rfl rfl rfl (fun w S s k=>jP (fun w b=>bIn w b) ((bAg .head) w S s k 0 _ rfl)) rfl .nil e8 fun _=>?_;refine one ?_;refine bM (z':=((l.length:Nat):Int)) n9 ?_;refine f9 func222 (up_any y1.1 b y1.2 l x ha hl) (.c0 (.c0 .nil)) e8 fun _=>?_;refine iK<|bDd (E:=dD) (xs:=l++[x]) kT1 fun hcap=>?_;exact cG y1 rfl (.c0 (.c0 .nil)) ⟨e9 hcap,e8⟩ (rfl)
theorem HPushF_spec(A:Option Addr)(b:Nat)(l:List SpotV)(x:SpotV)(ha: ∀q∈l,q.since≤x.since)(hl:l.length≤100000000):cA prog 168 [.iface 284 (.pointer (some ⟨b,0,none⟩)),.iface 214 (.agg #[.slice x.at_.addr x.at_.list.length x.at_.cap,.slice x.size.addr x.size.list.length x.size.cap,.int .i64 x.since])] [.obj b (.cells ([.slice A l.length l.length]:List Value).toArray 330),dD.held (.slice A l.length l.length) l] [] (fun(_:Option Addr×Nat)=> .tuple #[]) (fun(y:Option Addr×Nat)=>[.obj b (.cells ([.slice y.1 (l++[x]).length y.2]:List Value).toArray 330),dD.row (.slice y.1 (l++[x]).length y.2) 214 (l++[x])]) (fun(y:Option Addr×Nat)=>[bD.pure ((l++[x]).length≤y.2)]):=by
 have hT:=dV;refine j1 func168 ntmps168 ?_;intro β hM;refine g4 ?_;refine fY (j4 func374) (PushH_spec A b l x hl) rfl rfl rfl rfl rfl (fun w S s k=>bLy w b) rfl (.c0 (.c0 .nil)) e8 fun y1=>?_;refine g5 ?_;refine fY (j4 func165) (zM y1.1 (l++[x]).length y1.2) rfl rfl rfl rfl rfl (fun w S s k=>jP (fun w b=>bIn w b) ((bAg .head) w S s k 0 _ rfl)) rfl .nil e8 fun _=>?_;refine one ?_;refine bM (z':=((l.length:Nat):Int)) n9 ?_;refine f9 func222 (up_any y1.1 b y1.2 l x ha hl) (.c0 (.c0 .nil)) e8 fun _=>?_;refine iK<|bDd (E:=dD) (xs:=l++[x]) kT1 fun hcap=>?_;exact cG y1 rfl (.c0 (.c0 .nil)) ⟨e9 hcap,e8⟩ (rfl)
theorem HPop_spec(A:Option Addr)(b c N:Nat)(l:List SpotV)(x z:SpotV)(hlm:l.length=N+1)(hc:N+1≤c)(hx:l[0]?=some x)(hz:l[N]?=some z)(hs:pQ SpotV.since l)(hb:N≤100000000):cA prog 166 [.iface 284 (.pointer (some ⟨b,0,none⟩))] [.obj b (.cells ([.slice A (N+1) c]:List Value).toArray 330),dD.held (.slice A (N+1) c) l] [] (fun(_:List SpotV)=> .iface 214 (.agg #[.slice x.at_.addr x.at_.list.length x.at_.cap,.slice x.size.addr x.size.list.length x.size.cap,.int .i64 x.since])) (fun(m:List SpotV)=>[.obj b (.cells ([.slice A N N]:List Value).toArray 330),dD.held (.slice A N N) m]) (fun(m:List SpotV)=>[bD.pure (l.Perm (x::m)∧pQ SpotV.since m)]):=by
 have hT:=dV;refine j1 func166 ntmps166 ?_;intro β hM;refine g8 ?_;refine fY (j4 func165) (zM A (N+1) c) rfl rfl rfl rfl rfl (fun w S s k=>jP (fun w b=>bIn w b) ((bAg .head) w S s k 0 _ rfl)) rfl .nil e8 fun _=>?_;refine one ?_;refine bM (z':=((N:Nat):Int)) (by rw [show((N+1:Nat):Int)-1=(N:Nat) by omega];exact yB rfl k7) ?_;refine g7 ?_;refine fY (j4 func375) (swapN hlm hx hz) rfl rfl rfl rfl rfl (fun w S s k=>jP (fun w b=>wW w b) ((bAg .head) w S s k 0 _ rfl)) rfl (.c1 .nil) e8 fun _=>?_;rw [bNt hlm hx hz];refine g6 ?_;refine bH func221 (downS_spec A b c N ((l.take N).set 0 z) x n5 (sink_start hs) hb) rfl rfl (.c1 (.c0 .nil)) e8 fun y1=>?_;refine bL d7 fun hdn=>?_;have hyl:y1.1.length=N:=by have:=hdn.1.length_eq;simp at this;omega
 refine g5 ?_;refine fY (j4 func373) (PopH_spec A b c N (y1.1++[x]) x n5 hc (by rw [←hyl];simp) hb) rfl rfl rfl rfl rfl (fun w S s k=>meth_pop w b) rfl (.c0 (.c0 .nil)) e8 fun _=>?_;have htk:(y1.1++[x]).take N=y1.1:=by rw [←hyl];simp
 rw [htk];refine g4 ?_;exact rs1 y1.1 ⟨e9 ⟨swap_perm hlm hx hz hdn.1,hdn.2⟩,e8⟩
set_option maxRecDepth 100000
end
section
open Go.RowKit Go.Proofs.Tryz
set_option maxRecDepth 100000
end
section
open Go.RowKit Go.Proofs.Tryz
set_option maxRecDepth 100000
end
section
open Go.RowKit Go.Proofs.Tryz
end
end Go.Proofs.YtnfiadlonjediaaGreatDoor
