/- Texts of one proof, one behind the other: DelS, TysP, PlL, PlM, PlW, PlX, PlY, PlF, PlZ, PlP, Above, RefRight, RefGrowsK, RefA. -/
import Derived.Test.YtnfiadlonjediaaGreatDoorM9
import Derived.Test.YtnfiadlonjediaaGreatDoorM8
import Derived.ArgAppend
import Derived.Test.YtnfiadlonjediaaGreatDoorM7
import Derived.Test.YtnfiadlonjediaaGreatDoorM12
import Derived.Test.YtnfiadlonjediaaGreatDoorM13
import Derived.Test.YtnfiadlonjediaaGreatDoorM11
import Derived.Test.YtnfiadlonjediaaGreatDoorM4
import Derived.Test.YtnfiadlonjediaaGreatDoorM6
import Derived.Test.YtnfiadlonjediaaGreatDoorRows
import Derived.WalkKit
import Derived.WalkSpells
import Derived.WalkLawsBesides
import Derived.Handy
import Derived.Deep.QuietTactic
import Derived.Deep.Light
import Derived.BigQuiet
set_option maxRecDepth 100000
namespace Go.Proofs.YtnfiadlonjediaaGreatDoor
section
open Go.RowKit Go.Proofs.Tryz
end
section
open Go.RowKit Go.ChangeShapes Go.WideShapes Go.Proofs.Tryz
structure SpotV where
 at_:PolV
 size:PolV
 since:Int
 deriving Inhabited
def dU:Flat SpotV where
 size:=3
 cells:=λx=>[.slice x.at_.addr x.at_.list.length x.at_.cap,.slice x.size.addr x.size.list.length x.size.cap,.int .i64 x.since]
 len:=λ_=>rfl
 one:=λx u hu=>by
  simp at hu
  rcases hu with rfl|rfl|rfl<;>rfl
 pos:=m7
structure LayV where
 at_:(Sl PolV)
 size:PolV
 deriving Inhabited
def bFz:Tab:=[(3,⟨.int .i64,1⟩),(2,⟨.int .i64,1⟩),(5,⟨.int .u8,1⟩),(4,⟨.bool,1⟩),(77,⟨.int .u8,1⟩),(32,⟨.int .i64,1⟩),(43,⟨.slice 111,1⟩),(42,⟨.slice 43,1⟩),(172,⟨.struct [(3,0),(3,1),(2,2),(43,3),(77,4)],5⟩),(78,⟨.slice 172,1⟩),(95,⟨.struct [(42,0),(3,1)],2⟩),(22,⟨.slice 95,1⟩),(80,⟨.struct [(3,0),(3,1),(43,2),(42,3),(77,4),(78,5)],6⟩),(23,⟨.slice 80,1⟩),(24,⟨.slice 3,1⟩),(99,⟨.slice 4,1⟩),(26,⟨.struct [(3,0),(22,1),(23,2),(24,3)],4⟩),(114,⟨.struct [(3,0),(3,1)],2⟩),(97,⟨.slice 114,1⟩),(201,⟨.struct [(3,0),(3,1),(3,2),(99,3)],4⟩),(214,⟨.struct [(43,0),(43,1),(3,2)],3⟩),(329,⟨.slice 214,1⟩),(45,⟨.struct [(42,0),(43,1)],2⟩),(198,⟨.array 64 4,64⟩),(111,⟨.struct [(2,0),(109,1)],7⟩),(109,⟨.array 6 5,6⟩),(290,⟨.slice 5,1⟩),(224,⟨.int .u64,1⟩),(199,⟨.other,1⟩),(274,⟨.other,1⟩),(126,⟨.other,1⟩),(105,⟨.struct [(43,0),(103,1),(3,2),(102,3)],4⟩),(102,⟨.map 3 214,1⟩),(330,⟨.slice 214,1⟩),(284,⟨.other,1⟩),(103,⟨.slice 284,1⟩),(101,⟨.other,1⟩)]
theorem fK:dY prog bFz:=uO.ok
 ⟨⟨by rw[underlying3];rfl,k8⟩,
  ⟨by rw[underlying2];rfl,k8⟩,
  ⟨by rw[underlying5];rfl,k8⟩,
  ⟨by rw[underlying4];rfl,k8⟩,
  ⟨by rw[underlying77];rfl,k8⟩,
  ⟨by rw[underlying32];rfl,k8⟩,
  ⟨by rw[underlying43];rfl,k8⟩,
  ⟨by rw[underlying42];rfl,k8⟩,
  ⟨by rw[underlying172];rfl,k8⟩,
  ⟨by rw[underlying78];rfl,k8⟩,
  ⟨by rw[underlying95];rfl,k8⟩,
  ⟨by rw[underlying22];rfl,k8⟩,
  ⟨by rw[underlying80];rfl,k8⟩,
  ⟨by rw[underlying23];rfl,k8⟩,
  ⟨by rw[underlying24];rfl,k8⟩,
  ⟨by rw[underlying99];rfl,k8⟩,
  ⟨by rw[underlying26];rfl,k8⟩,
  ⟨by rw[underlying114];rfl,k8⟩,
  ⟨by rw[underlying97];rfl,k8⟩,
  ⟨by rw[underlying201];rfl,k8⟩,
  ⟨by rw[underlying214];rfl,k8⟩,
  ⟨by rw[underlying329];rfl,k8⟩,
  ⟨by rw[underlying45];rfl,k8⟩,
  ⟨by rw[underlying198];rfl,k8⟩,
  ⟨by rw[underlying111];rfl,k8⟩,
  ⟨by rw[underlying109];rfl,k8⟩,
  ⟨by rw[underlying290];rfl,k8⟩,
  ⟨by rw[underlying224];rfl,k8⟩,
  ⟨by rw[underlying199];rfl,k8⟩,
  ⟨by rw[underlying274];rfl,k8⟩,
  ⟨by rw[underlying126];rfl,k8⟩,
  ⟨by rw[underlying105];rfl,k8⟩,
  ⟨by rw[underlying102];rfl,k8⟩,
  ⟨by rw[underlying330];rfl,k8⟩,
  ⟨by rw[underlying284];rfl,k8⟩,
  ⟨by rw[underlying103];rfl,k8⟩,
  ⟨by rw[underlying101];rfl,k8⟩,e8⟩
theorem xC: ∃i:TypeInfo,prog.info? 214=some i/\i.zero=some (.agg #[.slice none 0 0,.slice none 0 0,.int .i64 0])/\i.size=3/\i.bytes=56:=by
 have h:(prog.info? 214).map (λi=>(i.zero,i.size,i.bytes))=some (some (.agg #[.slice none 0 0,.slice none 0 0,.int .i64 0]),3,56):=k8
 cases hi:prog.info? 214 with
 |none=>simp[hi]at h
 |some i=>simp[hi]at h;exact⟨i,rfl,h.1,h.2.1,h.2.2⟩
theorem bKr{β:dC}{n:Nat}{Γ:Env}{H:List bD}{F:List bC}{Q:Exit->Act->World->Prop}{ops:Array Oper}{rest:List Oper}{o:Oper}{d:Nat}{x:Operand}{m:SpotV}(hw:want ops Γ o=some true)(ho:o.op= .buildSlice 330 1 #[(0,x)])(hd:o.dst=some d)(hn:Nat.blt d n=true)
  (hx:Γ.ev x=some (.agg #[.slice m.at_.addr m.at_.list.length m.at_.cap,.slice m.size.addr m.size.list.length m.size.cap,.int .i64 m.since])) (k: ∀b,At β n ((d,.slice (some ⟨b,0,none⟩) 1 1)::Γ) (.obj b (.cells (dU.all [m]).toArray 214)::H) F (wpList prog ops Q rest)):At β n Γ H F (wpList prog ops Q (o::rest)):=by
 obtain⟨i,hi,hz,hs,_⟩:=xC;refine nF hw ho hd hn hx underlying330 hi hz k7 k7 ?_ k;rw[hs]
 kernel_rfl
theorem at_none_row{β:dC}{n:Nat}{Γ:Env}{H:List bD}{F:List bC}{Q:Exit->Act->World->Prop}{ops:Array Oper}{rest:List Oper}{o:Oper}{d:Nat}(hw:want ops Γ o=some true)(ho:o.op= .buildSlice 330 0 #[])(hd:o.dst=some d)(hn:Nat.blt d n=true)
  (k: ∀b,At β n ((d,.slice (some ⟨b,0,none⟩) 0 0)::Γ) (dU.row (.slice (some ⟨b,0,none⟩) 0 0) 214 []::H) F (wpList prog ops Q rest)):At β n Γ H F (wpList prog ops Q (o::rest)):=by
 obtain⟨i,hi,_⟩:=xC;exact bQi dU hw ho hd hn underlying330 hi k
theorem at_app_row{β:dC}{n:Nat}{Γ:Env}{H:List bD}{F:List bC}{Q:Exit->Act->World->Prop}{ops:Array Oper}{rest:List Oper}{o:Oper}{d:Nat}{x y:Operand}{c q:Nat}{v:Value}{A:Option Addr}{xs ys:List SpotV}{H':List bD}(hH:bW H (dU.row v 214 xs) H')(hr:dL β H F dU A ys)(hg:o.guard=none)
  (ho:o.op= .call {callee:= .builtin .append,args:= #[x,y],argTypes:= #[330,330]}) (hd:o.dst=some d) (hn:Nat.blt d n=true)
  (hx:Γ.ev x=some v) (hy:Γ.ev y=some (.slice A q c)) (hq:q=ys.length) (hl:xs.length+ys.length<=2513169434916)
  (k: ∀A' cap',At β n ((d,.slice A' (xs++ys).length cap')::Γ) (dU.row (.slice A' (xs++ys).length cap') 214 (xs++ys)::H') F (wpList prog ops Q rest)):At β n Γ H F (wpList prog ops Q (o::rest)):=by
 obtain⟨i,hi,hz,hs,hb⟩:=xC;exact jG hH hr hg ho hd hn underlying330 hi hz hs hb rfl hx hy hq k7 m7 k
end
section
open Go.RowKit Go.Proofs.Tryz
structure RowV where
 b:Nat
 A:Option Addr
 c:Nat
 full:Bool
 l:List SpotV
def sz (x:SpotV):List Mono:=x.size.list
def SpotV.c(x:SpotV):SpC:=⟨x.at_.list,x.size.list⟩
def iC (rows:List RowV):List SpotV:=rows.flatMap (·.l)
def bEc (rows:List RowV):Prop:= ∀(i j:Nat) (r q:RowV),rows[i]?=some r->rows[j]?=some q->i≠j-> ∀x∈r.l,∀y∈q.l,sz x≠sz y
def RowOk (r:RowV):Prop:=(r.full=true->r.c=r.l.length)/\r.l.length<=r.c/\qL SpotV.since r.l/\(∀x∈r.l,∀y∈r.l,sz x=sz y)/\ ∀x∈r.l,sz x≠[]
def Rising(fs:List SpotV):Prop:=fs.Pairwise λa b=>a.since<b.since
theorem bBt{rows:List RowV}{x:SpotV}:x∈iC rows↔ ∃(k:Nat) (r:RowV),rows[k]?=some r/\x∈r.l:=by
 unfold iC;rw[List.mem_flatMap];constructor
 .rintro⟨r,hr,hx⟩;obtain⟨k,hk⟩:=List.getElem?_of_mem hr;exact⟨k,r,hk,hx⟩
 .rintro⟨k,r,hk,hx⟩;exact⟨r,List.mem_of_getElem? hk,hx⟩
theorem bJx{α:Type}{l:List α}{k:Nat}{x:α}(h:l[k]?=some x):l=l.take k++x::l.drop (k+1):=by
 obtain⟨hlt,e⟩:=List.getElem?_eq_some_iff.1 h;rw[<-e,List.getElem_cons_drop hlt,List.take_append_drop]
theorem pl_set{α:Type}{l:List α}{k:Nat}{x y:α}(h:l[k]?=some x):l.set k y=l.take k++y::l.drop (k+1):=by
 have hlt:=(List.getElem?_eq_some_iff.1 h).1;rw[List.set_eq_take_append_cons_drop,if_pos hlt]
theorem pl_erase{α:Type}{l:List α}{k:Nat}{x:α}(_h:l[k]?=some x):l.eraseIdx k=l.take k++l.drop (k+1):=List.eraseIdx_eq_take_drop_succ ..
theorem bEh{rows:List RowV}{k:Nat}{r:RowV}(h:rows[k]?=some r):(iC rows).Perm (r.l++(iC (rows.take k)++iC (rows.drop (k+1)))):=by
 have e:iC rows=iC (rows.take k)++(r.l++iC (rows.drop (k+1))):=by
  conv=>lhs;rw[bJx h]
  simp[iC,List.flatMap_append,List.flatMap_cons]
 rw[e];exact List.perm_append_comm_assoc _ _ _
theorem plf_set{rows:List RowV}{k:Nat}{r q:RowV}(h:rows[k]?=some r):(iC (rows.set k q)).Perm (q.l++(iC (rows.take k)++iC (rows.drop (k+1)))):=by
 have e:iC (rows.set k q)=iC (rows.take k)++(q.l++iC (rows.drop (k+1))):=by
  rw[pl_set h];simp[iC,List.flatMap_append,List.flatMap_cons]
 rw[e];exact List.perm_append_comm_assoc _ _ _
theorem pl_eperm{α:Type}{l:List α}{k:Nat}{x:α}(h:l[k]?=some x):l.Perm (x::l.eraseIdx k):=by
 rw[pl_erase h]
 conv=>lhs;rw[bJx h]
 exact List.perm_middle
theorem pl_take{fs:List SpotV}{rows:List RowV}{k:Nat}{r q:RowV}{x:SpotV}{n:List Mono}(hp:(iC rows).Perm fs)(hasc:Rising fs)(hk:rows[k]?=some r)(ha:bEc rows)(hs: ∀y∈r.l,sz y=n)
  (hx:x∈r.l) (hmin: ∀y∈r.l,x.since<=y.since) (hl:r.l.Perm (x::q.l)): ∃i,fs[i]?=some x/\fs.findIdx? (λy=>decide (sz y=n))=some i/\(iC (rows.set k q)).Perm (fs.eraseIdx i):=by
 have hxf:x∈fs:=hp.mem_iff.1 (bBt.2 ⟨k,r,hk,hx⟩);obtain⟨i,hi⟩:=List.getElem?_of_mem hxf;obtain⟨hlt,ei⟩:=List.getElem?_eq_some_iff.1 hi;refine⟨i,hi,?_,?_⟩
 .rw[List.findIdx?_eq_some_iff_getElem];refine⟨hlt,by rw[ei];simp[hs x hx],λj hj=>?_⟩;have hjl:j<fs.length:=k7
  have hlt2:fs[j].since<x.since:=by
   have:=(List.pairwise_iff_getElem.1 hasc) j i hjl hlt hj
   rwa[ei]at this
  have hm:fs[j]∈iC rows:=hp.mem_iff.2 (List.getElem_mem hjl);obtain⟨k2,r2,hk2,hm2⟩:=bBt.1 hm
  by_cases e:k=k2
  .subst e;rw[hk]at hk2;cases hk2;have:=hmin _ hm2;omega
  .have h1:=ha k k2 r r2 hk hk2 e x hx _ hm2;simp only[decide_eq_true_eq];intro h2;exact h1 (by rw[hs x hx,h2])
 .have h1:=(bEh hk).symm.trans hp
  have h2:=(h1.trans (pl_eperm hi))
  have h3:(x::(q.l++(iC (rows.take k)++iC (rows.drop (k+1))))).Perm (x::fs.eraseIdx i):=((hl.append_right _).symm.trans h2)
  exact(plf_set hk).trans (List.Perm.cons_inv h3)
theorem pl_none{fs:List SpotV}{rows:List RowV}{n:List Mono}(hp:(iC rows).Perm fs)(h: ∀(k:Nat) (r:RowV),rows[k]?=some r-> ∀x∈r.l,sz x≠n):fs.findIdx? (λy=>decide (sz y=n))=none:=by
 rw[List.findIdx?_eq_none_iff];intro x hx;obtain⟨k,r,hk,hm⟩:=bBt.1 (hp.mem_iff.2 hx);simp[h k r hk x hm]
theorem pl_give{fs:List SpotV}{rows:List RowV}{k:Nat}{r q:RowV}{x:SpotV}(hp:(iC rows).Perm fs)(hk:rows[k]?=some r)(hq:q.l=r.l++[x]):(iC (rows.set k q)).Perm (fs++[x]):=by
 refine(plf_set hk).trans ?_;rw[hq,List.append_assoc];have h1:=(bEh hk).symm.trans hp;have h2:(r.l++([x]++(iC (rows.take k)++iC (rows.drop (k+1))))).Perm ([x]++(r.l++(iC (rows.take k)++iC (rows.drop (k+1))))):=List.perm_append_comm_assoc _ _ _;exact h2.trans ((h1.append_left [x]).trans List.perm_append_comm)
theorem pl_apset{rows:List RowV}{k:Nat}{r q:RowV}(ha:bEc rows)(hk:rows[k]?=some r)(h: ∀x∈q.l,∀(j:Nat) (p:RowV),rows[j]?=some p->j≠k-> ∀y∈p.l,sz x≠sz y):bEc (rows.set k q):=by
 have hkl:=(List.getElem?_eq_some_iff.1 hk).1;intro i j a b hi hj hij x hx y hy;rw[List.getElem?_set]at hi hj;split at hi<;>split at hj
 .omega
 .rename_i e1 e2;simp at hi;subst hi;exact h x hx j b hj (λe=>e2 e.symm) y hy
 .rename_i e1 e2;simp at hj;subst hj;exact λe=>h y hy i a hi (λe=>e1 e.symm) x hx e.symm
 .exact ha i j a b hi hj hij x hx y hy
theorem pl_apnew{rows:List RowV}{q:RowV}(ha:bEc rows)(h:q.l=[]):bEc (rows++[q]):=by
 have key: ∀(i:Nat) (a:RowV) (x:SpotV),(rows++[q])[i]?=some a->x∈a.l->rows[i]?=some a:=λi a x hi hx=>by
  rw[List.getElem?_append]at hi;split at hi
  .exact hi
  .cases hn:i-rows.length with
   |zero=>
    rw[hn]at hi;simp at hi;subst hi;rw[h]at hx;cases hx
   |succ m=>
    rw[hn]at hi;simp at hi
 exact λi j a b hi hj hij x hx y hy=>ha i j a b (key i a x hi hx) (key j b y hj hy) hij x hx y hy
theorem plf_new{rows:List RowV}{q:RowV}(h:q.l=[]):iC (rows++[q])=iC rows:=by simp[iC,List.flatMap_append,h]
structure PSt where
 end_:PolV
 fA:Option Addr
 fc:Nat
 rows:List RowV
 since:Int
 kv:List (Int×SpotV)
def qV (k:Int):List (Int×SpotV)->Option SpotV
 |[]=>none
 |p::r=>if k==p.1 then some p.2 else qV k r
def setS (k:Int)(v:SpotV):List (Int×SpotV)->List (Int×SpotV)
 |[]=>[(k,v)]
 |p::r=>if k==p.1 then (k,v)::r else p::setS k v r
def delS (k:Int):List (Int×SpotV)->List (Int×SpotV)
 |[]=>[]
 |p::r=>if k==p.1 then r else p::delS k r
def spV (x:SpotV):Value:= .agg (dU.cells x).toArray
def kvV (kv:List (Int×SpotV)):KV:=kv.map λp=>(p.1,spV p.2)
theorem getS_V(k:Int): ∀kv,bJk k (kvV kv)=(qV k kv).map spV
 |[]=>rfl
 |p::r=>by
  show(if k==p.1 then some (spV p.2)else bJk k (kvV r))=_;unfold qV;split
  .rfl
  .exact getS_V k r
theorem setS_V(k:Int)(v:SpotV): ∀kv,zR k (spV v) (kvV kv)=kvV (setS k v kv)
 |[]=>rfl
 |p::r=>by
  show(if k==p.1 then (k,spV v)::kvV r else (p.1,spV p.2)::zR k (spV v) (kvV r))=_;unfold setS;split
  .rfl
  .rw[setS_V k v r];rfl
theorem getS_set(k j:Int)(v:SpotV): ∀kv,qV j (setS k v kv)=if j=k then some v else qV j kv
 |[]=>by simp[setS,qV]
 |p::r=>by
  unfold setS
  by_cases h:k=p.1
  .subst h;simp only[beq_self_eq_true,if_true,qV]
   by_cases hj:j=p.1
   .simp[hj]
   .simp[hj]
  .simp only[beq_iff_eq,h,if_false,qV,getS_set k j v r]
   by_cases hj:j=p.1
   .subst hj;simp[Ne.symm h]
   .simp[hj]
theorem bPz(k:Int)(v:SpotV): ∀kv,∀j,j∈(setS k v kv).map (·.1)->j=k\/j∈kv.map (·.1)
 |[],j,h=>by simp[setS]at h;exact .inl h
 |p::r,j,h=>by
  unfold setS at h;split at h
  .rename_i e;simp at e;simp at h⊢
   rcases h with h|h
   .exact .inl h
   .exact .inr (.inr h)
  .simp only[List.map_cons,List.mem_cons]at h⊢
   rcases h with h|h
   .exact .inr (.inl h)
   .rcases bPz k v r j h with h|h
    .exact .inl h
    .exact .inr (.inr h)
theorem bLq(k:Int)(v:SpotV): ∀kv,(kv.map (·.1)).Nodup->((setS k v kv).map (·.1)).Nodup
 |[],_=>by simp[setS]
 |p::r,h=>by
  simp only[List.map_cons,List.nodup_cons]at h;unfold setS;split
  .rename_i e;simp at e;simp only[List.map_cons,List.nodup_cons];rw[e];exact h
  .rename_i e;simp only[List.map_cons,List.nodup_cons];refine⟨λhm=>?_,bLq k v r h.2⟩
   rcases bPz k v r _ hm with h1|h1
   .exact e (by simp[h1])
   .exact h.1 h1
theorem setS_mem(k:Int)(v:SpotV): ∀kv,∀p∈setS k v kv,p.2=v\/p∈kv
 |[],p,h=>by simp[setS]at h;exact .inl (by rw[h])
 |q::r,p,h=>by
  unfold setS at h;split at h
  .rcases List.mem_cons.1 h with rfl|h
   .exact .inl rfl
   .exact .inr (List.mem_cons_of_mem _ h)
  .rcases List.mem_cons.1 h with rfl|h
   .exact .inr (List.mem_cons_self ..)
   .rcases setS_mem k v r p h with h|h
    .exact .inl h
    .exact .inr (List.mem_cons_of_mem _ h)
theorem bMi(k:Int): ∀kv,(delS k kv).Sublist kv
 |[]=> .slnil
 |p::r=>by
  unfold delS;split
  .exact List.sublist_cons_self ..
  .exact(bMi k r).cons_cons _
theorem delS_nodup(k:Int)(kv)(h:(kv.map (·.1)).Nodup):((delS k kv).map (·.1)).Nodup:=h.sublist ((bMi k kv).map _)
theorem bRi(k:Int): ∀kv,k∉kv.map (·.1)->qV k kv=none
 |[],_=>rfl
 |p::r,h=>by
  simp only[List.map_cons,List.mem_cons,not_or]at h;unfold qV;rw[if_neg (by simp[h.1]),bRi k r h.2]
theorem getS_del(k j:Int): ∀kv,(kv.map (·.1)).Nodup->qV j (delS k kv)=if j=k then none else qV j kv
 |[],_=>by simp[delS,qV]
 |p::r,h=>by
  simp only[List.map_cons,List.nodup_cons]at h;unfold delS
  by_cases e:k=p.1
  .subst e;simp only[beq_self_eq_true,if_true]
   by_cases hj:j=p.1
   .subst hj;rw[if_pos rfl,bRi _ r h.1]
   .rw[if_neg hj];simp[qV,hj]
  .simp only[beq_iff_eq,e,if_false,qV,getS_del k j r h.2]
   by_cases hj:j=p.1
   .subst hj;simp[Ne.symm e]
   .simp[hj]
theorem getS_mem{k:Int}{x:SpotV}: ∀{kv},qV k kv=some x-> ∃p∈kv,p.2=x
 |[],h=>by cases h
 |p::r,h=>by
  unfold qV at h;split at h
  .cases h;exact⟨p,List.mem_cons_self ..,rfl⟩
  .obtain⟨q,hq,e⟩:=getS_mem h;exact⟨q,List.mem_cons_of_mem _ hq,e⟩
theorem pl_mape{α β:Type}(f:α->β): ∀(l:List α) (i:Nat),(l.eraseIdx i).map f=(l.map f).eraseIdx i
 |[],_=>rfl
 |_::_,0=>rfl
 |x::l,i+1=>by simp[pl_mape f l i]
structure gH (st:PSt) (pool:List SpotV) (s:PlC) (fs:List SpotV) (M:Nat):Prop where
 end_:st.end_.list=s.end_
 free:fs.map SpotV.c=s.free
 flat:(iC st.rows).Perm fs
 rise:Rising fs
 top: ∀x∈fs,x.since<=st.since
 apart:bEc st.rows
 ok: ∀(k:Nat) (r:RowV),st.rows[k]?=some r->RowOk r
 keys:(st.kv.map (·.1)).Nodup
 laid: ∀b:Nat,(qV b st.kv).map SpotV.c=(s.laid[b]?).bind id
 poolR: ∀x∈fs,x∈pool
 poolL: ∀p∈st.kv,p.2∈pool
 low:0<=st.since
 high:st.since<=M
 many:st.rows.length<=M
 len:fs.length<=M
structure Picked (n:List Mono) (st:PSt) (k:Nat) (r:RowV):Prop where
 at_:st.rows[k]?=some r
 all: ∀x∈r.l,sz x=n
 rest: ∀(j:Nat) (q:RowV),st.rows[j]?=some q->j≠k-> ∀y∈q.l,sz y≠n
section
variable {st : PSt} {pool fs : List SpotV} {s : PlC} {M k : Nat} {r q : RowV} {n : List Mono} {x y : SpotV}
theorem gH.more(h:gH st pool s fs M){M':Nat}(hm:M<=M'):gH st pool s fs M':=⟨h.end_,h.free,h.flat,h.rise,h.top,h.apart,h.ok,h.keys,h.laid,h.poolR,h.poolL,h.low,by have:=h.high;omega,Nat.le_trans h.many hm,Nat.le_trans h.len hm⟩
theorem gH.wide(h:gH st pool s fs M)(x:SpotV):gH st (x::pool) s fs M:=⟨h.end_,h.free,h.flat,h.rise,h.top,h.apart,h.ok,h.keys,h.laid,λy hy=>List.mem_cons_of_mem _ (h.poolR y hy),λp hp=>List.mem_cons_of_mem _ (h.poolL p hp),h.low,h.high,h.many,h.len⟩
theorem gH.later(h:gH st pool s fs M):gH {st with since:=st.since+1} pool s fs (M+1):=⟨h.end_,h.free,h.flat,h.rise,λx hx=>by have:=h.top x hx;show x.since<=st.since+1;omega,h.apart,h.ok,h.keys,h.laid,h.poolR,h.poolL,by have:=h.low;show 0<=st.since+1;omega,by have:=h.high;show st.since+1<=_;omega,by have:=h.many;show st.rows.length<=_;omega,by have:=h.len;omega⟩
theorem gH.mem(h:gH st pool s fs M)(hk:st.rows[k]?=some r)(hx:x∈r.l):x∈fs:=h.flat.mem_iff.1 (bBt.2 ⟨k,r,hk,hx⟩)
theorem gH.inPool(h:gH st pool s fs M)(hk:st.rows[k]?=some r)(hx:x∈r.l):x∈pool:=h.poolR x (h.mem hk hx)
theorem gH.rlen(h:gH st pool s fs M)(hk:st.rows[k]?=some r):r.l.length<=M:=by
 have h1:=(bEh hk).length_eq;have h2:=h.flat.length_eq;have:=h.len;rw[List.length_append]at h1;omega
theorem picked_old(h:gH st pool s fs M)(hk:st.rows[k]?=some r)(h0:r.l[0]?=some x)(hn:sz x=n):Picked n st k r:=by
 have hx:x∈r.l:=List.mem_of_getElem? h0;have hall: ∀y∈r.l,sz y=n:=λy hy=>((h.ok k r hk).2.2.2.1 y hy x hx).trans hn;exact⟨hk,hall,λj q hj hjk y hy e=>h.apart j k q r hj hk hjk y hy x hx (e.trans hn.symm)⟩
theorem picked_new(h:gH st pool s fs M)(hq:q.l=[])(hno: ∀(j:Nat) (r:RowV) (x:SpotV),st.rows[j]?=some r->r.l[0]?=some x->sz x≠n)(A:Option Addr)(c:Nat)(hf:q.full=false):
  gH {st with rows:=st.rows++[q],fA:=A,fc:=c} pool s fs (M+1)/\Picked n {st with rows:=st.rows++[q],fA:=A,fc:=c} st.rows.length q:=by
 have hno2: ∀(j:Nat) (r:RowV),st.rows[j]?=some r-> ∀y∈r.l,sz y≠n:=λj r hj y hy=>by
  cases hl:r.l with
  |nil=>rw[hl]at hy;cases hy
  |cons z t=>
   have h1:r.l[0]?=some z:=by rw[hl];rfl
   rw[(h.ok j r hj).2.2.2.1 y hy z (f5 h1)];exact hno j r z hj h1
 have key: ∀(i:Nat) (a:RowV),(st.rows++[q])[i]?=some a->i≠st.rows.length->st.rows[i]?=some a:=λi a hi hne=>by
  rw[List.getElem?_append]at hi;split at hi
  .exact hi
  .cases hn:i-st.rows.length with
   |zero=>omega
   |succ m=>rw[hn]at hi;simp at hi
 have hl:(st.rows++[q])[st.rows.length]?=some q:=by simp
 refine⟨⟨h.end_,h.free,by show(iC (st.rows++[q])).Perm fs;rw[plf_new hq];exact h.flat,h.rise,h.top,pl_apnew h.apart hq,λi a hi=>?_,h.keys,h.laid,h.poolR,h.poolL,h.low,by have:=h.high;show st.since<=_;omega,by have:=h.many;show(st.rows++[q]).length<=_;rw[List.length_append];simp;omega,by have:=h.len;omega⟩,hl,λy hy=>(by rw[hq]at hy;cases hy),λj p hj hjk y hy=>hno2 j p (key j p hj hjk) y hy⟩
 by_cases e:i=st.rows.length
 .subst e;have hi:(st.rows++[q])[st.rows.length]?=some a:=hi;rw[hl]at hi;cases hi;refine⟨λe=>(by rw[hf]at e;cases e),by rw[hq];exact Nat.zero_le _,?_,λx hx=>(by rw[hq]at hx;cases hx),λx hx=>(by rw[hq]at hx;cases hx)⟩;intro k a b _ ha;rw[hq]at ha;simp at ha
 .exact h.ok i a (key i a hi e)
theorem picked_none(h:gH st pool s fs M)(hp:Picked n st k r)(he:r.l=[]):s.free.findIdx? (λy=>decide (y.size=n))=none:=by
 rw[<-h.free,List.findIdx?_map];refine pl_none h.flat λj p hj x hx=>?_
 by_cases e:j=k
 .subst e;rw[hp.at_]at hj;cases hj;rw[he]at hx;cases hx
 .exact hp.rest j p hj e x hx
theorem rel_take(h:gH st pool s fs M)(hp:Picked n st k r)(h0:r.l[0]?=some x)(hq:r.l.Perm (x::q.l))(hh:qL SpotV.since q.l)(hc:q.c=q.l.length):
  ∃i,s.free[i]?=some x.c/\s.free.findIdx? (λy=>decide (y.size=n))=some i/\gH {st with rows:=st.rows.set k q} pool {s with free:=s.free.eraseIdx i} (fs.eraseIdx i) M:=by
 have hx:x∈r.l:=List.mem_of_getElem? h0;have hok:=h.ok k r hp.at_
 have hmin: ∀y∈r.l,x.since<=y.since:=λy hy=>by
  obtain⟨j,hj⟩:=List.getElem?_of_mem hy;exact heap_min hok.2.2.1 h0 j y hj
 have hsub: ∀y∈q.l,y∈r.l:=λy hy=>hq.mem_iff.2 (List.mem_cons_of_mem _ hy);obtain⟨i,h1,h2,h3⟩:=pl_take h.flat h.rise hp.at_ h.apart hp.all hx hmin hq;have hkl:=(List.getElem?_eq_some_iff.1 hp.at_).1
 refine⟨i,by rw[<-h.free,List.getElem?_map,h1];rfl,by rw[<-h.free,List.findIdx?_map];exact h2,⟨h.end_,?_,h3,h.rise.sublist (List.eraseIdx_sublist ..),λy hy=>h.top y ((List.eraseIdx_sublist ..).subset hy),pl_apset h.apart hp.at_ λa ha j p hj hjk b hb=>h.apart k j r p hp.at_ hj (Ne.symm hjk) a (hsub a ha) b hb,
  λj a hj=>?_,h.keys,h.laid,λy hy=>h.poolR y ((List.eraseIdx_sublist ..).subset hy),h.poolL,h.low,h.high,by show(st.rows.set k q).length<=M;rw[List.length_set];exact h.many,by have:=h.len;have:=(List.eraseIdx_sublist fs i).length_le;omega⟩⟩
 .show(fs.eraseIdx i).map SpotV.c=s.free.eraseIdx i;rw[<-h.free,pl_mape]
 .have hj:(st.rows.set k q)[j]?=some a:=hj;rw[List.getElem?_set]at hj;split at hj
  .simp at hj;subst hj;exact⟨λ_=>hc,k7,hh,λa ha b hb=>hok.2.2.2.1 a (hsub a ha) b (hsub b hb),λa ha=>hok.2.2.2.2 a (hsub a ha)⟩
  .exact h.ok j a hj
theorem rel_give(h:gH st pool s fs M)(hp:Picked (sz x) st k r)(hn:sz x≠[])(hq:q.l=r.l++[x])(hf:q.full=false)(hc:q.l.length<=q.c)(hsi:x.since=st.since)(hst: ∀f∈fs,f.since<x.since)(hxp:x∈pool):
  gH {st with rows:=st.rows.set k q} pool {s with free:=s.free++[x.c]} (fs++[x]) (M+1):=by
 have hok:=h.ok k r hp.at_;have hkl:=(List.getElem?_eq_some_iff.1 hp.at_).1
 have hin: ∀y∈q.l,y∈r.l\/y=x:=λy hy=>by
  rw[hq]at hy
  rcases List.mem_append.1 hy with h1|h1
  .exact .inl h1
  .exact .inr (by simpa using h1)
 have hsz: ∀y∈q.l,sz y=sz x:=λy hy=>by
  rcases hin y hy with h1|h1
  .exact hp.all y h1
  .rw[h1]
 refine⟨h.end_,by rw[List.map_append,h.free];rfl,pl_give h.flat hp.at_ hq,?_,λy hy=>?_,pl_apset h.apart hp.at_ λa ha j p hj hjk b hb e=>hp.rest j p hj hjk b hb (e.symm.trans (hsz a ha)),λj a hj=>?_,h.keys,h.laid,λy hy=>?_,h.poolL,h.low,by have:=h.high;show st.since<=_;omega,
  by show(st.rows.set k q).length<=_;rw[List.length_set];have:=h.many;omega,by have:=h.len;rw[List.length_append];simp;omega⟩
 .refine List.pairwise_append.2 ⟨h.rise,List.pairwise_singleton _ _,λa ha b hb=>?_⟩;have e:b=x:=by simpa using hb
  subst e;exact hst a ha
 .show y.since<=st.since
  rcases List.mem_append.1 hy with h1|h1
  .exact h.top y h1
  .have e:y=x:=by simpa using h1
   subst e;omega
 .have hj:(st.rows.set k q)[j]?=some a:=hj;rw[List.getElem?_set]at hj;split at hj
  .simp at hj;subst hj;refine⟨λe=>(by rw[hf]at e;cases e),hc,?_,λa ha b hb=>(hsz a ha).trans (hsz b hb).symm,λa ha=>by rw[hsz a ha];exact hn⟩;rw[hq];refine heap_push hok.2.2.1 λb hb=>?_;have:=hst b (h.mem hp.at_ hb);omega
  .exact h.ok j a hj
 .rcases List.mem_append.1 hy with h1|h1
  .exact h.poolR y h1
  .have e:y=x:=by simpa using h1
   subst e;exact hxp
theorem rel_laid(h:gH st pool s fs M)(b:Nat)(hb:b<s.laid.length)(hx:x∈pool)(ats:List (List Mono)):gH {st with kv:=setS b x st.kv} pool {s with laid:=s.laid.set b (some x.c),ats:=ats} fs M:=
 ⟨h.end_,h.free,h.flat,h.rise,h.top,h.apart,h.ok,bLq _ _ _ h.keys,λj=>by
  show(qV j (setS b x st.kv)).map SpotV.c=((s.laid.set b (some x.c))[j]?).bind id;rw[getS_set,List.getElem?_set]
  by_cases e:j=b
  .subst e;simp[hb]
  .rw[if_neg k7,if_neg k7]
   exact h.laid j,h.poolR,λp hp=>by
  rcases setS_mem _ _ _ p hp with h1|h1
  .rw[h1];exact hx
  .exact h.poolL p h1,h.low,h.high,h.many,h.len⟩
theorem rel_gone(h:gH st pool s fs M)(b:Nat)(hb:b<s.laid.length):gH {st with kv:=delS b st.kv} pool {s with laid:=s.laid.set b none} fs M:=
 ⟨h.end_,h.free,h.flat,h.rise,h.top,h.apart,h.ok,delS_nodup _ _ h.keys,λj=>by
  show(qV j (delS b st.kv)).map SpotV.c=((s.laid.set b none)[j]?).bind id;rw[getS_del _ _ _ h.keys,List.getElem?_set]
  by_cases e:j=b
  .subst e;simp[hb]
  .rw[if_neg k7,if_neg k7]
   exact h.laid j,h.poolR,λp hp=>h.poolL p ((bMi _ _).subset hp),h.low,h.high,h.many,h.len⟩
theorem rel_end(h:gH st pool s fs M)(e:PolV)(l:List Mono)(he:e.list=l):gH {st with end_:=e} pool {s with end_:=l} fs M:=
 ⟨he,h.free,h.flat,h.rise,h.top,h.apart,h.ok,h.keys,h.laid,h.poolR,h.poolL,h.low,h.high,h.many,h.len⟩
end
theorem bBk(A:Option Addr)(n c:Nat):cE prog 165 [.slice A n c] [] [] (λ(_:Unit)=> .int .i64 (n:Nat)) (λ_=>[]) (λ_=>[]):=by
 have hT:=fK;refine j2 func165 ntmps165 ?_;intro β hM;refine g13 ?_;exact rs1 () trivial
theorem Less_spec(A:Option Addr)(c i j:Nat)(l:List SpotV)(x y:SpotV)(hx:l[i]?=some x)(hy:l[j]?=some y):cE prog 372 [.slice A l.length c,.int .i64 (i:Nat),.int .i64 (j:Nat)] [dU.row (.slice A l.length c) 214 l] [] (λ(_:Unit)=> .bool (decide (x.since<y.since))) (λ(_:Unit)=>[dU.row (.slice A l.length c) 214 l]) (λ_=>[]):=by
 have hT:=fK;refine j2 func372 ntmps372 ?_;intro β hM;refine fT ?_;have hi:=(List.getElem?_eq_some_iff.1 hx).1;have hj:=(List.getElem?_eq_some_iff.1 hy).1;refine g5 ?_;refine dS _ _ [(true,0),(true,1),(true,2),(true,3),(true,4),(true,5),(true,6),(true,7),(true,8),(true,9),(true,10),(true,11)] dW l8 (.c0 .nil) bA.self ?_;refine g2 ?_;refine stM rfl (bG hT (k:=i) (cM .head) rfl rfl rfl rfl rfl l7 rfl k7) ?_;refine one ?_;refine stM rfl (fJ hx 2) ?_;refine g2 ?_;refine stM rfl (bG hT (k:=j) (cM .head) rfl rfl rfl rfl rfl l7 rfl k7) ?_;refine one ?_;refine stM rfl (fJ hy 2) ?_;refine g5 ?_;exact rs1 () trivial
theorem Push_spec(A:Option Addr)(b c:Nat)(l:List SpotV)(x:SpotV)(hl:l.length<=100000000):cE prog 374 [.pointer (some ⟨b,0,none⟩),.iface 214 (.agg #[.slice x.at_.addr x.at_.list.length x.at_.cap,.slice x.size.addr x.size.list.length x.size.cap,.int .i64 x.since])] [.obj b (.cells ([.slice A l.length c]:List Value).toArray 330),dU.row (.slice A l.length c) 214 l] [] (λ(_:Option Addr×Nat)=> .tuple #[]) (λ(y:Option Addr×Nat)=>[.obj b (.cells ([.slice y.1 (l++[x]).length y.2]:List Value).toArray 330),dU.row (.slice y.1 (l++[x]).length y.2) 214 (l++[x])]) (λ_=>[]):=by
 have hT:=fK;refine j2 func374 ntmps374 ?_;intro β hM;refine pJ 9 _ _ [(true,0),(true,1),(true,2),(true,3),(true,4),(true,5),(false,6),(false,7),(true,8)] dW l8 (.c0 .nil) bA.self ?_;refine g5 ?_;refine stL rfl (zS rfl underlying214 (λ_ e=>by cases e) rfl) ?_;refine one ?_;refine bKr (m:=x) rfl rfl rfl rfl rfl λb1=>?_;refine g2 ?_;refine at_app_row kT2 (gB .head rfl) rfl rfl rfl rfl rfl rfl rfl q9 λA2 c3=>?_;refine g5 ?_;exact cR (A2,c3) rfl (.c0 (.c0 .nil)) e8 r7
section
variable {P : Program} {β : dC} {n : Nat} {Γ : Env} {H : List bD} {F : List bC} {Q : Exit -> Act -> World -> Prop} {K : Act -> World -> Prop} {T : Tab} {α : Type} {E : Flat α}
theorem run_cutHM(hT:dY P T){t e sz:Nat}{ei:TI}(ht:T.get t=some ⟨.slice e,sz⟩)(he:T.get e=some ei){A:Option Addr}{l c k:Nat}(hk:k<=c)(kj kk:IntKind)(w:World):(Instr.sliceAt t (.slice A l c) none (some (.int kj (k:Nat))) (some (.int kk (k:Nat)))).run P w= .ok (.slice A k k) w:=by
 obtain⟨d,hu,hd⟩:=hT.any ht;cases d<;>simp[TD.of]at hd
 subst hd;have hel:=elem_of hu;rw[run_sliceAt_slice w t _ _ _ _ u3,run_slice_hm w t A l c u3 kj kk (k:Int) (k:Int) k7 k7 k7,hel,hT.size he];simp only[Result.andThen_ok,sliced,Int.toNat_natCast,Nat.zero_mul,Nat.sub_zero]
 congr 2
 split
 .rfl
 .cases A<;>simp[Addr.add]
theorem sti_cutHM(hT:dY P T){o:Oper}{t e sz k l cap:Nat}{ei:TI}{x i i':Operand}{kj kk:IntKind}{z z':Int}{A:Option Addr}(ho:o.op= .slice t x none (some i) (some i'))(hx:Γ.ev x=some (.slice A l cap))(hi:Γ.ev i=some (.int kj z))(hi':Γ.ev i'=some (.int kk z'))
  (ht:T.get t=some ⟨.slice e,sz⟩) (he:T.get e=some ei) (hz:z=(k:Nat)) (hz':z'=(k:Nat)) (hk:k<=cap):Sti P β n Γ H F o (.slice A k k):=λa w S f s hF=>by
 subst hz hz';unfold execOp;simp only[ho,f.ev hx,Option.map_some,Option.map_none,f.ev hi,f.ev hi'];rw[Sem.run_bind,run_cutHM hT ht he hk];rfl
theorem at_held_cut{A:Option Addr}{m c k c':Nat}{xs:List α}{H':List bD}(hH:bW H (E.held (.slice A m c) xs) H')(hk:k<=xs.length)(h:At β n Γ (E.held (.slice A k c') (xs.take k)::H') F K):At β n Γ H F K:=λa w S f s hF=>by
 have s2:=s.perm hH.perm
 have hb: ∀b,(E.held (.slice A k c') (xs.take k)).blk=some b->(E.held (.slice A m c) xs).blk=some b:=λb hb=>by
  have hb:uI (.slice A k c') (xs.take k)=some b:=hb;show uI (.slice A m c) xs=some b
  cases xs with
  |nil=>rw[List.take_nil]at hb;cases hb
  |cons x xs=>
   cases k with
   |zero=>cases hb
   |succ k=>cases A<;>exact hb
 have hok:(E.held (.slice A m c) xs).ok w:=s2.ok _ (List.mem_cons_self ..);have hsep:=List.pairwise_cons.1 s2.sep
 have hok2:(E.held (.slice A k c') (xs.take k)).ok w:=by
  refine⟨A,c',by rw[List.length_take,Nat.min_eq_left hk],?_⟩
  rcases Nat.eq_zero_or_pos k with rfl|h0
  .exact .inl (List.take_zero ..)
  .obtain⟨g,off,cap,cs,t,fz,e,hbk,hh,hall⟩:=rE hok (k:=0) k7;injection e with e1 _ _
   subst e1
   have hbk2:(E.held (.slice (some ⟨g,off,none⟩) k c') (xs.take k)).blk=some g:=by
    show uI _ (xs.take k)=some g
    cases xs with
    |nil=>simp at hk;omega
    |cons x xs=>
     cases k with
     |zero=>omega
     |succ k=>rfl
   refine .inr ⟨g,off,cs,t,fz,rfl,?_,λj u hj=>hall j u ?_⟩
   .show((uI (.slice (some ⟨g,off,none⟩) k c') (xs.take k)).bind λi=>w.heap[i]?)=_;rw[show uI (.slice (some ⟨g,off,none⟩) k c') (xs.take k)=some g from hbk2];exact hh
   .have e:E.all xs=E.all (xs.take k)++E.all (xs.drop k):=by rw[<-E.all_append,List.take_append_drop]
    rw[e,List.getElem?_append_left (List.getElem?_eq_some_iff.1 hj).1];exact hj
 exact h a w S f ⟨s2.kept,λd hd=>by
  rcases List.mem_cons.1 hd with rfl|hd
  .exact hok2
  .exact s2.ok d (List.mem_cons_of_mem _ hd),λd hd b hdb=>by
  rcases List.mem_cons.1 hd with rfl|hd
  .exact s2.own _ (List.mem_cons_self ..) b (hb b hdb)
  .exact s2.own d (List.mem_cons_of_mem _ hd) b hdb,List.pairwise_cons.2 ⟨λd hd b hdb=>hsep.1 d hd b (hb b hdb),hsep.2⟩,s2.zone⟩ hF
end
theorem vC:(prog.info? 214).bind (·.zero)=some (.agg #[.slice none 0 0,.slice none 0 0,.int .i64 0]):=k8
theorem LessH_spec(A:Option Addr)(c i j:Nat)(l:List SpotV)(x y:SpotV)(hx:l[i]?=some x)(hy:l[j]?=some y):cE prog 372 [.slice A l.length c,.int .i64 (i:Nat),.int .i64 (j:Nat)] [dU.held (.slice A l.length c) l] [] (λ(_:Unit)=> .bool (decide (x.since<y.since))) (λ(_:Unit)=>[dU.held (.slice A l.length c) l]) (λ_=>[]):=by
 have hT:=fK;refine j2 func372 ntmps372 ?_;intro β hM;refine fT ?_;have hi:=(List.getElem?_eq_some_iff.1 hx).1;have hj:=(List.getElem?_eq_some_iff.1 hy).1;refine g5 ?_;refine dS _ _ [(true,0),(true,1),(true,2),(true,3),(true,4),(true,5),(true,6),(true,7),(true,8),(true,9),(true,10),(true,11)] dW l8 (.c0 .nil) bA.self ?_;refine g2 ?_;refine stM rfl (bG hT (k:=i) (dA .head) rfl rfl rfl rfl rfl l7 rfl k7) ?_;refine one ?_;refine stM rfl (fJ hx 2) ?_;refine g2 ?_;refine stM rfl (bG hT (k:=j) (dA .head) rfl rfl rfl rfl rfl l7 rfl k7) ?_;refine one ?_;refine stM rfl (fJ hy 2) ?_;refine g5 ?_;exact rs1 () trivial
theorem SwapH_spec(A:Option Addr)(c i j:Nat)(l:List SpotV)(x y:SpotV)(hx:l[i]?=some x)(hy:l[j]?=some y):cE prog 375 [.slice A l.length c,.int .i64 (i:Nat),.int .i64 (j:Nat)] [dU.held (.slice A l.length c) l] [] (λ(_:Unit)=> .tuple #[]) (λ(_:Unit)=>[dU.held (.slice A l.length c) ((l.set i y).set j x)]) (λ_=>[]):=by
 have hT:=fK;refine j2 func375 ntmps375 ?_;intro β hM;have hi:=(List.getElem?_eq_some_iff.1 hx).1;have hj:=(List.getElem?_eq_some_iff.1 hy).1;refine at_mixT _ _ (.fl 0 (.fl 1 (.fl 2 (.fl 3 (.fl 4 (.fl 5 (.fl 8 (.fl 9 (.two 6 10 (.two 7 10 (.op 10 (.op 11 (.op 12 (.op 13 (.op 14 (.op 15 .nil)))))) (.two 7 11 (.op 11 (.op 12 (.op 13 (.op 14 (.op 15 .nil))))) (.op 7 (.op 12 (.op 13 (.op 14 (.op 15 .nil))))))) (.two 6 11 (.two 7 11 (.op 11 (.op 12 (.op 13 (.op 14 (.op 15 .nil))))) (.op 7 (.op 12 (.op 13 (.op 14 (.op 15 .nil)))))) (.op 6 (.op 7 (.op 12 (.op 13 (.op 14 (.op 15 .nil)))))))))))))))) dW l8 .nil bA.self ?_;refine g8 ?_;refine uL (o:=_) (o':=_) rfl rfl ?_ ?_
 .refine ss (bG hT (k:=j) (dA .head) rfl rfl rfl rfl rfl l7 rfl k7) ?_;refine one ?_;refine uL (o:=_) (o':=_) rfl rfl ?_ ?_
  .refine ss (jQ hy 0) ?_;refine g2 ?_;refine ss (bG hT (k:=i) (dA .head) rfl rfl rfl rfl rfl l7 rfl k7) ?_;refine g2 ?_;refine ss (jQ hx 0) ?_;refine g2 ?_;refine ss (bG hT (k:=i) (dA .head) rfl rfl rfl rfl rfl l7 rfl k7) ?_;refine g2 ?_;refine dX hT (k:=i) (fo:=0) (y':=y) .head rfl rfl rfl rfl rfl rfl rfl rfl rfl hx rfl ?_;refine g2 ?_;obtain⟨x1,hx2⟩:=gx (l.set i y) j (n4);refine ss (bG hT (k:=j) (dA .head) rfl rfl rfl rfl rfl l7 rfl (n4)) ?_;refine g2 ?_;refine dX hT (k:=j) (fo:=0) (y':=x) .head rfl rfl rfl rfl rfl rfl rfl rfl rfl hx2 rfl ?_;refine g2 ?_;exact cR () rfl (.c0 .nil) e8 r7
  refine ss (bG hT (k:=i) (dA .head) rfl rfl rfl rfl rfl l7 rfl k7) ?_;refine one ?_;refine uL (o:=_) (o':=_) rfl rfl ?_ ?_
  .refine ss (jQ hy 0) ?_;refine g2 ?_;refine ss (jQ hx 0) ?_;refine g2 ?_;refine ss (bG hT (k:=i) (dA .head) rfl rfl rfl rfl rfl l7 rfl k7) ?_;refine g2 ?_;refine dX hT (k:=i) (fo:=0) (y':=y) .head rfl rfl rfl rfl rfl rfl rfl rfl rfl hx rfl ?_;refine g2 ?_;obtain⟨x3,hx4⟩:=gx (l.set i y) j (n4);refine ss (bG hT (k:=j) (dA .head) rfl rfl rfl rfl rfl l7 rfl (n4)) ?_;refine g2 ?_;refine dX hT (k:=j) (fo:=0) (y':=x) .head rfl rfl rfl rfl rfl rfl rfl rfl rfl hx4 rfl ?_;refine g2 ?_;exact cR () rfl (.c0 .nil) e8 r7
  refine ss (jQ hx 0) ?_;refine g2 ?_;refine ss (jQ hy 0) ?_;refine g2 ?_;refine ss (bG hT (k:=i) (dA .head) rfl rfl rfl rfl rfl l7 rfl k7) ?_;refine g2 ?_;refine dX hT (k:=i) (fo:=0) (y':=y) .head rfl rfl rfl rfl rfl rfl rfl rfl rfl hx rfl ?_;refine g2 ?_;obtain⟨x5,hx6⟩:=gx (l.set i y) j (n4);refine ss (bG hT (k:=j) (dA .head) rfl rfl rfl rfl rfl l7 rfl (n4)) ?_;refine g2 ?_;refine dX hT (k:=j) (fo:=0) (y':=x) .head rfl rfl rfl rfl rfl rfl rfl rfl rfl hx6 rfl ?_;refine g2 ?_;exact cR () rfl (.c0 .nil) e8 r7
 refine ss (bG hT (k:=i) (dA .head) rfl rfl rfl rfl rfl l7 rfl k7) ?_;refine one ?_;refine uL (o:=_) (o':=_) rfl rfl ?_ ?_
 .refine ss (bG hT (k:=j) (dA .head) rfl rfl rfl rfl rfl l7 rfl k7) ?_;refine one ?_;refine uL (o:=_) (o':=_) rfl rfl ?_ ?_
  .refine ss (jQ hy 0) ?_;refine g2 ?_;refine ss (jQ hx 0) ?_;refine g2 ?_;refine ss (bG hT (k:=i) (dA .head) rfl rfl rfl rfl rfl l7 rfl k7) ?_;refine g2 ?_;refine dX hT (k:=i) (fo:=0) (y':=y) .head rfl rfl rfl rfl rfl rfl rfl rfl rfl hx rfl ?_;refine g2 ?_;obtain⟨x7,hx8⟩:=gx (l.set i y) j (n4);refine ss (bG hT (k:=j) (dA .head) rfl rfl rfl rfl rfl l7 rfl (n4)) ?_;refine g2 ?_;refine dX hT (k:=j) (fo:=0) (y':=x) .head rfl rfl rfl rfl rfl rfl rfl rfl rfl hx8 rfl ?_;refine g2 ?_;exact cR () rfl (.c0 .nil) e8 r7
  refine ss (jQ hx 0) ?_;refine g2 ?_;refine ss (jQ hy 0) ?_;refine g2 ?_;refine ss (bG hT (k:=i) (dA .head) rfl rfl rfl rfl rfl l7 rfl k7) ?_;refine g2 ?_;refine dX hT (k:=i) (fo:=0) (y':=y) .head rfl rfl rfl rfl rfl rfl rfl rfl rfl hx rfl ?_;refine g2 ?_;obtain⟨x9,hx10⟩:=gx (l.set i y) j (n4);refine ss (bG hT (k:=j) (dA .head) rfl rfl rfl rfl rfl l7 rfl (n4)) ?_;refine g2 ?_;refine dX hT (k:=j) (fo:=0) (y':=x) .head rfl rfl rfl rfl rfl rfl rfl rfl rfl hx10 rfl ?_;refine g2 ?_;exact cR () rfl (.c0 .nil) e8 r7
 refine ss (jQ hx 0) ?_;refine g2 ?_;refine ss (bG hT (k:=j) (dA .head) rfl rfl rfl rfl rfl l7 rfl k7) ?_;refine g2 ?_;refine ss (jQ hy 0) ?_;refine g2 ?_;refine ss (bG hT (k:=i) (dA .head) rfl rfl rfl rfl rfl l7 rfl k7) ?_;refine g2 ?_;refine dX hT (k:=i) (fo:=0) (y':=y) .head rfl rfl rfl rfl rfl rfl rfl rfl rfl hx rfl ?_;refine g2 ?_;obtain⟨x11,hx12⟩:=gx (l.set i y) j (n4);refine ss (bG hT (k:=j) (dA .head) rfl rfl rfl rfl rfl l7 rfl (n4)) ?_;refine g2 ?_;refine dX hT (k:=j) (fo:=0) (y':=x) .head rfl rfl rfl rfl rfl rfl rfl rfl rfl hx12 rfl ?_;refine g2 ?_;exact cR () rfl (.c0 .nil) e8 r7
theorem PopH_spec(A:Option Addr)(b c m:Nat)(l:List SpotV)(x:SpotV)(hlm:l.length=m+1)(hc:m+1<=c)(hx:l[m]?=some x)(hl:m<=100000000):cE prog 373 [.pointer (some ⟨b,0,none⟩)] [.obj b (.cells ([.slice A (m+1) c]:List Value).toArray 330),dU.held (.slice A (m+1) c) l] [] (λ(_:Unit)=> .iface 214 (.agg #[.slice x.at_.addr x.at_.list.length x.at_.cap,.slice x.size.addr x.size.list.length x.size.cap,.int .i64 x.since])) (λ(_:Unit)=>[.obj b (.cells ([.slice A m m]:List Value).toArray 330),dU.held (.slice A m m) (l.take m)]) (λ_=>[]):=by
 have hT:=fK;refine j2 func373 ntmps373 ?_;intro β hM;refine g12 ?_;refine bN (z':=((m:Nat):Int)) t8 ?_;refine g9 ?_;refine ss (bG hT (k:=m) (dA kT1) rfl rfl rfl rfl rfl hlm.symm k7 (k7)) ?_;refine ss (jQ hx 0) ?_;refine i7 vC λb1=>?_;refine g11 ?_;refine ss (sti_cutHM hT (k:=m) rfl rfl rfl rfl rfl rfl rfl rfl k7) ?_;refine g7 ?_;refine ss (wY rfl underlying214 (λ_ e=>by cases e) rfl) ?_;refine g4 ?_;refine at_held_cut (k:=m) (c':=m) kT2 k7 ?_;exact rs1 () trivial
theorem load_rowbox{w:World}{b n c:Nat}{A:Option Addr}(h:w.cell? ⟨b,0,none⟩=some (.slice A n c)):(loadVar 330 ⟨b,0,none⟩).run prog w= .ok (.slice A n c) w:=by
 have ha: ∀w,(isAgg 330).run prog w= .ok false w:=fK.agg (t:=330) (i:=⟨.slice 214,1⟩) rfl;simp only[loadVar,Sem.run_bind,Result.andThen_ok,ha,Bool.false_eq_true,if_false,run_load,h]
theorem kS{name:String}{f:FuncId}{w:World}{b n c:Nat}{A:Option Addr}(hm: ∀w b,(method (prog.types.size+Made.depth) 284 (.pointer (some ⟨b,0,none⟩)) name).run prog w=(do let r<-loadVar 330 ⟨b,0,none⟩;pure (f,r):Sem (FuncId×Value)).run prog w)(h:w.cell? ⟨b,0,none⟩=some (.slice A n c)):
  (method (prog.types.size+Made.depth) 284 (.pointer (some ⟨b,0,none⟩)) name).run prog w= .ok (f,.slice A n c) w:=by
 rw[hm,Sem.run_bind,load_rowbox h];rfl
theorem bLz(w:World)(b:Nat):(method (prog.types.size+Made.depth) 284 (.pointer (some ⟨b,0,none⟩)) "Len").run prog w=(do let r<-loadVar 330 ⟨b,0,none⟩;pure (165,r):Sem (FuncId×Value)).run prog w:=k8
theorem tZ(w:World)(b:Nat):(method (prog.types.size+Made.depth) 284 (.pointer (some ⟨b,0,none⟩)) "Less").run prog w=(do let r<-loadVar 330 ⟨b,0,none⟩;pure (372,r):Sem (FuncId×Value)).run prog w:=k8
theorem xP(w:World)(b:Nat):(method (prog.types.size+Made.depth) 284 (.pointer (some ⟨b,0,none⟩)) "Swap").run prog w=(do let r<-loadVar 330 ⟨b,0,none⟩;pure (375,r):Sem (FuncId×Value)).run prog w:=k8
theorem bOr(w:World)(b:Nat):(method (prog.types.size+Made.depth) 284 (.pointer (some ⟨b,0,none⟩)) "Push").run prog w= .ok (374,.pointer (some ⟨b,0,none⟩)) w:=k8
theorem meth_pop(w:World)(b:Nat):(method (prog.types.size+Made.depth) 284 (.pointer (some ⟨b,0,none⟩)) "Pop").run prog w= .ok (373,.pointer (some ⟨b,0,none⟩)) w:=k8
def rowBox(r:RowV):bD:= .obj r.b (.cells ([.slice r.A r.l.length r.c]:List Value).toArray 330)
def rowArr(r:RowV):bD:=if r.full then dU.held (.slice r.A r.l.length r.c) r.l else dU.row (.slice r.A r.l.length r.c) 214 r.l
def famR (rows:List RowV):List bD:=rows.flatMap λr=>[rowBox r,rowArr r]
def rowG (r:RowV):bC:=(bC.cells r.b 0 [.slice r.A r.l.length r.c]).and (dU.sl (.slice r.A r.l.length r.c) r.l)
theorem bPo(r:RowV)(rows:List RowV):famR (r::rows)=rowBox r::rowArr r::famR rows:=rfl
theorem pN(a b:List RowV):famR (a++b)=famR a++famR b:=List.flatMap_append
theorem fam_out{rows:List RowV}{k:Nat}{r:RowV}(h:rows[k]?=some r)(H:List bD):(H++famR rows).Perm (rowBox r::rowArr r::(H++famR (rows.take k++rows.drop (k+1)))):=by
 have e:famR rows=famR (rows.take k)++([rowBox r,rowArr r]++famR (rows.drop (k+1))):=by
  conv=>lhs;rw[bJx h]
  rw[pN,bPo];rfl
 rw[e,pN];have h1:(famR (rows.take k)++([rowBox r,rowArr r]++famR (rows.drop (k+1)))).Perm ([rowBox r,rowArr r]++(famR (rows.take k)++famR (rows.drop (k+1)))):=List.perm_append_comm_assoc _ _ _;exact(h1.append_left H).trans (List.perm_append_comm_assoc _ _ _)
theorem fam_back{rows:List RowV}{k:Nat}{r:RowV}(h:rows[k]?=some r)(q:RowV)(H:List bD):(rowBox q::rowArr q::(H++famR (rows.take k++rows.drop (k+1)))).Perm (H++famR (rows.set k q)):=by
 have e:famR (rows.set k q)=famR (rows.take k)++([rowBox q,rowArr q]++famR (rows.drop (k+1))):=by
  rw[pl_set h,pN,bPo];rfl
 rw[e,pN];have h1:(famR (rows.take k)++([rowBox q,rowArr q]++famR (rows.drop (k+1)))).Perm ([rowBox q,rowArr q]++(famR (rows.take k)++famR (rows.drop (k+1)))):=List.perm_append_comm_assoc _ _ _;exact((h1.append_left H).trans (List.perm_append_comm_assoc _ _ _)).symm
theorem fam_new{rows:List RowV}(q:RowV)(H:List bD):(rowBox q::rowArr q::(H++famR rows)).Perm (H++famR (rows++[q])):=by
 rw[pN];have h1:([rowBox q,rowArr q]++(H++famR rows)).Perm ((H++famR rows)++[rowBox q,rowArr q]):=List.perm_append_comm;rw[List.append_assoc]at h1;exact h1
theorem lends_rowArr{r:RowV}{L:List bD}{G:List bC}(h:vZ L G):vZ (rowArr r::L) (dU.sl (.slice r.A r.l.length r.c) r.l::G):=by
 unfold rowArr;split
 .exact lends_held h
 .exact rC h
theorem bOq: ∀(rows:List RowV),vZ (famR rows) [bC.each rows rowG]
 |[]=>λS w _ _=>All.cons (λx hx=>by cases hx) (λg hg=>by cases hg)
 |r::rows=>λS w hok hS=>by
  have h1:=lZ (b:=r.b) (cs:=[.slice r.A r.l.length r.c]) (t:=330) (lends_rowArr (r:=r) (bOq rows)) S w hok hS;have a1:=h1 _ (List.mem_cons_self ..);have a2:=h1 _ (List.mem_cons_of_mem _ (List.mem_cons_self ..));have a3:=h1 _ (List.mem_cons_of_mem _ (List.mem_cons_of_mem _ (List.mem_cons_self ..)));refine All.cons (λx hx=>?_) (λg hg=>by cases hg)
  rcases List.mem_cons.1 hx with rfl|hx
  .exact⟨a1,a2⟩
  .exact a3 x hx
theorem Split.front: ∀(L H:List bD),Split (L++H) L H
 |[],_=> .nil
 |_::L,H=> .c0 (Split.front L H)
section
variable {P : Program} {β : dC} {n : Nat} {Γ : Env} {H H' : List bD} {F : List bC} {K : Act -> World -> Prop}
theorem at_arr_held{r:RowV}(hH:bW H (rowArr r) H')(h:At β n Γ (dU.held (.slice r.A r.l.length r.c) r.l::H') F K):At β n Γ H F K:=by
 unfold rowArr at hH;split at hH
 .exact λa w S f s k=>h a w S f (s.perm hH.perm) k
 .exact bBd hH h
end
theorem rowArr_full{r:RowV}(h:r.full=true):rowArr r=dU.held (.slice r.A r.l.length r.c) r.l:=by unfold rowArr;rw[if_pos h]
theorem rowArr_room{r:RowV}(h:r.full=false):rowArr r=dU.row (.slice r.A r.l.length r.c) 214 r.l:=by unfold rowArr;rw[if_neg u4]
theorem bOy{α:Type}{l:List α}{x z:α}{N:Nat}(hl:l.length=N+1)(_hx:l[0]?=some x)(_hz:l[N]?=some z):(l.set 0 z).set N x=(l.take N).set 0 z++[x]:=by
 apply List.ext_getElem?;intro i;rw[List.getElem?_set,List.getElem?_set,List.getElem?_append];simp only[List.length_set,List.length_take,hl,List.getElem?_set,List.getElem?_take];have hm:min N (N+1)=N:=k7
 rw[hm]
 by_cases h1:i<N
 .rw[if_neg k7,if_pos h1]
  by_cases h0:0=i
  .subst h0;rw[if_pos rfl,if_pos k7,if_pos rfl,if_pos k7]
  .rw[if_neg h0,if_neg h0,if_pos h1]
 .rw[if_neg h1]
  by_cases h2:N=i
  .subst h2;rw[if_pos rfl,if_pos k7,Nat.sub_self];rfl
  .rw[if_neg h2,if_neg k7,List.getElem?_eq_none k7,List.getElem?_eq_none o7]
theorem swap_perm{α:Type}{l m:List α}{x z:α}{N:Nat}(hl:l.length=N+1)(hx:l[0]?=some x)(hz:l[N]?=some z)(hm:m.Perm ((l.take N).set 0 z)):l.Perm (x::m):=by
 have h1:((l.set 0 z).set N x).Perm l:=by
  have h0:0<l.length:=k7
  have hN:N<l.length:=k7
  have e1:l[N]=z:=by have:=List.getElem?_eq_getElem hN;rw[hz]at this;exact(Option.some.inj this).symm
  have e2:l[0]=x:=by have:=List.getElem?_eq_getElem h0;rw[hx]at this;exact(Option.some.inj this).symm
  have:((l.set 0 l[N]).set N l[0]).Perm l:=List.set_set_perm h0 hN
  rwa[e1,e2]at this
 rw[bOy hl hx hz]at h1;exact h1.symm.trans ((hm.symm.append_right [x]).trans List.perm_append_comm)
section
variable {α : Type} {m : List α} {i j k : Nat} {y z w : α}
theorem iM(h:m[k]?=some y):(m++[w])[k]?=some y:=by
 rw[List.getElem?_append_left (List.getElem?_eq_some_iff.1 h).1];exact h
theorem bEg(hy:m[i]?=some y)(hz:m[j]?=some z):((m++[w]).set i z).set j y=(m.set i z).set j y++[w]:=by
 have h1:=(List.getElem?_eq_some_iff.1 hy).1;have h2:=(List.getElem?_eq_some_iff.1 hz).1;rw[List.set_append_left _ _ h1,List.set_append_left _ _ (by simpa using h2)]
theorem bDl(hy:m[i]?=some y)(hz:m[j]?=some z):((m.set i z).set j y).Perm m:=by
 obtain⟨h1,e1⟩:=List.getElem?_eq_some_iff.1 hy;obtain⟨h2,e2⟩:=List.getElem?_eq_some_iff.1 hz;have:((m.set i m[j]).set j m[i]).Perm m:=List.set_set_perm h1 h2
 rwa[e1,e2]at this
end
section
variable {m : List SpotV} {i : Nat} {y y1 y2 : SpotV}
theorem child1(h1:m[2*i+1]?=some y1)(hy:y.since<=y1.since)(hm:m.length<=2*i+2): ∀(k:Nat) b,1<=k->(k-1)/2=i->m[k]?=some b->y.since<=b.since:=λk b hk he hb=>by
 have hlt:=(List.getElem?_eq_some_iff.1 hb).1;have e:k=2*i+1:=k7
 subst e;rw[h1]at hb;cases hb;exact hy
theorem child2(h1:m[2*i+1]?=some y1)(h2:m[2*i+1+1]?=some y2)(hy1:y.since<=y1.since)(hy2:y.since<=y2.since): ∀(k:Nat) b,1<=k->(k-1)/2=i->m[k]?=some b->y.since<=b.since:=λk b hk he hb=>by
 have e:k=2*i+1\/k=2*i+1+1:=k7
 rcases e with rfl|rfl
 .rw[h1]at hb;cases hb;exact hy1
 .rw[h2]at hb;cases hb;exact hy2
theorem sink_none(h:bLb SpotV.since m i)(hm:m.length<=2*i+1):qL SpotV.since m:=λk a b hk ha hb=>by
 have hlt:=(List.getElem?_eq_some_iff.1 hb).1;exact h.1 k a b hk k7 ha hb
end
theorem lessN{A:Option Addr}{c i j n:Nat}{l:List SpotV}{x y:SpotV}(h:l.length=n)(hx:l[i]?=some x)(hy:l[j]?=some y):cE prog 372 [.slice A n c,.int .i64 (i:Nat),.int .i64 (j:Nat)] [dU.held (.slice A n c) l] [] (λ(_:Unit)=> .bool (decide (x.since<y.since))) (λ(_:Unit)=>[dU.held (.slice A n c) l]) (λ_=>[]):=by
 subst h;exact LessH_spec A c i j l x y hx hy
theorem swapN{A:Option Addr}{c i j n:Nat}{l:List SpotV}{x y:SpotV}(h:l.length=n)(hx:l[i]?=some x)(hy:l[j]?=some y):cE prog 375 [.slice A n c,.int .i64 (i:Nat),.int .i64 (j:Nat)] [dU.held (.slice A n c) l] [] (λ(_:Unit)=> .tuple #[]) (λ(_:Unit)=>[dU.held (.slice A n c) ((l.set i y).set j x)]) (λ_=>[]):=by
 subst h;exact SwapH_spec A c i j l x y hx hy
theorem up0_spec(A:Option Addr)(b c:Nat)(l:List SpotV):cE prog 222 [.iface 284 (.pointer (some ⟨b,0,none⟩)),.int .i64 0] [.obj b (.cells ([.slice A l.length c]:List Value).toArray 330),dU.row (.slice A l.length c) 214 l] [] (λ(_:Unit)=> .tuple #[]) (λ(_:Unit)=>[.obj b (.cells ([.slice A l.length c]:List Value).toArray 330),dU.row (.slice A l.length c) 214 l]) (λ_=>[]):=by
 have hT:=fK;refine j2 func222 ntmps222 ?_;intro β hM;refine one ?_;refine bPs 1 ?_;refine at_round ?_;refine g5 ?_;refine bN (z':=(-1:Int)) m7 ?_;refine ss (sti_quoI rfl rfl rfl k7) ?_;refine bN (z':=((0:Nat):Int)) m7 ?_;refine g9 ?_;refine bS (t':=true) m7 ?_;refine g15 ?_;exact cR () rfl (.c0 (.c0 .nil)) e8 (rfl)
theorem upS_spec(A:Option Addr)(b c m:Nat)(l:List SpotV)(x y:SpotV)(hx:l[m+1]?=some x)(hy:l[m/2]?=some y)(hle:y.since<=x.since)(hm:m<=100000000):cE prog 222 [.iface 284 (.pointer (some ⟨b,0,none⟩)),.int .i64 ((m+1:Nat):Int)] [.obj b (.cells ([.slice A l.length c]:List Value).toArray 330),dU.row (.slice A l.length c) 214 l] [] (λ(_:Unit)=> .tuple #[]) (λ(_:Unit)=>[.obj b (.cells ([.slice A l.length c]:List Value).toArray 330),dU.row (.slice A l.length c) 214 l]) (λ_=>[]):=by
 have hT:=fK;refine j2 func222 ntmps222 ?_;intro β hM;refine one ?_;refine bPs 1 ?_;refine at_round ?_;refine g5 ?_;refine bN (z':=((m:Nat):Int)) t8 ?_;refine ss (sti_quoI rfl rfl rfl k7) ?_;refine bN (z':=((m/2:Nat):Int)) (by rw[Int.tdiv_eq_ediv_of_nonneg k7];exact zE k7 k7) ?_;refine g9 ?_;refine bS (t':=false) (beq_eq_false_iff_ne.2 k7) ?_;refine g4 ?_;refine gP (j4 func372) (Less_spec A c (m+1) (m/2) l x y hx hy) rfl rfl rfl rfl rfl (λw S s k=>kS (λw b=>tZ w b) ((bBr .head) w S s k 0 _ rfl)) rfl (.c1 .nil) e8 λ_=>?_;refine bS (t':=false) (decide_eq_false k7) ?_;refine g10 ?_;exact cR () rfl (.c1 (.c0 .nil)) e8 (rfl)
theorem downS_spec(A:Option Addr)(b c N:Nat)(m0:List SpotV)(z:SpotV)(hN:m0.length=N)(hs:bLb SpotV.since m0 0)(hb:N<=100000000):cE prog 221 [.iface 284 (.pointer (some ⟨b,0,none⟩)),.int .i64 0,.int .i64 (N:Nat)] [.obj b (.cells ([.slice A (N+1) c]:List Value).toArray 330),dU.held (.slice A (N+1) c) (m0++[z])] [] (λ(x:List SpotV×Bool)=> .bool x.2) (λ(x:List SpotV×Bool)=>[.obj b (.cells ([.slice A (N+1) c]:List Value).toArray 330),dU.held (.slice A (N+1) c) (x.1++[z])]) (λ(x:List SpotV×Bool)=>[bC.pure (x.1.Perm m0/\qL SpotV.since x.1)]):=by
 have hT:=fK;refine j2 func221 ntmps221 ?_;intro β hM;refine g13 ?_;refine bU (ι:=Nat×List SpotV) [(0,_),(1,_),(2,_)] ⟨rfl,rfl,rfl,e8⟩ (λ⟨i,m⟩=>[(7,.int .i64 (i:Nat))]) (λ⟨i,m⟩=>[dU.held (.slice A (N+1) c) (m++[z])]) (λ⟨i,m⟩=>[bC.pure (m.length=N/\m.Perm m0/\bLb SpotV.since m i/\(i<N\/i=0))]) (λ⟨i,m⟩=>N-i) (0,m0) ⟨rfl,e8⟩ (.c1 .nil) ⟨e9 (⟨hN,List.Perm.refl _,hs,.inr rfl⟩),e8⟩ ?_;rintro⟨i,m⟩;dsimp only;refine bJ d7 λhinv2=>?_;have hlm:=hinv2.1;have hii:=hinv2.2.2.2;have hlen:(m++[z]).length=N+1:=by simp;omega
 refine g5 ?_;refine inc (2*i) ?_;refine one ?_;refine inc ((2*i)+1) ?_;refine g10 ?_;refine k_le (λhg18=>?_) λhg18=>?_
 .refine g21 ?_;have hhp:qL SpotV.since m:=sink_none hinv2.2.2.1 k7;exact rs1 (m,_) ⟨e9 ⟨hinv2.2.1,hhp⟩,e8⟩
 refine g2 ?_;refine bS (t':=false) (decide_eq_false k7) ?_;refine g17 ?_;refine inc (((2*i)+1)+1) ?_;refine g9 ?_;refine lG (λhg28=>?_) λhg28=>?_
 .refine g3 ?_;obtain⟨y1,hy2⟩:=gx m (2*i+1+1);obtain⟨y3,hy4⟩:=gx m (2*i+1);refine gP (j4 func372) (lessN hlen (iM hy2) (iM hy4)) rfl rfl rfl rfl rfl (λw S s k=>kS (λw b=>tZ w b) ((bBr kT1) w S s k 0 _ rfl)) rfl (.c0 .nil) e8 λ_=>?_;refine g3 ?_;refine dH (λhc33=>?_) λhc33=>?_
  .refine g11 ?_;obtain⟨y5,hy6⟩:=gx m i;refine gP (j4 func372) (lessN hlen (iM hy2) (iM hy6)) rfl rfl rfl rfl rfl (λw S s k=>kS (λw b=>tZ w b) ((bBr kT1) w S s k 0 _ rfl)) rfl (.c0 .nil) e8 λ_=>?_;refine g3 ?_;refine yQ (λhc39=>?_) λhc39=>?_
   .have hc39:=Int.not_lt.1 (of_decide_eq_false hc39);refine g15 ?_;have hhp:qL SpotV.since m:=bJv hinv2.2.2.1 hy6 λk q h1 h2 h3=>Int.le_trans (show y5.since<=y1.since by omega) ((child2 hy4 hy2 k7 k7) k q h1 h2 h3);exact rs1 (m,_) ⟨e9 ⟨hinv2.2.1,hhp⟩,e8⟩
   have hc39:=of_decide_eq_true hc39;refine g7 ?_;refine gP (j4 func375) (swapN hlen (iM hy6) (iM hy2)) rfl rfl rfl rfl rfl (λw S s k=>kS (λw b=>xP w b) ((bBr kT1) w S s k 0 _ rfl)) rfl (.c0 .nil) e8 λ_=>?_;have hsw:=bEg (w:=z) hy6 hy2;rw[hsw];refine g8 ?_;exact bk2 ((2*i+1+1),(m.set i y1).set (2*i+1+1) y5) ⟨e9 (⟨by simp only[List.length_set];omega,(bDl hy6 hy2).trans hinv2.2.1,bDg hinv2.2.2.1 hy6 hy2 k7 k7 k7 (child2 hy4 hy2 k7 k7),k7⟩),e8⟩
  refine g8 ?_;obtain⟨y7,hy8⟩:=gx m i;refine gP (j4 func372) (lessN hlen (iM hy4) (iM hy8)) rfl rfl rfl rfl rfl (λw S s k=>kS (λw b=>tZ w b) ((bBr kT1) w S s k 0 _ rfl)) rfl (.c0 .nil) e8 λ_=>?_;refine g3 ?_;refine yQ (λhc39=>?_) λhc39=>?_
  .have hc39:=Int.not_lt.1 (of_decide_eq_false hc39);refine g15 ?_;have hhp:qL SpotV.since m:=bJv hinv2.2.2.1 hy8 λk q h1 h2 h3=>Int.le_trans (show y7.since<=y3.since by omega) ((child2 hy4 hy2 k7 k7) k q h1 h2 h3);exact rs1 (m,_) ⟨e9 ⟨hinv2.2.1,hhp⟩,e8⟩
  have hc39:=of_decide_eq_true hc39;refine g7 ?_;refine gP (j4 func375) (swapN hlen (iM hy8) (iM hy4)) rfl rfl rfl rfl rfl (λw S s k=>kS (λw b=>xP w b) ((bBr kT1) w S s k 0 _ rfl)) rfl (.c0 .nil) e8 λ_=>?_;have hsw:=bEg (w:=z) hy8 hy4;rw[hsw];refine g8 ?_;exact bk2 ((2*i+1),(m.set i y3).set (2*i+1) y7) ⟨e9 (⟨by simp only[List.length_set];omega,(bDl hy8 hy4).trans hinv2.2.1,bDg hinv2.2.2.1 hy8 hy4 k7 k7 k7 (child2 hy4 hy2 k7 k7),k7⟩),e8⟩
 refine g16 ?_;obtain⟨y9,hy10⟩:=gx m (2*i+1);obtain⟨y11,hy12⟩:=gx m i;refine gP (j4 func372) (lessN hlen (iM hy10) (iM hy12)) rfl rfl rfl rfl rfl (λw S s k=>kS (λw b=>tZ w b) ((bBr kT1) w S s k 0 _ rfl)) rfl (.c0 .nil) e8 λ_=>?_;refine g3 ?_;refine yQ (λhc39=>?_) λhc39=>?_
 .have hc39:=Int.not_lt.1 (of_decide_eq_false hc39);refine g15 ?_;have hhp:qL SpotV.since m:=bJv hinv2.2.2.1 hy12 λk q h1 h2 h3=>Int.le_trans (show y11.since<=y9.since by omega) ((child1 hy10 (Int.le_refl _) k7) k q h1 h2 h3);exact rs1 (m,_) ⟨e9 ⟨hinv2.2.1,hhp⟩,e8⟩
 have hc39:=of_decide_eq_true hc39;refine g7 ?_;refine gP (j4 func375) (swapN hlen (iM hy12) (iM hy10)) rfl rfl rfl rfl rfl (λw S s k=>kS (λw b=>xP w b) ((bBr kT1) w S s k 0 _ rfl)) rfl (.c0 .nil) e8 λ_=>?_;have hsw:=bEg (w:=z) hy12 hy10;rw[hsw];refine g8 ?_;exact bk2 ((2*i+1),(m.set i y9).set (2*i+1) y11) ⟨e9 (⟨by simp only[List.length_set];omega,(bDl hy12 hy10).trans hinv2.2.1,bDg hinv2.2.2.1 hy12 hy10 k7 k7 k7 (child1 hy10 (Int.le_refl _) k7),k7⟩),e8⟩
theorem up_any(A:Option Addr)(b c:Nat)(l:List SpotV)(x:SpotV)(ha: ∀q∈l,q.since<=x.since)(hl:l.length<=100000000):cE prog 222 [.iface 284 (.pointer (some ⟨b,0,none⟩)),.int .i64 (l.length:Nat)] [.obj b (.cells ([.slice A (l++[x]).length c]:List Value).toArray 330),dU.row (.slice A (l++[x]).length c) 214 (l++[x])] [] (λ(_:Unit)=> .tuple #[])
  (λ(_:Unit)=>[.obj b (.cells ([.slice A (l++[x]).length c]:List Value).toArray 330),dU.row (.slice A (l++[x]).length c) 214 (l++[x])]) (λ_=>[]):=by
 rcases Nat.eq_zero_or_pos l.length with h0|h0
 .have e:l=[]:=List.eq_nil_of_length_eq_zero h0;subst e;exact up0_spec A b c [x]
 .obtain⟨m,hm⟩: ∃m,l.length=m+1:=⟨l.length-1,k7⟩
  obtain⟨y,hy⟩: ∃y,l[m/2]?=some y:=⟨_,List.getElem?_eq_getElem k7⟩
  have:=upS_spec A b c m (l++[x]) x y (by rw[<-hm];simp) (iM hy) (ha y (f5 hy)) k7;rw[<-hm]at this;exact this
theorem at_full_row{β:dC}{n:Nat}{Γ:Env}{H:List bD}{F:List bC}{Q:Exit->Act->World->Prop}{ops:Array Oper}{rest:List Oper}{o:Oper}{d c q m:Nat}{x y:Operand}{A B:Option Addr}{xs ys:List SpotV}(hr:dL β H F dU A xs)(hs:dL β H F dU B ys)(hw:want ops Γ o=some true)
  (ho:o.op= .call {callee:= .builtin .append,args:= #[x,y],argTypes:= #[330,330]}) (hd:o.dst=some d) (hn:Nat.blt d n=true) (hx:Γ.ev x=some (.slice A m m)) (hm:m=xs.length) (hy:Γ.ev y=some (.slice B q c)) (hq:q=ys.length) (h0:0<ys.length) (hl:xs.length+ys.length<=2000000000)
  (k: ∀A' cap',At β n ((d,.slice A' (xs++ys).length cap')::Γ) (dU.row (.slice A' (xs++ys).length cap') 214 (xs++ys)::H) F (wpList prog ops Q rest)):At β n Γ H F (wpList prog ops Q (o::rest)):=by
 obtain⟨i,hi,hz,hsz,hb⟩:=xC;exact bJq (E:=dU) hr hs hw ho hd hn underlying330 hi hz hsz hb rfl hx hm hy hq h0 k7 m7 k
theorem PushH_spec(A:Option Addr)(b:Nat)(l:List SpotV)(x:SpotV)(hl:l.length<=100000000):cE prog 374 [.pointer (some ⟨b,0,none⟩),.iface 214 (.agg #[.slice x.at_.addr x.at_.list.length x.at_.cap,.slice x.size.addr x.size.list.length x.size.cap,.int .i64 x.since])] [.obj b (.cells ([.slice A l.length l.length]:List Value).toArray 330),dU.held (.slice A l.length l.length) l] [] (λ(_:Option Addr×Nat)=> .tuple #[]) (λ(y:Option Addr×Nat)=>[.obj b (.cells ([.slice y.1 (l++[x]).length y.2]:List Value).toArray 330),dU.row (.slice y.1 (l++[x]).length y.2) 214 (l++[x])]) (λ_=>[]):=by
 have hT:=fK;refine j2 func374 ntmps374 ?_;intro β hM;refine pJ 9 _ _ [(true,0),(true,1),(true,2),(true,3),(true,4),(true,5),(false,6),(false,7),(true,8)] dW l8 (.c0 .nil) bA.self ?_;refine g5 ?_;refine stL rfl (zS rfl underlying214 (λ_ e=>by cases e) rfl) ?_;refine one ?_;refine bKr (m:=x) rfl rfl rfl rfl rfl λb1=>?_;refine g2 ?_;refine at_full_row (dA kT2) (gB .head rfl) rfl rfl rfl rfl rfl rfl rfl rfl (Nat.succ_pos _) q9 λA2 c3=>?_;refine g5 ?_;exact cR (A2,c3) rfl (.c0 (.c0 .nil)) e8 r7
theorem HPush_spec(A:Option Addr)(b c:Nat)(l:List SpotV)(x:SpotV)(ha: ∀q∈l,q.since<=x.since)(hl:l.length<=100000000):cE prog 168 [.iface 284 (.pointer (some ⟨b,0,none⟩)),.iface 214 (.agg #[.slice x.at_.addr x.at_.list.length x.at_.cap,.slice x.size.addr x.size.list.length x.size.cap,.int .i64 x.since])] [.obj b (.cells ([.slice A l.length c]:List Value).toArray 330),dU.row (.slice A l.length c) 214 l] [] (λ(_:Option Addr×Nat)=> .tuple #[]) (λ(y:Option Addr×Nat)=>[.obj b (.cells ([.slice y.1 (l++[x]).length y.2]:List Value).toArray 330),dU.row (.slice y.1 (l++[x]).length y.2) 214 (l++[x])]) (λ(y:Option Addr×Nat)=>[bC.pure ((l++[x]).length<=y.2)]):=by
 have hT:=fK;refine j2 func168 ntmps168 ?_;intro β hM;refine g4 ?_;refine gP (j4 func374) (Push_spec A b c l x hl) rfl rfl rfl rfl rfl (λw S s k=>bOr w b) rfl (.c0 (.c0 .nil)) e8 λy1=>?_;refine g5 ?_;refine gP (j4 func165) (bBk y1.1 (l++[x]).length y1.2) rfl rfl rfl rfl rfl (λw S s k=>kS (λw b=>bLz w b) ((bBr .head) w S s k 0 _ rfl)) rfl .nil e8 λ_=>?_;refine one ?_;refine bN (z':=((l.length:Nat):Int)) p7 ?_;refine f9 func222 (up_any y1.1 b y1.2 l x ha hl) (.c0 (.c0 .nil)) e8 λ_=>?_;refine iY<|bEx (E:=dU) (xs:=l++[x]) kT1 λhcap=>?_;exact cR y1 rfl (.c0 (.c0 .nil)) ⟨e9 hcap,e8⟩ (rfl)
theorem HPushF_spec(A:Option Addr)(b:Nat)(l:List SpotV)(x:SpotV)(ha: ∀q∈l,q.since<=x.since)(hl:l.length<=100000000):cE prog 168 [.iface 284 (.pointer (some ⟨b,0,none⟩)),.iface 214 (.agg #[.slice x.at_.addr x.at_.list.length x.at_.cap,.slice x.size.addr x.size.list.length x.size.cap,.int .i64 x.since])] [.obj b (.cells ([.slice A l.length l.length]:List Value).toArray 330),dU.held (.slice A l.length l.length) l] [] (λ(_:Option Addr×Nat)=> .tuple #[]) (λ(y:Option Addr×Nat)=>[.obj b (.cells ([.slice y.1 (l++[x]).length y.2]:List Value).toArray 330),dU.row (.slice y.1 (l++[x]).length y.2) 214 (l++[x])]) (λ(y:Option Addr×Nat)=>[bC.pure ((l++[x]).length<=y.2)]):=by
 have hT:=fK;refine j2 func168 ntmps168 ?_;intro β hM;refine g4 ?_;refine gP (j4 func374) (PushH_spec A b l x hl) rfl rfl rfl rfl rfl (λw S s k=>bOr w b) rfl (.c0 (.c0 .nil)) e8 λy1=>?_;refine g5 ?_;refine gP (j4 func165) (bBk y1.1 (l++[x]).length y1.2) rfl rfl rfl rfl rfl (λw S s k=>kS (λw b=>bLz w b) ((bBr .head) w S s k 0 _ rfl)) rfl .nil e8 λ_=>?_;refine one ?_;refine bN (z':=((l.length:Nat):Int)) p7 ?_;refine f9 func222 (up_any y1.1 b y1.2 l x ha hl) (.c0 (.c0 .nil)) e8 λ_=>?_;refine iY<|bEx (E:=dU) (xs:=l++[x]) kT1 λhcap=>?_;exact cR y1 rfl (.c0 (.c0 .nil)) ⟨e9 hcap,e8⟩ (rfl)
theorem HPop_spec(A:Option Addr)(b c N:Nat)(l:List SpotV)(x z:SpotV)(hlm:l.length=N+1)(hc:N+1<=c)(hx:l[0]?=some x)(hz:l[N]?=some z)(hs:qL SpotV.since l)(hb:N<=100000000):cE prog 166 [.iface 284 (.pointer (some ⟨b,0,none⟩))] [.obj b (.cells ([.slice A (N+1) c]:List Value).toArray 330),dU.held (.slice A (N+1) c) l] [] (λ(_:List SpotV)=> .iface 214 (.agg #[.slice x.at_.addr x.at_.list.length x.at_.cap,.slice x.size.addr x.size.list.length x.size.cap,.int .i64 x.since])) (λ(m:List SpotV)=>[.obj b (.cells ([.slice A N N]:List Value).toArray 330),dU.held (.slice A N N) m]) (λ(m:List SpotV)=>[bC.pure (l.Perm (x::m)/\qL SpotV.since m)]):=by
 have hT:=fK;refine j2 func166 ntmps166 ?_;intro β hM;refine g8 ?_;refine gP (j4 func165) (bBk A (N+1) c) rfl rfl rfl rfl rfl (λw S s k=>kS (λw b=>bLz w b) ((bBr .head) w S s k 0 _ rfl)) rfl .nil e8 λ_=>?_;refine one ?_;refine bN (z':=((N:Nat):Int)) (by rw[show((N+1:Nat):Int)-1=(N:Nat) by omega];exact zE rfl k7) ?_;refine g7 ?_;refine gP (j4 func375) (swapN hlm hx hz) rfl rfl rfl rfl rfl (λw S s k=>kS (λw b=>xP w b) ((bBr .head) w S s k 0 _ rfl)) rfl (.c1 .nil) e8 λ_=>?_;rw[bOy hlm hx hz];refine g6 ?_;refine bF func221 (downS_spec A b c N ((l.take N).set 0 z) x o7 (sink_start hs) hb) rfl rfl (.c1 (.c0 .nil)) e8 λy1=>?_;refine bJ d7 λhdn=>?_;have hyl:y1.1.length=N:=by have:=hdn.1.length_eq;simp at this;omega
 refine g5 ?_;refine gP (j4 func373) (PopH_spec A b c N (y1.1++[x]) x o7 hc (by rw[<-hyl];simp) hb) rfl rfl rfl rfl rfl (λw S s k=>meth_pop w b) rfl (.c0 (.c0 .nil)) e8 λ_=>?_;have htk:(y1.1++[x]).take N=y1.1:=by rw[<-hyl];simp
 rw[htk];refine g4 ?_;exact rs1 y1.1 ⟨e9 ⟨swap_perm hlm hx hz hdn.1,hdn.2⟩,e8⟩
set_option maxRecDepth 100000
set_option maxHeartbeats 1000000 in
theorem above_any(a b:Mono)(w:World):
  Calls prog 171 #[.agg #[.int .i64 a.n,.int .u8 a.e0.toNat,.int .u8 a.e1.toNat,.int .u8 a.e2.toNat,.int .u8 a.e3.toNat,.int .u8 a.e4.toNat,.int .u8 a.e5.toNat],.agg #[.int .i64 b.n,.int .u8 b.e0.toNat,.int .u8 b.e1.toNat,.int .u8 b.e2.toNat,.int .u8 b.e3.toNat,.int .u8 b.e4.toNat,.int .u8 b.e5.toNat]] w λe w'=>e= .returned (.int .i64 (bPt a b))/\Below w.heap.size w w':=by
 go_enter func171,ntmps171
 go_wp2
 refine wp_loop_rounds 7 ?_
 repeat any_goals (first|(rw[rounds_succ];go_wp2)|(go_quiet (fail);go_wp2))
 all_goals go_ret
 all_goals refine⟨ret_int ?_,?_⟩
 all_goals first|((repeat refine bFr ?_ _);go_grown;done)|(go_light;simp[bPt,Mono.E,xF, *];done)|(go_light;simp[bPt,Mono.E,xF, *];rfl)
end
section
open Go.RowKit Go.Proofs.Tryz
set_option maxRecDepth 100000
theorem cmp_flip: ∀(l m:List UInt8),(Lib.compareBytes l m=1↔Lib.compareBytes m l<0)/\(Lib.compareBytes l m=0↔Lib.compareBytes m l=0)
 |[],[]=>by simp[Lib.compareBytes]
 |[],_::_=>by simp[Lib.compareBytes]
 |_::_,[]=>by simp[Lib.compareBytes]
 |a::l,b::m=>by
  have ih:=cmp_flip l m;rw[xF,xF]
  by_cases h1:b.toNat<a.toNat
  .rw[if_pos h1,if_neg k7,if_pos h1];simp
  .rw[if_neg h1]
   by_cases h2:a.toNat<b.toNat
   .rw[if_pos h2,if_pos h2];simp
   .rw[if_neg h2,if_neg h2,if_neg h1];exact ih
theorem bQp(a b:Mono):bPt a b=1↔ord a b<0:=(cmp_flip _ _).1
theorem small_not{m:Mono}(h:gU m=false):(m.n==0)=true\/((m.n==0)=false/\decide (16777216<m.n)=true)\/((m.n==0)=false/\decide (16777216<m.n)=false/\decide (m.n< -16777216)=true)\/
  ((m.n==0)=false/\decide (16777216<m.n)=false/\decide (m.n< -16777216)=false/\decide (8<(m.deg:Int))=true):=by
 have h': ¬(m.n≠0/\m.n<=16777216/\ -16777216<=m.n/\m.deg<=8):=of_decide_eq_false h;simp only[beq_iff_eq,beq_eq_false_iff_ne,decide_eq_true_eq,decide_eq_false_iff_not];omega
theorem small_all{m:Mono}(h:gU m=true):(m.n==0)=false/\decide (16777216<m.n)=false/\decide (m.n< -16777216)=false/\decide (8<(m.deg:Int))=false:=by
 have h':m.n≠0/\m.n<=16777216/\ -16777216<=m.n/\m.deg<=8:=of_decide_eq_true h;simp only[beq_eq_false_iff_ne,decide_eq_false_iff_not];omega
set_option maxHeartbeats 1000000 in
theorem bBy(A:Option Addr)(c:Nat)(xs:List Mono)(w:World)(ha:jY w A xs)(hx:xs.length<=140737488355328):
  Calls prog 101 #[.slice A xs.length c] w λe w'=>e= .returned (.bool (cL xs))/\Below w.heap.size w w':=by
 by_cases hl:xs.length<=48
 .have hl1:decide ((48:Int)<(xs.length:Int))=false:=by simp;omega
  have Ha:=Lib.hid ha;clear ha
  go_enter func101,ntmps101
  go_wp2
  go_loopw [3] (λi wr=> ∃k:Nat,k<=xs.length/\i= .int .i64 k/\Hid (cL xs=dI (if k=0 then none else xs[k-1]?) (xs.drop k))/\Below w.heap.size w wr) (λi _=>xs.length-(intOf i).toNat)
  case atStart=>exact⟨0,Nat.zero_le _,rfl,by show _=_;simp[cL,hl],Below.refl _ _⟩
  case round=>
   obtain⟨k,hk,rfl,hs,hbl⟩:=hrel
   by_cases hlt:k<xs.length
   .obtain⟨m,hm,dm⟩:=lW hlt;obtain⟨b,o,rfl,hB,c0,c1,c2,c3,c4,c5,c6⟩:=Ha.out.below hbl k m hm;have HN:=Lib.hid (show gU m=false->cL xs=false by intro hsb;rw[hs.out,dm];split<;>(try cases xs[k-1]?)<;>simp[dI,hsb]);have HM:=Lib.hid hm;have HD:=Lib.hid dm;cases hsb:gU m
    .have HN':=Lib.hid (HN.out hsb);have HBL:=Lib.hid hbl;clear dm hm hbl hB HN hs HM HD
     rcases small_not hsb with t0|⟨t0,t1⟩|⟨t0,t1,t2⟩|⟨t0,t1,t2,t3⟩
     all_goals go_wp2_with (go_at_call 170;refine(bMc m _).mono ?_;rintro e w1 ⟨rfl,hb1⟩)
     all_goals go_ret
     all_goals refine⟨jB HN'.out.symm,?_⟩
     all_goals first|exact HBL.out|exact HBL.out.trans (hb1.mono HBL.out.size)
    .obtain⟨t0,t1,t2,t3⟩:=small_all hsb;have HC:=Lib.hid (Ha.out.below hbl k m hm);have HBL:=Lib.hid hbl;clear dm hm hbl hB HN
     go_wp2_with (go_at_call 170;refine(bMc m _).mono ?_;rintro e w1 ⟨rfl,hb1⟩)
     clear c0 c1 c2 c3 c4 c5 c6 t0 t1 t2 t3;have HB1:=Lib.hid (show Below w.heap.size w w1 from HBL.out.trans (hb1.mono HBL.out.size));clear hb1 HBL HC
     rcases Nat.eq_zero_or_pos k with hk0|hk0
     .have hk1:decide (0<k)=false:=by simp;omega
      have HS:=Lib.hid (show cL xs=dI (if k+1=0 then none else xs[k+1-1]?) (xs.drop (k+1)) by rw[hs.out,HD.out,if_pos hk0,if_neg k7,show k+1-1=k from rfl,HM.out];simp[dI,hsb]);clear hs hk0 HM HD;refine kQ k8 k8 ?_
      repeat (go_big_quiet_step (fail))
      refine wpQuiet_nil ?_;rintro _ ⟨x,rfl⟩
      go_wp2
      go_roundw
      case rel=>exact⟨k+1,k7,by go_num,HS,HB1.out.trans (x.h.mono HB1.out.size)⟩
      case measure=>simp[intOf];omega
     .have hk1:decide (0<k)=true:=by simp;omega
      obtain⟨j,rfl⟩: ∃j,k=j+1:=⟨k-1,k7⟩
      obtain⟨q,hq⟩: ∃q,xs[j]?=some q:=⟨xs[j]'k7,List.getElem?_eq_getElem _⟩
      have HS:=Lib.hid (show cL xs=(decide (ord q m<0)&&dI (some m) (xs.drop (j+1+1))) by rw[hs.out,HD.out,if_neg k7,show j+1-1=j from rfl,hq];simp[dI,hsb])
      have p0:fE w1 b (o+j*7) q/\fE w1 b (o+(j+1)*7) m:=by
       obtain⟨b1,o1,e1,hB1,hm1⟩:=Ha.out.below HB1.out j q hq;obtain⟨b2,o2,e2,hB2,hm2⟩:=Ha.out.below HB1.out (j+1) m HM.out;injection e1 with e1
       injection e1 with e1 e1'
       injection e2 with e2
       injection e2 with e2 e2'
       subst e1 e1' e2 e2';exact⟨hm1,hm2⟩
      obtain⟨r0,r1,r2,r3,r4,r5,r6⟩:=p0.2.later;obtain⟨s0,s1,s2,s3,s4,s5,s6⟩:=p0.1.later;clear hs hk0 hq p0;have Hor:=Lib.hid (fN.calls (W0:=w1) λW _=>above_any q m W);refine kQ k8 k8 ?_
      repeat (go_big_quiet_step ((go_at_call 171;exact Hor.out _)))
      refine wpQuiet_nil ?_;rintro _ ⟨x,rfl⟩;clear r0 r1 r2 r3 r4 r5 r6 s0 s1 s2 s3 s4 s5 s6 Hor;have HBX:=Lib.hid (show Below w.heap.size w x.w from HB1.out.trans (x.h.mono HB1.out.size));clear HB1
      by_cases ho:ord q m<0
      .have ho1:(bPt q m !=1)=false:=by simp[(bQp q m).2 ho]
       go_wp2
       go_roundw
       case rel=>exact⟨j+1+1,k7,by go_num,r8,HBX.out⟩
       case measure=>simp[intOf];omega
      .have ho1:(bPt q m !=1)=true:=by rw[bne_iff_ne];intro h;exact ho ((bQp q m).1 h)
       go_wp2
       go_ret
       exact⟨jB u5,HBX.out⟩
   .have hk':k=xs.length:=k7
    go_wp2
    go_ret
    refine⟨jB ?_,hbl⟩;rw[hs.out,List.drop_of_length_le k7];split<;>(try cases xs[k-1]?)<;>simp[dI]
 .have hl1:decide ((48:Int)<(xs.length:Int))=true:=by simp;omega
  go_enter func101,ntmps101
  go_wp2
  go_ret
  exact⟨jB (by simp[cL,hl]),Below.refl _ _⟩
end
section
open Go.RowKit Go.Proofs.Tryz
set_option maxRecDepth 100000
set_option maxHeartbeats 1000000 in
theorem refGrows_any(A:Option Addr)(c:Nat)(xs:List Mono)(w:World)(ha:jY w A xs)(hx:xs.length<=140737488355328):
  Calls prog 155 #[.slice A xs.length c] w λe w'=>e= .returned (.bool (iE xs))/\Below w.heap.size w w':=by
 have Ha:=Lib.hid ha;clear ha
 go_enter func155,ntmps155
 go_wp2
 go_loop [3] (λi=> ∃k:Nat,k<=xs.length/\i= .int .i64 k/\Hid (xs.any tC=(xs.drop k).any tC)) (λi=>xs.length-(intOf i).toNat)
 case atStart=>exact⟨0,Nat.zero_le _,rfl,rfl⟩
 case round=>
  obtain⟨k,hk,rfl,hs⟩:=hrel
  by_cases hlt:k<xs.length
  .obtain⟨m,hm,dm⟩:=lW hlt;obtain⟨b,o,rfl,hB,c0,c1,c2,c3,c4,c5,c6⟩:=Ha.out k m hm;have HS:=Lib.hid (show xs.any tC=(tC m || (xs.drop (k+1)).any tC) by rw[hs.out,dm,List.any_cons]);clear hs hm dm hB c1 c2 c3 c4 c5 c6
   by_cases hn:m.n<0
   .have hn1:decide (m.n<0)=true:=by simpa using hn
    go_wp2
    go_ret
    exact⟨jB (by unfold iE;rw[HS.out,show tC m=true from hn1,Bool.true_or];simp),Below.refl _ _⟩
   .have hn1:decide (m.n<0)=false:=by simpa using hn
    go_wp2
    go_round
    case rel=>exact⟨k+1,k7,by go_num,(by show _=_;rw[HS.out,show tC m=false from hn1,Bool.false_or])⟩
    case measure=>simp[intOf];omega
  .have HS:=Lib.hid (show xs.any tC=false by rw[hs.out,List.drop_of_length_le k7];rfl);clear hs
   go_wp2_with fail
   refine(bBy A c xs _ Ha.out hx).mono ?_;rintro e w1 ⟨rfl,hb1⟩
   go_wp2
   go_ret
   exact⟨jB (by unfold iE;rw[HS.out];simp),hb1⟩
section
variable (p : PolV)
theorem refR_spec(hp:p.list.length<=140737488355328):cE prog 101 [.slice p.addr p.list.length p.cap] [] [fC p] (λ_:Unit=> .bool (cL p.list)) (λ_=>[]) (λ_=>[]):=
 pC λ_ w hS h=>bBy _ _ _ w (kI hS (h _ (.head _))) hp
theorem refG_spec(hp:p.list.length<=140737488355328):cE prog 155 [.slice p.addr p.list.length p.cap] [] [fC p] (λ_:Unit=> .bool (iE p.list)) (λ_=>[]) (λ_=>[]):=
 pC λ_ w hS h=>refGrows_any _ _ _ w (kI hS (h _ (.head _))) hp
end
end
section
open Go.RowKit Go.Proofs.Tryz
section
variable {f : Int} {two : Bool}
theorem yE(h:two=true)(h1:1<=f)(h2:f<=17):Value.bool (f !=16)= .bool (fX f two):=by
 unfold fX;rw[if_neg k7,h]
 by_cases e:f=16
 .subst e;rfl
 .rw[if_neg e];simp[e]
theorem xW(h:two=false)(h1:1<=f)(h2:f<=7):Value.bool true= .bool (fX f two):=by
 unfold fX;rw[if_neg k7,if_neg k7,h];simp[h2]
theorem xY(h:two=false)(h1: ¬f<=7):Value.bool (f==16)= .bool (fX f two):=by
 unfold fX
 by_cases e:f=16
 .subst e;rw[h];rfl
 .rw[if_neg e,h]
  by_cases h2:f<1\/17<f
  .rw[if_pos h2];simp[e]
  .rw[if_neg h2];simp[e,h1]
theorem xL(h1:f<1):Value.bool (f==16)= .bool (fX f two):=by
 unfold fX;rw[if_pos k7];have:f≠16:=k7
 simp[this]
end
theorem exp_at{m:Mono}{k:Nat}{z:Int}(h:(EI m)[k]?=some z):((m.cells.drop 1).drop (k*1))[0]?=some (.int .u8 z):=by
 rw[List.getElem?_drop,List.getElem?_drop];have e:m.cells= .int .i64 m.n::(EI m).map (λz=>Value.int .u8 z):=rfl;rw[e,show 1+(k*1+0)=k+1 by omega,List.getElem?_cons_succ,List.getElem?_map,h];rfl
theorem own_no{l:List Mono}{vars:Int}(h:cL l=false):Value.bool false= .bool (ofB l vars):=by simp[ofB,h]
theorem own_end{l:List Mono}{vars:Int}(h:cL l=true)(h2:l.all (okM (clampK vars))=true):Value.bool true= .bool (ofB l vars):=by
 rw[<-h];exact of_end h2
theorem grow_long{l:List (List Mono)}{vars:Int}(h:4<l.length):Value.bool false= .bool (gK l vars):=by
 unfold gK;have: ¬l.length<=4:=k7
 simp[this]
theorem grow_all{l:List (List Mono)}{vars:Int}(h:l.all (λp=>ofB p vars&&iE p)=true)(h4:l.length<=4):Value.bool true= .bool (gK l vars):=by
 unfold gK;rw[h];simp[h4]
theorem takes10_spec(o:OpV):cE prog 213 [.agg #[.int .i64 o.how,.int .i64 o.k,.int .i64 o.n,.slice o.p.addr o.p.list.length o.p.cap,.int .u8 o.fn]] [] [] (λ(_:Unit)=> .int .i64 (cH o.how)) (λ_=>[]) (λ_=>[]):=by
 have hT:=dB;refine j2 func213 ntmps213 ?_;intro β hM;refine g2 ?_;refine j0 λb1=>?_;refine g18 ?_;refine cG rfl (λhc5=>?_) (λhc5=>?_)
 .have hc5_r:=hc5;have hc5:=eq_of_beq hc5;refine g2 ?_;refine kP rfl hc5_r ?_;refine g8 ?_;exact rs1 () e8 (he:=by simp[cH, *])
 have hc5_r:=hc5;have hc5:=beq_eq_false_iff_ne.1 hc5;refine g6 ?_;refine cG rfl (λhc5_2=>?_) (λhc5_2=>?_)
 .have hc5_2_r:=hc5_2;have hc5_2:=eq_of_beq hc5_2;refine g2 ?_;refine kP rfl hc5_2_r ?_;refine g8 ?_;exact rs1 () e8 (he:=by simp[cH, *])
 have hc5_2_r:=hc5_2;have hc5_2:=beq_eq_false_iff_ne.1 hc5_2;refine g5 ?_;refine cG rfl (λhc5_3=>?_) (λhc5_3=>?_)
 .have hc5_3_r:=hc5_3;have hc5_3:=eq_of_beq hc5_3;refine g8 ?_;exact rs1 () e8 (he:=by simp[cH, *])
 have hc5_3_r:=hc5_3;have hc5_3:=beq_eq_false_iff_ne.1 hc5_3;refine g7 ?_;refine cG rfl (λhc9=>?_) (λhc9=>?_)
 .have hc9_r:=hc9;have hc9:=eq_of_beq hc9;refine g2 ?_;refine kP rfl hc9_r ?_;refine g8 ?_;exact rs1 () e8 (he:=by simp[cH, *])
 have hc9_r:=hc9;have hc9:=beq_eq_false_iff_ne.1 hc9;refine g5 ?_;refine cG rfl (λhc9_4=>?_) (λhc9_4=>?_)
 .have hc9_4_r:=hc9_4;have hc9_4:=eq_of_beq hc9_4;refine g8 ?_;exact rs1 () e8 (he:=by simp[cH, *])
 have hc9_4_r:=hc9_4;have hc9_4:=beq_eq_false_iff_ne.1 hc9_4;refine g6 ?_;refine cG rfl (λhc12=>?_) (λhc12=>?_)
 .have hc12_r:=hc12;have hc12:=eq_of_beq hc12;refine g8 ?_;exact rs1 () e8 (he:=by simp[cH, *])
 have hc12_r:=hc12;have hc12:=beq_eq_false_iff_ne.1 hc12;refine g9 ?_;exact rs1 () e8 (he:=by simp[cH, *])
theorem sZ(f:Int)(two:Bool):cE prog 156 [.int .u8 f,.bool two] [] [] (λ(_:Unit)=> .bool (fX f two)) (λ_=>[]) (λ_=>[]):=by
 have hT:=dB;refine j2 func156 ntmps156 ?_;intro β hM;refine g11 ?_;refine cG rfl (λhc5=>?_) (λhc5=>?_)
 .have hc5_r:=hc5;refine g5 ?_;refine cD (λhg8=>?_) (λhg8=>?_)
  .have hg8:=of_decide_eq_true hg8;refine g4 ?_;refine cD (λhg12=>?_) (λhg12=>?_)
   .have hg12:=of_decide_eq_true hg12;refine g8 ?_;exact rs1 () e8 (he:=by first|exact qM k7|exact yE ‹_› k7 k7|exact xW ‹_› k7 k7|exact xY ‹_› k7|exact xL k7)
   have hg12:=Int.not_le.1 (of_decide_eq_false hg12);refine g8 ?_;exact rs1 () e8 (he:=by first|exact qM k7|exact yE ‹_› k7 k7|exact xW ‹_› k7 k7|exact xY ‹_› k7|exact xL k7)
  have hg8:=Int.not_le.1 (of_decide_eq_false hg8);refine g12 ?_;exact rs1 () e8 (he:=by first|exact qM k7|exact yE ‹_› k7 k7|exact xW ‹_› k7 k7|exact xY ‹_› k7|exact xL k7)
 have hc5_r:=hc5;refine g7 ?_;refine cD (λhg18=>?_) (λhg18=>?_)
 .have hg18:=of_decide_eq_true hg18;refine g4 ?_;refine cD (λhg22=>?_) (λhg22=>?_)
  .have hg22:=of_decide_eq_true hg22;refine g7 ?_;exact rs1 () e8 (he:=by first|exact qM k7|exact yE ‹_› k7 k7|exact xW ‹_› k7 k7|exact xY ‹_› k7|exact xL k7)
  have hg22:=Int.not_le.1 (of_decide_eq_false hg22);refine g7 ?_;exact rs1 () e8 (he:=by first|exact qM k7|exact yE ‹_› k7 k7|exact xW ‹_› k7 k7|exact xY ‹_› k7|exact xL k7)
 have hg18:=Int.not_le.1 (of_decide_eq_false hg18);refine g11 ?_;exact rs1 () e8 (he:=by first|exact qM k7|exact yE ‹_› k7 k7|exact xW ‹_› k7 k7|exact xY ‹_› k7|exact xL k7)
theorem bBv(A:Option Addr)(c:Nat)(l:List OpV)(hl:l.length<=140737488355328):cE prog 157 [.slice A l.length c] [] [opE.sl (.slice A l.length c) l,bC.each l opF] (λ(_:Unit)=> .int .i64 (kL (opsL l))) (λ_=>[]) (λ_=>[]):=by
 have hT:=dB;generalize hR:kL (opsL l)=r;refine j2 func157 ntmps157 ?_;intro β hM;refine g22 ?_;refine bU (ι:=Nat×Int×Int) [(0,_)] ⟨rfl,e8⟩ (λ⟨i,m,n⟩=>[(3,.int .i64 n),(4,.int .i64 m),(5,.int .i64 (i:Nat))]) (λ_=>[]) (λ⟨i,m,n⟩=>[bC.pure (i<=l.length/\bLn l i m n r/\0<=n/\n<=i)]) (λ⟨i,m,n⟩=>l.length-i) (0,0,0) ⟨rfl,rfl,rfl,e8⟩ .nil ⟨e9 (⟨k7,hR,k7,k7⟩),e8⟩ ?_;rintro⟨i,m,n⟩;dsimp only;refine bJ d7 λhinv4=>?_;refine g9 ?_;refine dH (λhc10=>?_) λhc10=>?_
 .refine g8 ?_;obtain⟨x1,hx2⟩:=gx l i;refine ss (ixs i) ?_;refine ss (jQ hx2 0) ?_;refine f9 func213 (takes10_spec x1) .nil e8 λ_=>?_;refine g5 ?_;have htk:=takes_le x1.how
  have hd0:=(dep_step hinv4.2.1 hx2)
  refine g4 ?_;refine lG (λhg20=>?_) λhg20=>?_
  .refine g19 ?_;have hr:=hd0.1 k7;subst hr;exact rs1 () trivial
  refine g6 ?_;refine dH (λhc24=>?_) λhc24=>?_
  .refine g12 ?_;have hr:=hd0.1 k7;subst hr;exact rs1 () trivial
  refine g7 ?_;refine bN (mF k7 k7) ?_;refine one ?_;refine bN (mF k7 k7)<|bN (z':=n+(1-cH x1.how)) k7 ?_;refine g14 ?_;refine inc (i+1) ?_;refine g3 ?_;exact oC (i+1,_,_) n9 ⟨rfl,rfl,rfl,e8⟩ ⟨rfl,e8⟩ .nil ⟨e9 (⟨by dsimp only;omega,hd0.2 k7 k7,by dsimp only;omega,by dsimp only;omega⟩),e8⟩ (bA.drop 1)
 refine g12 ?_;refine bNw (λhc33=>?_) λhc33=>?_
 .refine g7 ?_;have hr:=(bHq hinv4.2.1 k7).1 ‹_›;subst hr;exact rs1 () trivial
 refine g9 ?_;have hr:=(bHq hinv4.2.1 k7).2 ‹_›;subst hr;exact rs1 () trivial
theorem bMb(p:PolV)(vars:Int)(hv:0<=vars)(hv6:vars<=6):cE prog 154 [.slice p.addr p.list.length p.cap,.int .i64 vars] [] [fC p] (λ(_:Unit)=> .bool (ofB p.list vars)) (λ_=>[]) (λ_=>[]):=by
 have hT:=dB;have hcl:((clampK vars:Nat):Int)=vars:=by unfold clampK;omega
 refine j2 func154 ntmps154 ?_;intro β hM;refine fT<|bJ (gG d7) λhp=>?_;refine bK (mM.sl (.slice p.addr p.list.length p.cap) p.list) (pQ d7) ?_;refine g8 ?_;refine f9 func101 (refR_spec p hp) .nil ⟨d8,e8⟩ λ_=>?_;refine g3 ?_;refine yQ (λhc9=>?_) λhc9=>?_
 .refine g7 ?_;exact rs1 () e8 (he:=own_no (by simp_all))
 refine g9 ?_;refine bU (ι:=Nat) [(0,_),(1,_)] ⟨rfl,rfl,e8⟩ (λi=>[(5,.int .i64 (i:Nat))]) (λ_=>[]) (λi=>[bC.pure (i<=p.list.length/\(p.list.take i).all (okM (clampK vars))=true)]) (λi=>p.list.length-i) 0 ⟨rfl,e8⟩ .nil ⟨e9 (⟨k7,rfl⟩),e8⟩ ?_;rintro i;refine bJ d7 λhinv4=>?_;refine g9 ?_;refine dH (λhc13=>?_) λhc13=>?_
 .refine g5 ?_;obtain⟨x1,hx2⟩:=gx p.list i;refine g3 ?_;refine bN (z':=((clampK vars+0:Nat):Int)) k7 ?_;refine g3 ?_;refine bU (ι:=Nat) [(0,_),(1,_),(5,_)] ⟨rfl,rfl,rfl,e8⟩ (λj=>[(6,.int .i64 ((clampK vars+j:Nat):Int))]) (λ_=>[]) (λj=>[bC.pure (clampK vars+j<=6/\(((EI x1).drop (clampK vars)).take j).all (λe=>e==0)=true)]) (λj=>6-clampK vars-j) 0 ⟨rfl,e8⟩ .nil ⟨e9 (⟨k7,rfl⟩),e8⟩ ?_;rintro j;refine bJ d7 λhinv7=>?_;refine g7 ?_;refine dH (λhc18=>?_) λhc18=>?_
  .refine g9 ?_;refine ss (ixs i) ?_;refine one ?_;refine ss (pK hT (k:=(clampK vars+j)) rfl rfl rfl rfl rfl rfl k7) ?_;obtain⟨z3,hz4⟩:=gx (EI x1) (clampK vars+j) (by show _<6;omega);have hjz3:((EI x1).drop (clampK vars))[j]?=some z3:=by rw[List.getElem?_drop];exact hz4
   have hge:=ei_ge hjz3;refine ss (bO hT (nE.drop (dL.knows (bR d9) (k:=i) (x:=x1) hx2 1) ((clampK vars+j)*1)) rfl rfl rfl rfl (exp_at hz4)) ?_;refine g3 ?_;refine dH (λhc28=>?_) λhc28=>?_
   .refine g15 ?_;exact rs1 () e8 (he:=of_bad hx2 (okM_bad hjz3 k7))
   refine g6 ?_;refine inc ((clampK vars+j)+1) ?_;refine g3 ?_;exact bk2 (j+1) ⟨e9 (⟨k7,jW hinv7.2 hjz3 (beq_iff_eq.2 k7)⟩),e8⟩
  refine g9 ?_;refine inc (i+1) ?_;refine g3 ?_;exact bk2 (i+1) ⟨e9 (⟨k7,jW hinv4.2 hx2 (okM_end hinv7.2 ab5)⟩),e8⟩
 refine g11 ?_;exact rs1 () e8 (he:=own_end (by simp_all) (pR hinv4.2 k7))
theorem wW(l:Sl PolV)(vars:Int)(hv:0<=vars)(hv6:vars<=6):cE prog 84 [.slice l.addr l.list.length l.cap,.int .i64 vars] [] [oL l] (λ(_:Unit)=> .bool (gK (polsL l.list) vars)) (λ_=>[]) (λ_=>[]):=by
 have hT:=dB;refine j2 func84 ntmps84 ?_;intro β hM;refine fT<|bJ (uP d7) λhlz=>?_;have hlz2:=hlz.2;refine bK (iD.sl (.slice l.addr l.list.length l.cap) l.list) (qR d7) ?_;refine g12 ?_;refine dH (λhc8=>?_) λhc8=>?_
 .refine g7 ?_;exact rs1 () e8 (he:=grow_long o9)
 refine g9 ?_;refine bU (ι:=Nat) [(0,_),(1,_)] ⟨rfl,rfl,e8⟩ (λi=>[(5,.int .i64 (i:Nat))]) (λ_=>[]) (λi=>[bC.pure (i<=l.list.length/\((polsL l.list).take i).all (λp=>ofB p vars&&iE p)=true)]) (λi=>l.list.length-i) 0 ⟨rfl,e8⟩ .nil ⟨e9 (⟨k7,rfl⟩),e8⟩ ?_;rintro i;refine bJ d7 λhinv4=>?_;refine g9 ?_;refine dH (λhc12=>?_) λhc12=>?_
 .refine g5 ?_;obtain⟨x1,hx2⟩:=gx l.list i;refine bK (fC x1) (Has.each (qO d9) (f5 hx2))<|bJ (gG d7) λhpx1=>?_;refine g3 ?_;refine ss (ixs i) ?_;refine ss (fJ hx2 0) ?_;refine one ?_;refine f9 func154 (bMb x1 vars hv hv6) .nil ⟨d7,e8⟩ λ_=>?_;refine g2 ?_;refine bKt (λhg22=>?_) λhg22=>?_
  .refine g21 ?_;exact rs1 () e8 (he:=bBw (dD hx2) (by simp_all))
  refine g2 ?_;refine ss (ixs i) ?_;refine ss (fJ hx2 0) ?_;refine f9 func155 (refG_spec x1 hpx1) .nil ⟨d7,e8⟩ λ_=>?_;refine g4 ?_;refine yQ (λhc29=>?_) λhc29=>?_
  .refine g11 ?_;exact rs1 () e8 (he:=bBw (dD hx2) (by simp_all))
  refine g6 ?_;refine inc (i+1) ?_;refine g3 ?_;exact bk2 (i+1) ⟨e9 (⟨k7,jW hinv4.2 (dD hx2) (by simp_all)⟩),e8⟩
 refine g11 ?_;exact rs1 () e8 (he:=grow_all (pR hinv4.2 o9) o9)
end
end Go.Proofs.YtnfiadlonjediaaGreatDoor
