/- Texts of one proof, one behind the other: DelS, TysP, PlL, PlM, PlW, PlX, PlY, PlF, PlZ, PlP, Above, RefRight, RefGrowsK, RefA. -/
import Derived.Test.YtnfiadlonjediaaGreatDoorM9
import Derived.Test.YtnfiadlonjediaaGreatDoorM8
import Derived.ArgAppend
import Derived.Test.YtnfiadlonjediaaGreatDoorM7
import Derived.Test.YtnfiadlonjediaaGreatDoorM12
import Derived.Test.YtnfiadlonjediaaGreatDoorM13
import Derived.Test.YtnfiadlonjediaaGreatDoorM11
import Derived.Test.YtnfiadlonjediaaGreatDoorM4
import Derived.Test.YtnfiadlonjediaaGreatDoorM6
import Derived.Test.YtnfiadlonjediaaGreatDoorRows
import Derived.WalkKit
import Derived.WalkSpells
import Derived.WalkLawsBesides
import Derived.Handy
import Derived.Deep.QuietTactic
import Derived.Deep.Light
import Derived.BigQuiet
set_option maxRecDepth 100000
namespace Go.Proofs.YtnfiadlonjediaaGreatDoor
open _root_.Nat renaming blt->C0,eq_zero_or_pos->aP
open _root_.List renaming getElem?_of_mem->aQ,mem_of_getElem?->Z8,getElem?_eq_some_iff->D9,take_append_drop->W9,flatMap_append->aR,flatMap_cons->aS,perm_append_comm_assoc->aT,append_assoc->aU,perm_append_comm->aV,getElem?_set->U6,getElem?_append->aW,map_cons->I5,mem_cons->C9,nodup_cons->aX,mem_cons_of_mem->D1,mem_cons_self->D5,length_append->E0,findIdx?_map->aY,eraseIdx_sublist->aZ,length_set->P6,mem_append->D0,pairwise_cons->D2,length_take->W8,getElem?_append_left->aL,getElem?_eq_none->V5,getElem?_eq_getElem->D7,set_set_perm->eA,set_append_left->eB
open _root_.Int renaming not_lt->V8,le_trans->eC
open Lib renaming compareBytes->R0,hid->R1
section
open Go.RowKit Go.Proofs.Tryz
end
section
open Go.RowKit Go.ChangeShapes Go.WideShapes Go.Proofs.Tryz
structure SpotV where
 at_:PolV
 size:PolV
 since:Int
 deriving Inhabited
def dS:Flat SpotV where
 size:=3
 cells:=λx=>[.slice x.at_.addr x.at_.list.length x.at_.cap,.slice x.size.addr x.size.list.length x.size.cap,.int .i64 x.since]
 len:=λ_=>rfl
 one:=λx u hu=>by
  simp at hu
  rcases hu with rfl|rfl|rfl<;>rfl
 pos:=l5
structure LayV where
 at_:(Sl PolV)
 size:PolV
 deriving Inhabited
def bJw:Tab:=[(3,⟨.int .i64,1⟩),(2,⟨.int .i64,1⟩),(5,⟨.int .u8,1⟩),(4,⟨.bool,1⟩),(77,⟨.int .u8,1⟩),(32,⟨.int .i64,1⟩),(43,⟨.slice 111,1⟩),(42,⟨.slice 43,1⟩),(172,⟨.struct [(3,0),(3,1),(2,2),(43,3),(77,4)],5⟩),(78,⟨.slice 172,1⟩),(95,⟨.struct [(42,0),(3,1)],2⟩),(22,⟨.slice 95,1⟩),(80,⟨.struct [(3,0),(3,1),(43,2),(42,3),(77,4),(78,5)],6⟩),(23,⟨.slice 80,1⟩),(24,⟨.slice 3,1⟩),(99,⟨.slice 4,1⟩),(26,⟨.struct [(3,0),(22,1),(23,2),(24,3)],4⟩),(114,⟨.struct [(3,0),(3,1)],2⟩),(97,⟨.slice 114,1⟩),(201,⟨.struct [(3,0),(3,1),(3,2),(99,3)],4⟩),(214,⟨.struct [(43,0),(43,1),(3,2)],3⟩),(329,⟨.slice 214,1⟩),(45,⟨.struct [(42,0),(43,1)],2⟩),(198,⟨.array 64 4,64⟩),(111,⟨.struct [(2,0),(109,1)],7⟩),(109,⟨.array 6 5,6⟩),(290,⟨.slice 5,1⟩),(224,⟨.int .u64,1⟩),(199,⟨.other,1⟩),(274,⟨.other,1⟩),(126,⟨.other,1⟩),(105,⟨.struct [(43,0),(103,1),(3,2),(102,3)],4⟩),(102,⟨.map 3 214,1⟩),(330,⟨.slice 214,1⟩),(284,⟨.other,1⟩),(103,⟨.slice 284,1⟩),(101,⟨.other,1⟩)]
theorem fI:dU prog bJw:=tA.ok
 ⟨⟨by rw[underlying3];rfl,l4⟩,
  ⟨by rw[underlying2];rfl,l4⟩,
  ⟨by rw[underlying5];rfl,l4⟩,
  ⟨by rw[underlying4];rfl,l4⟩,
  ⟨by rw[underlying77];rfl,l4⟩,
  ⟨by rw[underlying32];rfl,l4⟩,
  ⟨by rw[underlying43];rfl,l4⟩,
  ⟨by rw[underlying42];rfl,l4⟩,
  ⟨by rw[underlying172];rfl,l4⟩,
  ⟨by rw[underlying78];rfl,l4⟩,
  ⟨by rw[underlying95];rfl,l4⟩,
  ⟨by rw[underlying22];rfl,l4⟩,
  ⟨by rw[underlying80];rfl,l4⟩,
  ⟨by rw[underlying23];rfl,l4⟩,
  ⟨by rw[underlying24];rfl,l4⟩,
  ⟨by rw[underlying99];rfl,l4⟩,
  ⟨by rw[underlying26];rfl,l4⟩,
  ⟨by rw[underlying114];rfl,l4⟩,
  ⟨by rw[underlying97];rfl,l4⟩,
  ⟨by rw[underlying201];rfl,l4⟩,
  ⟨by rw[underlying214];rfl,l4⟩,
  ⟨by rw[underlying329];rfl,l4⟩,
  ⟨by rw[underlying45];rfl,l4⟩,
  ⟨by rw[underlying198];rfl,l4⟩,
  ⟨by rw[underlying111];rfl,l4⟩,
  ⟨by rw[underlying109];rfl,l4⟩,
  ⟨by rw[underlying290];rfl,l4⟩,
  ⟨by rw[underlying224];rfl,l4⟩,
  ⟨by rw[underlying199];rfl,l4⟩,
  ⟨by rw[underlying274];rfl,l4⟩,
  ⟨by rw[underlying126];rfl,l4⟩,
  ⟨by rw[underlying105];rfl,l4⟩,
  ⟨by rw[underlying102];rfl,l4⟩,
  ⟨by rw[underlying330];rfl,l4⟩,
  ⟨by rw[underlying284];rfl,l4⟩,
  ⟨by rw[underlying103];rfl,l4⟩,
  ⟨by rw[underlying101];rfl,l4⟩,e8⟩
theorem yM: ∃i:TypeInfo,prog.info? 214=some i/\i.zero=some (.agg #[.slice none 0 0,.slice none 0 0,j5 0])/\i.size=3/\i.bytes=56:=by
 have h:(prog.info? 214).map (λi=>(i.zero,i.size,i.bytes))=some (some (.agg #[.slice none 0 0,.slice none 0 0,.int .i64 0]),3,56):=l4
 cases a:prog.info? 214 with
 |none=>simp[a]at h
 |some i=>simp[a]at h;exact⟨i,rfl,h.1,h.2.1,h.2.2⟩
theorem bQj{β:dE}{n:Nat}{Γ:Env}{H:List bC}{F:List bE}{Q:Exit->Act->World->Prop}{ops:Array Oper}{rest:List Oper}{o:Oper}{d:Nat}{x:Operand}{m:SpotV}(hw:want ops Γ o=some true)(ho:o.op= .buildSlice 330 1 #[(0,x)])(hd:o.dst=some d)(hn:C0 d n=true)
  (hx:Γ.ev x=some (.agg #[j0 m.at_,j0 m.size,j5 m.since])) (k: ∀b,At β n ((d,.slice (some ⟨b,0,none⟩) 1 1)::Γ) (.obj b (.cells (dS.all [m]).toArray 214)::H) F (wpList prog ops Q rest)):At β n Γ H F (wpList prog ops Q (o::rest)):=by
 obtain⟨i,c,hz,a,_⟩:=yM;refine pR hw ho hd hn hx underlying330 c hz k9 k9 ?_ k;rw[a]
 kernel_rfl
theorem at_none_row{β:dE}{n:Nat}{Γ:Env}{H:List bC}{F:List bE}{Q:Exit->Act->World->Prop}{ops:Array Oper}{rest:List Oper}{o:Oper}{d:Nat}(hw:want ops Γ o=some true)(ho:o.op= .buildSlice 330 0 #[])(hd:o.dst=some d)(hn:C0 d n=true)
  (k: ∀b,At β n ((d,.slice (some ⟨b,0,none⟩) 0 0)::Γ) (dS.row (.slice (some ⟨b,0,none⟩) 0 0) 214 []::H) F (wpList prog ops Q rest)):At β n Γ H F (wpList prog ops Q (o::rest)):=by
 obtain⟨i,a,_⟩:=yM;exact bHs dS hw ho hd hn underlying330 a k
theorem at_app_row{β:dE}{n:Nat}{Γ:Env}{H:List bC}{F:List bE}{Q:Exit->Act->World->Prop}{ops:Array Oper}{rest:List Oper}{o:Oper}{d:Nat}{x y:Operand}{c q:Nat}{v:Value}{A:Option Addr}{xs ys:List SpotV}{H':List bC}(hH:bU H (dS.row v 214 xs) H')(hr:dO β H F dS A ys)(hg:o.guard=none)
  (ho:o.op= .call {callee:= .builtin .append,args:= #[x,y],argTypes:= #[330,330]}) (hd:o.dst=some d) (hn:C0 d n=true)
  (hx:Γ.ev x=some v) (hy:Γ.ev y=some (.slice A q c)) (hq:q=ys.length) (hl:xs.length+ys.length<=2513169434916)
  (k: ∀A' cap',At β n ((d,.slice A' (xs++ys).length cap')::Γ) (dS.row (.slice A' (xs++ys).length cap') 214 (xs++ys)::H') F (wpList prog ops Q rest)):At β n Γ H F (wpList prog ops Q (o::rest)):=by
 obtain⟨i,b,hz,a,hb⟩:=yM;exact jW hH hr hg ho hd hn underlying330 b hz a hb rfl hx hy hq k9 l5 k
end
section
open Go.RowKit Go.Proofs.Tryz
structure RowV where
 b:Nat
 A:Option Addr
 c:Nat
 full:Bool
 l:List SpotV
def sz (x:SpotV):List Mono:=x.size.list
def SpotV.c(x:SpotV):SpC:=⟨x.at_.list,x.size.list⟩
def iF (rows:List RowV):List SpotV:=rows.flatMap (·.l)
def bGg (rows:List RowV):Prop:= ∀(i j:Nat) (r q:RowV),rows[i]?=some r->rows[j]?=some q->i≠j-> ∀x∈r.l,∀y∈q.l,sz x≠sz y
def RowOk (r:RowV):Prop:=(r.full=true->r.c=r.l.length)/\r.l.length<=r.c/\rM SpotV.since r.l/\(∀x∈r.l,∀y∈r.l,sz x=sz y)/\ ∀x∈r.l,sz x≠[]
def Rising(fs:List SpotV):Prop:=fs.Pairwise λa b=>a.since<b.since
theorem bFt{rows:List RowV}{x:SpotV}:x∈iF rows↔ ∃(k:Nat) (r:RowV),rows[k]?=some r/\x∈r.l:=by
 unfold iF;rw[List.mem_flatMap];constructor
 .rintro⟨r,hr,hx⟩;obtain⟨k,a⟩:=aQ hr;exact⟨k,r,a,hx⟩
 .rintro⟨k,r,a,hx⟩;exact⟨r,Z8 a,hx⟩
theorem bNn{α:Type}{l:List α}{k:Nat}{x:α}(h:l[k]?=some x):l=l.take k++x::l.drop (k+1):=by
 obtain⟨hlt,e⟩:=D9.1 h;rw[<-e,List.getElem_cons_drop hlt,W9]
theorem pl_set{α:Type}{l:List α}{k:Nat}{x y:α}(h:l[k]?=some x):l.set k y=l.take k++y::l.drop (k+1):=by
 have hlt:=(D9.1 h).1;rw[List.set_eq_take_append_cons_drop,if_pos hlt]
theorem pl_erase{α:Type}{l:List α}{k:Nat}{x:α}(_h:l[k]?=some x):l.eraseIdx k=l.take k++l.drop (k+1):=List.eraseIdx_eq_take_drop_succ ..
theorem bGv{rows:List RowV}{k:Nat}{r:RowV}(h:rows[k]?=some r):(iF rows).Perm (r.l++(iF (rows.take k)++iF (rows.drop (k+1)))):=by
 have e:iF rows=iF (rows.take k)++(r.l++iF (rows.drop (k+1))):=by
  conv=>lhs;rw[bNn h]
  simp[iF,aR,aS]
 rw[e];exact aT _ _ _
theorem plf_set{rows:List RowV}{k:Nat}{r q:RowV}(h:rows[k]?=some r):(iF (rows.set k q)).Perm (q.l++(iF (rows.take k)++iF (rows.drop (k+1)))):=by
 have e:iF (rows.set k q)=iF (rows.take k)++(q.l++iF (rows.drop (k+1))):=by
  rw[pl_set h];simp[iF,aR,aS]
 rw[e];exact aT _ _ _
theorem pl_eperm{α:Type}{l:List α}{k:Nat}{x:α}(h:l[k]?=some x):l.Perm (x::l.eraseIdx k):=by
 rw[pl_erase h]
 conv=>lhs;rw[bNn h]
 exact List.perm_middle
theorem pl_take{fs:List SpotV}{rows:List RowV}{k:Nat}{r q:RowV}{x:SpotV}{n:List Mono}(hp:(iF rows).Perm fs)(hasc:Rising fs)(hk:rows[k]?=some r)(ha:bGg rows)(hs: ∀y∈r.l,sz y=n)
  (hx:x∈r.l) (hmin: ∀y∈r.l,x.since<=y.since) (hl:r.l.Perm (x::q.l)): ∃i,fs[i]?=some x/\fs.findIdx? (λy=>decide (sz y=n))=some i/\(iF (rows.set k q)).Perm (fs.eraseIdx i):=by
 have d:x∈fs:=hp.mem_iff.1 (bFt.2 ⟨k,r,hk,hx⟩);obtain⟨i,f⟩:=aQ d;obtain⟨hlt,o⟩:=D9.1 f;refine⟨i,f,?_,?_⟩
 .rw[List.findIdx?_eq_some_iff_getElem];refine⟨hlt,by rw[o];simp[hs x hx],λj t=>?_⟩;have c:j<fs.length:=k9
  have m:fs[j].since<x.since:=by
   have:=(List.pairwise_iff_getElem.1 hasc) j i c hlt t
   rwa[o]at this
  have s:fs[j]∈iF rows:=hp.mem_iff.2 (List.getElem_mem c);obtain⟨h,p,a,b⟩:=bFt.1 s
  by_cases e:k=h
  .subst e;rw[hk]at a;cases a;have:=hmin _ b;omega
  .have h1:=ha k h r p hk a e x hx _ b;simp only[decide_eq_true_eq];intro g;exact h1 (by rw[hs x hx,g])
 .have h1:=(bGv hk).symm.trans hp
  have g:=(h1.trans (pl_eperm f))
  have u:(x::(q.l++(iF (rows.take k)++iF (rows.drop (k+1))))).Perm (x::fs.eraseIdx i):=((hl.append_right _).symm.trans g)
  exact(plf_set hk).trans (List.Perm.cons_inv u)
theorem pl_none{fs:List SpotV}{rows:List RowV}{n:List Mono}(hp:(iF rows).Perm fs)(h: ∀(k:Nat) (r:RowV),rows[k]?=some r-> ∀x∈r.l,sz x≠n):fs.findIdx? (λy=>decide (sz y=n))=none:=by
 rw[List.findIdx?_eq_none_iff];intro x hx;obtain⟨k,r,b,a⟩:=bFt.1 (hp.mem_iff.2 hx);simp[h k r b x a]
theorem pl_give{fs:List SpotV}{rows:List RowV}{k:Nat}{r q:RowV}{x:SpotV}(hp:(iF rows).Perm fs)(hk:rows[k]?=some r)(hq:q.l=r.l++[x]):(iF (rows.set k q)).Perm (fs++[x]):=by
 refine(plf_set hk).trans ?_;rw[hq,aU];have h1:=(bGv hk).symm.trans hp;have a:(r.l++([x]++(iF (rows.take k)++iF (rows.drop (k+1))))).Perm ([x]++(r.l++(iF (rows.take k)++iF (rows.drop (k+1))))):=aT _ _ _;exact a.trans ((h1.append_left [x]).trans aV)
theorem pl_apset{rows:List RowV}{k:Nat}{r q:RowV}(ha:bGg rows)(hk:rows[k]?=some r)(h: ∀x∈q.l,∀(j:Nat) (p:RowV),rows[j]?=some p->j≠k-> ∀y∈p.l,sz x≠sz y):bGg (rows.set k q):=by
 have o:=(D9.1 hk).1;intro i j a b d c g x hx y f;rw[U6]at d c;split at d<;>split at c
 .omega
 .rename_i n m;simp at d;subst d;exact h x hx j b c (λe=>m e.symm) y f
 .rename_i n m;simp at c;subst c;exact λe=>h y f i a d (λe=>n e.symm) x hx e.symm
 .exact ha i j a b d c g x hx y f
theorem pl_apnew{rows:List RowV}{q:RowV}(ha:bGg rows)(h:q.l=[]):bGg (rows++[q]):=by
 have key: ∀(i:Nat) (a:RowV) (x:SpotV),(rows++[q])[i]?=some a->x∈a.l->rows[i]?=some a:=λi a x c hx=>by
  rw[aW]at c;split at c
  .exact c
  .cases hn:i-rows.length with
   |zero=>
    rw[hn]at c;simp at c;subst c;rw[h]at hx;cases hx
   |succ m=>
    rw[hn]at c;simp at c
 exact λi j a b c f d x hx y e=>ha i j a b (key i a x c hx) (key j b y f e) d x hx y e
theorem plf_new{rows:List RowV}{q:RowV}(h:q.l=[]):iF (rows++[q])=iF rows:=by simp[iF,aR,h]
structure PSt where
 end_:PolV
 fA:Option Addr
 fc:Nat
 rows:List RowV
 since:Int
 kv:List (Int×SpotV)
def rT (k:Int):List (Int×SpotV)->Option SpotV
 |[]=>none
 |p::r=>if k==p.1 then some p.2 else rT k r
def setS (k:Int)(v:SpotV):List (Int×SpotV)->List (Int×SpotV)
 |[]=>[(k,v)]
 |p::r=>if k==p.1 then (k,v)::r else p::setS k v r
def delS (k:Int):List (Int×SpotV)->List (Int×SpotV)
 |[]=>[]
 |p::r=>if k==p.1 then r else p::delS k r
def spV (x:SpotV):Value:= .agg (dS.cells x).toArray
def kvV (kv:List (Int×SpotV)):KV:=kv.map λp=>(p.1,spV p.2)
theorem getS_V(k:Int): ∀kv,bOl k (kvV kv)=(rT k kv).map spV
 |[]=>rfl
 |p::r=>by
  show(if k==p.1 then some (spV p.2)else bOl k (kvV r))=_;unfold rT;split
  .rfl
  .exact getS_V k r
theorem setS_V(k:Int)(v:SpotV): ∀kv,bCk k (spV v) (kvV kv)=kvV (setS k v kv)
 |[]=>rfl
 |p::r=>by
  show(if k==p.1 then (k,spV v)::kvV r else (p.1,spV p.2)::bCk k (spV v) (kvV r))=_;unfold setS;split
  .rfl
  .rw[setS_V k v r];rfl
theorem getS_set(k j:Int)(v:SpotV): ∀kv,rT j (setS k v kv)=if j=k then some v else rT j kv
 |[]=>by simp[setS,rT]
 |p::r=>by
  unfold setS
  by_cases h:k=p.1
  .subst h;simp only[beq_self_eq_true,if_true,rT]
   by_cases a:j=p.1
   .simp[a]
   .simp[a]
  .simp only[beq_iff_eq,h,if_false,rT,getS_set k j v r]
   by_cases a:j=p.1
   .subst a;simp[Ne.symm h]
   .simp[a]
theorem bUf(k:Int)(v:SpotV): ∀kv,∀j,j∈(setS k v kv).map (·.1)->j=k\/j∈kv.map (·.1)
 |[],j,h=>by simp[setS]at h;exact .inl h
 |p::r,j,h=>by
  unfold setS at h;split at h
  .rename_i e;simp at e;simp at h⊢
   rcases h with h|h
   .exact .inl h
   .exact .inr (.inr h)
  .simp only[I5,C9]at h⊢
   rcases h with h|h
   .exact .inr (.inl h)
   .rcases bUf k v r j h with h|h
    .exact .inl h
    .exact .inr (.inr h)
theorem bQw(k:Int)(v:SpotV): ∀kv,(kv.map (·.1)).Nodup->((setS k v kv).map (·.1)).Nodup
 |[],_=>by simp[setS]
 |p::r,h=>by
  simp only[I5,aX]at h;unfold setS;split
  .rename_i e;simp at e;simp only[I5,aX];rw[e];exact h
  .rename_i e;simp only[I5,aX];refine⟨λa=>?_,bQw k v r h.2⟩
   rcases bUf k v r _ a with h1|h1
   .exact e (by simp[h1])
   .exact h.1 h1
theorem setS_mem(k:Int)(v:SpotV): ∀kv,∀p∈setS k v kv,p.2=v\/p∈kv
 |[],p,h=>by simp[setS]at h;exact .inl (by rw[h])
 |q::r,p,h=>by
  unfold setS at h;split at h
  .rcases C9.1 h with rfl|h
   .exact .inl rfl
   .exact .inr (D1 _ h)
  .rcases C9.1 h with rfl|h
   .exact .inr (D5 ..)
   .rcases setS_mem k v r p h with h|h
    .exact .inl h
    .exact .inr (D1 _ h)
theorem bNy(k:Int): ∀kv,(delS k kv).Sublist kv
 |[]=> .slnil
 |p::r=>by
  unfold delS;split
  .exact List.sublist_cons_self ..
  .exact(bNy k r).cons_cons _
theorem delS_nodup(k:Int)(kv)(h:(kv.map (·.1)).Nodup):((delS k kv).map (·.1)).Nodup:=h.sublist ((bNy k kv).map _)
theorem bVu(k:Int): ∀kv,k∉kv.map (·.1)->rT k kv=none
 |[],_=>rfl
 |p::r,h=>by
  simp only[I5,C9,not_or]at h;unfold rT;rw[if_neg (by simp[h.1]),bVu k r h.2]
theorem getS_del(k j:Int): ∀kv,(kv.map (·.1)).Nodup->rT j (delS k kv)=if j=k then none else rT j kv
 |[],_=>by simp[delS,rT]
 |p::r,h=>by
  simp only[I5,aX]at h;unfold delS
  by_cases e:k=p.1
  .subst e;simp only[beq_self_eq_true,if_true]
   by_cases a:j=p.1
   .subst a;rw[if_pos rfl,bVu _ r h.1]
   .rw[if_neg a];simp[rT,a]
  .simp only[beq_iff_eq,e,if_false,rT,getS_del k j r h.2]
   by_cases a:j=p.1
   .subst a;simp[Ne.symm e]
   .simp[a]
theorem getS_mem{k:Int}{x:SpotV}: ∀{kv},rT k kv=some x-> ∃p∈kv,p.2=x
 |[],h=>by cases h
 |p::r,h=>by
  unfold rT at h;split at h
  .cases h;exact⟨p,D5 ..,rfl⟩
  .obtain⟨q,hq,e⟩:=getS_mem h;exact⟨q,D1 _ hq,e⟩
theorem pl_mape{α β:Type}(f:α->β): ∀(l:List α) (i:Nat),(l.eraseIdx i).map f=(l.map f).eraseIdx i
 |[],_=>rfl
 |_::_,0=>rfl
 |x::l,i+1=>by simp[pl_mape f l i]
structure gJ (st:PSt) (pool:List SpotV) (s:PlC) (fs:List SpotV) (M:Nat):Prop where
 end_:st.end_.list=s.end_
 free:fs.map SpotV.c=s.free
 flat:(iF st.rows).Perm fs
 rise:Rising fs
 top: ∀x∈fs,x.since<=st.since
 apart:bGg st.rows
 ok: ∀(k:Nat) (r:RowV),st.rows[k]?=some r->RowOk r
 keys:(st.kv.map (·.1)).Nodup
 laid: ∀b:Nat,(rT b st.kv).map SpotV.c=(s.laid[b]?).bind id
 poolR: ∀x∈fs,x∈pool
 poolL: ∀p∈st.kv,p.2∈pool
 low:0<=st.since
 high:st.since<=M
 many:st.rows.length<=M
 len:fs.length<=M
structure Picked (n:List Mono) (st:PSt) (k:Nat) (r:RowV):Prop where
 at_:st.rows[k]?=some r
 all: ∀x∈r.l,sz x=n
 rest: ∀(j:Nat) (q:RowV),st.rows[j]?=some q->j≠k-> ∀y∈q.l,sz y≠n
section
variable {st : PSt} {pool fs : List SpotV} {s : PlC} {M k : Nat} {r q : RowV} {n : List Mono} {x y : SpotV}
theorem gJ.more(h:gJ st pool s fs M){M':Nat}(hm:M<=M'):gJ st pool s fs M':=⟨h.end_,h.free,h.flat,h.rise,h.top,h.apart,h.ok,h.keys,h.laid,h.poolR,h.poolL,h.low,by have:=h.high;omega,Nat.le_trans h.many hm,Nat.le_trans h.len hm⟩
theorem gJ.wide(h:gJ st pool s fs M)(x:SpotV):gJ st (x::pool) s fs M:=⟨h.end_,h.free,h.flat,h.rise,h.top,h.apart,h.ok,h.keys,h.laid,λy a=>D1 _ (h.poolR y a),λp b=>D1 _ (h.poolL p b),h.low,h.high,h.many,h.len⟩
theorem gJ.later(h:gJ st pool s fs M):gJ {st with since:=st.since+1} pool s fs (M+1):=⟨h.end_,h.free,h.flat,h.rise,λx hx=>by have:=h.top x hx;show x.since<=st.since+1;omega,h.apart,h.ok,h.keys,h.laid,h.poolR,h.poolL,by have:=h.low;show 0<=st.since+1;omega,by have:=h.high;show st.since+1<=_;omega,by have:=h.many;show st.rows.length<=_;omega,by have:=h.len;omega⟩
theorem gJ.mem(h:gJ st pool s fs M)(hk:st.rows[k]?=some r)(hx:x∈r.l):x∈fs:=h.flat.mem_iff.1 (bFt.2 ⟨k,r,hk,hx⟩)
theorem gJ.inPool(h:gJ st pool s fs M)(hk:st.rows[k]?=some r)(hx:x∈r.l):x∈pool:=h.poolR x (h.mem hk hx)
theorem gJ.rlen(h:gJ st pool s fs M)(hk:st.rows[k]?=some r):r.l.length<=M:=by
 have h1:=(bGv hk).length_eq;have a:=h.flat.length_eq;have:=h.len;rw[E0]at h1;omega
theorem picked_old(h:gJ st pool s fs M)(hk:st.rows[k]?=some r)(h0:r.l[0]?=some x)(hn:sz x=n):Picked n st k r:=by
 have hx:x∈r.l:=Z8 h0;have a: ∀y∈r.l,sz y=n:=λy b=>((h.ok k r hk).2.2.2.1 y b x hx).trans hn;exact⟨hk,a,λj q d c y b e=>h.apart j k q r d hk c y b x hx (e.trans hn.symm)⟩
theorem picked_new(h:gJ st pool s fs M)(hq:q.l=[])(hno: ∀(j:Nat) (r:RowV) (x:SpotV),st.rows[j]?=some r->r.l[0]?=some x->sz x≠n)(A:Option Addr)(c:Nat)(hf:q.full=false):
  gJ {st with rows:=st.rows++[q],fA:=A,fc:=c} pool s fs (M+1)/\Picked n {st with rows:=st.rows++[q],fA:=A,fc:=c} st.rows.length q:=by
 have g: ∀(j:Nat) (r:RowV),st.rows[j]?=some r-> ∀y∈r.l,sz y≠n:=λj r o y f=>by
  cases hl:r.l with
  |nil=>rw[hl]at f;cases f
  |cons z t=>
   have h1:r.l[0]?=some z:=by rw[hl];rfl
   rw[(h.ok j r o).2.2.2.1 y f z (f4 h1)];exact hno j r z o h1
 have key: ∀(i:Nat) (a:RowV),(st.rows++[q])[i]?=some a->i≠st.rows.length->st.rows[i]?=some a:=λi a d w=>by
  rw[aW]at d;split at d
  .exact d
  .cases hn:i-st.rows.length with
   |zero=>omega
   |succ m=>rw[hn]at d;simp at d
 have hl:(st.rows++[q])[st.rows.length]?=some q:=by simp
 refine⟨⟨h.end_,h.free,by show(iF (st.rows++[q])).Perm fs;rw[plf_new hq];exact h.flat,h.rise,h.top,pl_apnew h.apart hq,λi a d=>?_,h.keys,h.laid,h.poolR,h.poolL,h.low,by have:=h.high;show st.since<=_;omega,by have:=h.many;show(st.rows++[q]).length<=_;rw[E0];simp;omega,by have:=h.len;omega⟩,hl,λy f=>(by rw[hq]at f;cases f),λj p o u y f=>g j p (key j p o u) y f⟩
 by_cases e:i=st.rows.length
 .subst e;have d:(st.rows++[q])[st.rows.length]?=some a:=d;rw[hl]at d;cases d;refine⟨λe=>(by rw[hf]at e;cases e),by rw[hq];exact Nat.zero_le _,?_,λx hx=>(by rw[hq]at hx;cases hx),λx hx=>(by rw[hq]at hx;cases hx)⟩;intro k a b _ v;rw[hq]at v;simp at v
 .exact h.ok i a (key i a d e)
theorem picked_none(h:gJ st pool s fs M)(hp:Picked n st k r)(he:r.l=[]):s.free.findIdx? (λy=>decide (y.size=n))=none:=by
 rw[<-h.free,aY];refine pl_none h.flat λj p a x hx=>?_
 by_cases e:j=k
 .subst e;rw[hp.at_]at a;cases a;rw[he]at hx;cases hx
 .exact hp.rest j p a e x hx
theorem rel_take(h:gJ st pool s fs M)(hp:Picked n st k r)(h0:r.l[0]?=some x)(hq:r.l.Perm (x::q.l))(hh:rM SpotV.since q.l)(hc:q.c=q.l.length):
  ∃i,s.free[i]?=some x.c/\s.free.findIdx? (λy=>decide (y.size=n))=some i/\gJ {st with rows:=st.rows.set k q} pool {s with free:=s.free.eraseIdx i} (fs.eraseIdx i) M:=by
 have hx:x∈r.l:=Z8 h0;have g:=h.ok k r hp.at_
 have m: ∀y∈r.l,x.since<=y.since:=λy f=>by
  obtain⟨j,e⟩:=aQ f;exact heap_min g.2.2.1 h0 j y e
 have d: ∀y∈q.l,y∈r.l:=λy f=>hq.mem_iff.2 (D1 _ f);obtain⟨i,h1,w,v⟩:=pl_take h.flat h.rise hp.at_ h.apart hp.all hx m hq;have u:=(D9.1 hp.at_).1
 refine⟨i,by rw[<-h.free,List.getElem?_map,h1];rfl,by rw[<-h.free,aY];exact w,⟨h.end_,?_,v,h.rise.sublist (aZ ..),λy f=>h.top y ((aZ ..).subset f),pl_apset h.apart hp.at_ λa o j p e t b hb=>h.apart k j r p hp.at_ e (Ne.symm t) a (d a o) b hb,
  λj a e=>?_,h.keys,h.laid,λy f=>h.poolR y ((aZ ..).subset f),h.poolL,h.low,h.high,by show(st.rows.set k q).length<=M;rw[P6];exact h.many,by have:=h.len;have:=(aZ fs i).length_le;omega⟩⟩
 .show(fs.eraseIdx i).map SpotV.c=s.free.eraseIdx i;rw[<-h.free,pl_mape]
 .have e:(st.rows.set k q)[j]?=some a:=e;rw[U6]at e;split at e
  .simp at e;subst e;exact⟨λ_=>hc,k9,hh,λa o b hb=>g.2.2.2.1 a (d a o) b (d b hb),λa o=>g.2.2.2.2 a (d a o)⟩
  .exact h.ok j a e
theorem rel_give(h:gJ st pool s fs M)(hp:Picked (sz x) st k r)(hn:sz x≠[])(hq:q.l=r.l++[x])(hf:q.full=false)(hc:q.l.length<=q.c)(hsi:x.since=st.since)(hst: ∀f∈fs,f.since<x.since)(hxp:x∈pool):
  gJ {st with rows:=st.rows.set k q} pool {s with free:=s.free++[x.c]} (fs++[x]) (M+1):=by
 have n:=h.ok k r hp.at_;have u:=(D9.1 hp.at_).1
 have t: ∀y∈q.l,y∈r.l\/y=x:=λy i=>by
  rw[hq]at i
  rcases D0.1 i with h1|h1
  .exact .inl h1
  .exact .inr (by simpa using h1)
 have d: ∀y∈q.l,sz y=sz x:=λy i=>by
  rcases t y i with h1|h1
  .exact hp.all y h1
  .rw[h1]
 refine⟨h.end_,by rw[List.map_append,h.free];rfl,pl_give h.flat hp.at_ hq,?_,λy i=>?_,pl_apset h.apart hp.at_ λa m j p g o b hb e=>hp.rest j p g o b hb (e.symm.trans (d a m)),λj a g=>?_,h.keys,h.laid,λy i=>?_,h.poolL,h.low,by have:=h.high;show st.since<=_;omega,
  by show(st.rows.set k q).length<=_;rw[P6];have:=h.many;omega,by have:=h.len;rw[E0];simp;omega⟩
 .refine List.pairwise_append.2 ⟨h.rise,List.pairwise_singleton _ _,λa m b hb=>?_⟩;have e:b=x:=by simpa using hb
  subst e;exact hst a m
 .show y.since<=st.since
  rcases D0.1 i with h1|h1
  .exact h.top y h1
  .have e:y=x:=by simpa using h1
   subst e;omega
 .have g:(st.rows.set k q)[j]?=some a:=g;rw[U6]at g;split at g
  .simp at g;subst g;refine⟨λe=>(by rw[hf]at e;cases e),hc,?_,λa m b hb=>(d a m).trans (d b hb).symm,λa m=>by rw[d a m];exact hn⟩;rw[hq];refine heap_push n.2.2.1 λb hb=>?_;have:=hst b (h.mem hp.at_ hb);omega
  .exact h.ok j a g
 .rcases D0.1 i with h1|h1
  .exact h.poolR y h1
  .have e:y=x:=by simpa using h1
   subst e;exact hxp
theorem rel_laid(h:gJ st pool s fs M)(b:Nat)(hb:b<s.laid.length)(hx:x∈pool)(ats:List (List Mono)):gJ {st with kv:=setS b x st.kv} pool {s with laid:=s.laid.set b (some x.c),ats:=ats} fs M:=
 ⟨h.end_,h.free,h.flat,h.rise,h.top,h.apart,h.ok,bQw _ _ _ h.keys,λj=>by
  show(rT j (setS b x st.kv)).map SpotV.c=((s.laid.set b (some x.c))[j]?).bind id;rw[getS_set,U6]
  by_cases e:j=b
  .subst e;simp[hb]
  .rw[if_neg k9,if_neg k9]
   exact h.laid j,h.poolR,λp a=>by
  rcases setS_mem _ _ _ p a with h1|h1
  .rw[h1];exact hx
  .exact h.poolL p h1,h.low,h.high,h.many,h.len⟩
theorem rel_gone(h:gJ st pool s fs M)(b:Nat)(hb:b<s.laid.length):gJ {st with kv:=delS b st.kv} pool {s with laid:=s.laid.set b none} fs M:=
 ⟨h.end_,h.free,h.flat,h.rise,h.top,h.apart,h.ok,delS_nodup _ _ h.keys,λj=>by
  show(rT j (delS b st.kv)).map SpotV.c=((s.laid.set b none)[j]?).bind id;rw[getS_del _ _ _ h.keys,U6]
  by_cases e:j=b
  .subst e;simp[hb]
  .rw[if_neg k9,if_neg k9]
   exact h.laid j,h.poolR,λp a=>h.poolL p ((bNy _ _).subset a),h.low,h.high,h.many,h.len⟩
theorem rel_end(h:gJ st pool s fs M)(e:PolV)(l:List Mono)(he:e.list=l):gJ {st with end_:=e} pool {s with end_:=l} fs M:=
 ⟨he,h.free,h.flat,h.rise,h.top,h.apart,h.ok,h.keys,h.laid,h.poolR,h.poolL,h.low,h.high,h.many,h.len⟩
end
theorem bEo(A:Option Addr)(n c:Nat):bZ prog 165 [.slice A n c] [] [] (λ(_:Unit)=> j5 (n:Nat)) (λ_=>[]) (λ_=>[]):=by
 have hT:=fI;refine i7 func165 ntmps165 ?_;intro β hM;refine g13 ?_;exact rs1 () trivial
theorem Less_spec(A:Option Addr)(c i j:Nat)(l:List SpotV)(x y:SpotV)(hx:l[i]?=some x)(hy:l[j]?=some y):bZ prog 372 [.slice A l.length c,j5 (i:Nat),j5 (j:Nat)] [dS.row (.slice A l.length c) 214 l] [] (λ(_:Unit)=> .bool (decide (x.since<y.since))) (λ(_:Unit)=>[dS.row (.slice A l.length c) 214 l]) (λ_=>[]):=by
 have hT:=fI;refine i7 func372 ntmps372 ?_;intro β hM;refine fS ?_;have b:=(D9.1 hx).1;have a:=(D9.1 hy).1;refine g5 ?_;refine dC _ _ [(true,0),(true,1),(true,2),(true,3),(true,4),(true,5),(true,6),(true,7),(true,8),(true,9),(true,10),(true,11)] dJ l8 (.c0 .nil) bA.self ?_;refine g2 ?_;refine stM rfl (bJ hT (k:=i) (cH .head) rfl rfl rfl rfl rfl m8 rfl k9) ?_;refine one ?_;refine stM rfl (jB hx 2) ?_;refine g2 ?_;refine stM rfl (bJ hT (k:=j) (cH .head) rfl rfl rfl rfl rfl m8 rfl k9) ?_;refine one ?_;refine stM rfl (jB hy 2) ?_;refine g5 ?_;exact rs1 () trivial
theorem Push_spec(A:Option Addr)(b c:Nat)(l:List SpotV)(x:SpotV)(hl:l.length<=100000000):bZ prog 374 [.pointer (some ⟨b,0,none⟩),.iface 214 (.agg #[j0 x.at_,j0 x.size,j5 x.since])] [.obj b (.cells ([.slice A l.length c]:List Value).toArray 330),dS.row (.slice A l.length c) 214 l] [] (λ(_:Option Addr×Nat)=> .tuple #[]) (λ(y:Option Addr×Nat)=>[.obj b (.cells ([.slice y.1 (l++[x]).length y.2]:List Value).toArray 330),dS.row (.slice y.1 (l++[x]).length y.2) 214 (l++[x])]) (λ_=>[]):=by
 have hT:=fI;refine i7 func374 ntmps374 ?_;intro β hM;refine qN 9 _ _ [(true,0),(true,1),(true,2),(true,3),(true,4),(true,5),(false,6),(false,7),(true,8)] dJ l8 (.c0 .nil) bA.self ?_;refine g5 ?_;refine stL rfl (bDg rfl underlying214 (λ_ e=>by cases e) rfl) ?_;refine one ?_;refine bQj (m:=x) rfl rfl rfl rfl rfl λd=>?_;refine g2 ?_;refine at_app_row kT2 (fZ .head rfl) rfl rfl rfl rfl rfl rfl rfl p8 λa c3=>?_;refine g5 ?_;exact cT (a,c3) rfl (.c0 (.c0 .nil)) e8 q7
section
variable {P : Program} {β : dE} {n : Nat} {Γ : Env} {H : List bC} {F : List bE} {Q : Exit -> Act -> World -> Prop} {K : Act -> World -> Prop} {T : Tab} {α : Type} {E : Flat α}
theorem run_cutHM(hT:dU P T){t e sz:Nat}{ei:TI}(ht:T.get t=some ⟨.slice e,sz⟩)(he:T.get e=some ei){A:Option Addr}{l c k:Nat}(hk:k<=c)(kj kk:IntKind)(w:World):(Instr.sliceAt t (.slice A l c) none (some (.int kj (k:Nat))) (some (.int kk (k:Nat)))).run P w= .ok (.slice A k k) w:=by
 obtain⟨d,hu,hd⟩:=hT.any ht;cases d<;>simp[TD.of]at hd
 subst hd;have hel:=elem_of hu;rw[run_sliceAt_slice w t _ _ _ _ w7,run_slice_hm w t A l c w7 kj kk (k:Int) (k:Int) k9 k9 k9,hel,hT.size he];simp only[Result.andThen_ok,sliced,Int.toNat_natCast,Nat.zero_mul,Nat.sub_zero]
 congr 2
 split
 .rfl
 .cases A<;>simp[Addr.add]
theorem sti_cutHM(hT:dU P T){o:Oper}{t e sz k l cap:Nat}{ei:TI}{x i i':Operand}{kj kk:IntKind}{z z':Int}{A:Option Addr}(ho:o.op= .slice t x none (some i) (some i'))(hx:Γ.ev x=some (.slice A l cap))(hi:Γ.ev i=some (.int kj z))(hi':Γ.ev i'=some (.int kk z'))
  (ht:T.get t=some ⟨.slice e,sz⟩) (he:T.get e=some ei) (hz:z=(k:Nat)) (hz':z'=(k:Nat)) (hk:k<=cap):Sti P β n Γ H F o (.slice A k k):=λa w S f s b=>by
 subst hz hz';unfold execOp;simp only[ho,f.ev hx,Option.map_some,Option.map_none,f.ev hi,f.ev hi'];rw[Sem.run_bind,run_cutHM hT ht he hk];rfl
theorem at_held_cut{A:Option Addr}{m c k c':Nat}{xs:List α}{H':List bC}(hH:bU H (E.held (.slice A m c) xs) H')(hk:k<=xs.length)(h:At β n Γ (E.held (.slice A k c') (xs.take k)::H') F K):At β n Γ H F K:=λa w S f s G=>by
 have q:=s.perm hH.perm
 have hb: ∀b,(E.held (.slice A k c') (xs.take k)).blk=some b->(E.held (.slice A m c) xs).blk=some b:=λb hb=>by
  have hb:wW (.slice A k c') (xs.take k)=some b:=hb;show wW (.slice A m c) xs=some b
  cases xs with
  |nil=>rw[List.take_nil]at hb;cases hb
  |cons x xs=>
   cases k with
   |zero=>cases hb
   |succ k=>cases A<;>exact hb
 have z:(E.held (.slice A m c) xs).ok w:=q.ok _ (D5 ..);have p:=D2.1 q.sep
 have r:(E.held (.slice A k c') (xs.take k)).ok w:=by
  refine⟨A,c',by rw[W8,Nat.min_eq_left hk],?_⟩
  rcases aP k with rfl|h0
  .exact .inl (List.take_zero ..)
  .obtain⟨g,l,L,J,t,I,e,D,C,y⟩:=sD z (k:=0) k9;injection e with e1 _ _
   subst e1
   have v:(E.held (.slice (some ⟨g,l,none⟩) k c') (xs.take k)).blk=some g:=by
    show wW _ (xs.take k)=some g
    cases xs with
    |nil=>simp at hk;omega
    |cons x xs=>
     cases k with
     |zero=>omega
     |succ k=>rfl
   refine .inr ⟨g,l,J,t,I,rfl,?_,λj u B=>y j u ?_⟩
   .show((wW (.slice (some ⟨g,l,none⟩) k c') (xs.take k)).bind λi=>w.heap[i]?)=_;rw[show wW (.slice (some ⟨g,l,none⟩) k c') (xs.take k)=some g from v];exact C
   .have e:E.all xs=E.all (xs.take k)++E.all (xs.drop k):=by rw[<-E.all_append,W9]
    rw[e,aL (D9.1 B).1];exact B
 exact h a w S f ⟨q.kept,λd hd=>by
  rcases C9.1 hd with rfl|hd
  .exact r
  .exact q.ok d (D1 _ hd),λd hd b o=>by
  rcases C9.1 hd with rfl|hd
  .exact q.own _ (D5 ..) b (hb b o)
  .exact q.own d (D1 _ hd) b o,D2.2 ⟨λd hd b o=>p.1 d hd b (hb b o),p.2⟩,q.zone⟩ G
end
theorem wH:(prog.info? 214).bind (·.zero)=some (.agg #[.slice none 0 0,.slice none 0 0,j5 0]):=l4
theorem LessH_spec(A:Option Addr)(c i j:Nat)(l:List SpotV)(x y:SpotV)(hx:l[i]?=some x)(hy:l[j]?=some y):bZ prog 372 [.slice A l.length c,j5 (i:Nat),j5 (j:Nat)] [dS.held (.slice A l.length c) l] [] (λ(_:Unit)=> .bool (decide (x.since<y.since))) (λ(_:Unit)=>[dS.held (.slice A l.length c) l]) (λ_=>[]):=by
 have hT:=fI;refine i7 func372 ntmps372 ?_;intro β hM;refine fS ?_;have b:=(D9.1 hx).1;have a:=(D9.1 hy).1;refine g5 ?_;refine dC _ _ [(true,0),(true,1),(true,2),(true,3),(true,4),(true,5),(true,6),(true,7),(true,8),(true,9),(true,10),(true,11)] dJ l8 (.c0 .nil) bA.self ?_;refine g2 ?_;refine stM rfl (bJ hT (k:=i) (dF .head) rfl rfl rfl rfl rfl m8 rfl k9) ?_;refine one ?_;refine stM rfl (jB hx 2) ?_;refine g2 ?_;refine stM rfl (bJ hT (k:=j) (dF .head) rfl rfl rfl rfl rfl m8 rfl k9) ?_;refine one ?_;refine stM rfl (jB hy 2) ?_;refine g5 ?_;exact rs1 () trivial
theorem SwapH_spec(A:Option Addr)(c i j:Nat)(l:List SpotV)(x y:SpotV)(hx:l[i]?=some x)(hy:l[j]?=some y):bZ prog 375 [.slice A l.length c,j5 (i:Nat),j5 (j:Nat)] [dS.held (.slice A l.length c) l] [] (λ(_:Unit)=> .tuple #[]) (λ(_:Unit)=>[dS.held (.slice A l.length c) ((l.set i y).set j x)]) (λ_=>[]):=by
 have hT:=fI;refine i7 func375 ntmps375 ?_;intro β hM;have t:=(D9.1 hx).1;have s:=(D9.1 hy).1;refine at_mixT _ _ (.fl 0 (.fl 1 (.fl 2 (.fl 3 (.fl 4 (.fl 5 (.fl 8 (.fl 9 (.two 6 10 (.two 7 10 (.op 10 (.op 11 (.op 12 (.op 13 (.op 14 (.op 15 .nil)))))) (.two 7 11 (.op 11 (.op 12 (.op 13 (.op 14 (.op 15 .nil))))) (.op 7 (.op 12 (.op 13 (.op 14 (.op 15 .nil))))))) (.two 6 11 (.two 7 11 (.op 11 (.op 12 (.op 13 (.op 14 (.op 15 .nil))))) (.op 7 (.op 12 (.op 13 (.op 14 (.op 15 .nil)))))) (.op 6 (.op 7 (.op 12 (.op 13 (.op 14 (.op 15 .nil)))))))))))))))) dJ l8 .nil bA.self ?_;refine g8 ?_;refine wC (o:=_) (o':=_) rfl rfl ?_ ?_
 .refine ss (bJ hT (k:=j) (dF .head) rfl rfl rfl rfl rfl m8 rfl k9) ?_;refine one ?_;refine wC (o:=_) (o':=_) rfl rfl ?_ ?_
  .refine ss (kV hy 0) ?_;refine g2 ?_;refine ss (bJ hT (k:=i) (dF .head) rfl rfl rfl rfl rfl m8 rfl k9) ?_;refine g2 ?_;refine ss (kV hx 0) ?_;refine g2 ?_;refine ss (bJ hT (k:=i) (dF .head) rfl rfl rfl rfl rfl m8 rfl k9) ?_;refine g2 ?_;refine dV hT (k:=i) (fo:=0) (y':=y) .head rfl rfl rfl rfl rfl rfl rfl rfl rfl hx rfl ?_;refine g2 ?_;obtain⟨r,g⟩:=gx (l.set i y) j (n7);refine ss (bJ hT (k:=j) (dF .head) rfl rfl rfl rfl rfl m8 rfl (n7)) ?_;refine g2 ?_;refine dV hT (k:=j) (fo:=0) (y':=x) .head rfl rfl rfl rfl rfl rfl rfl rfl rfl g rfl ?_;refine g2 ?_;exact cT () rfl (.c0 .nil) e8 q7
  refine ss (bJ hT (k:=i) (dF .head) rfl rfl rfl rfl rfl m8 rfl k9) ?_;refine one ?_;refine wC (o:=_) (o':=_) rfl rfl ?_ ?_
  .refine ss (kV hy 0) ?_;refine g2 ?_;refine ss (kV hx 0) ?_;refine g2 ?_;refine ss (bJ hT (k:=i) (dF .head) rfl rfl rfl rfl rfl m8 rfl k9) ?_;refine g2 ?_;refine dV hT (k:=i) (fo:=0) (y':=y) .head rfl rfl rfl rfl rfl rfl rfl rfl rfl hx rfl ?_;refine g2 ?_;obtain⟨q,f⟩:=gx (l.set i y) j (n7);refine ss (bJ hT (k:=j) (dF .head) rfl rfl rfl rfl rfl m8 rfl (n7)) ?_;refine g2 ?_;refine dV hT (k:=j) (fo:=0) (y':=x) .head rfl rfl rfl rfl rfl rfl rfl rfl rfl f rfl ?_;refine g2 ?_;exact cT () rfl (.c0 .nil) e8 q7
  refine ss (kV hx 0) ?_;refine g2 ?_;refine ss (kV hy 0) ?_;refine g2 ?_;refine ss (bJ hT (k:=i) (dF .head) rfl rfl rfl rfl rfl m8 rfl k9) ?_;refine g2 ?_;refine dV hT (k:=i) (fo:=0) (y':=y) .head rfl rfl rfl rfl rfl rfl rfl rfl rfl hx rfl ?_;refine g2 ?_;obtain⟨p,e⟩:=gx (l.set i y) j (n7);refine ss (bJ hT (k:=j) (dF .head) rfl rfl rfl rfl rfl m8 rfl (n7)) ?_;refine g2 ?_;refine dV hT (k:=j) (fo:=0) (y':=x) .head rfl rfl rfl rfl rfl rfl rfl rfl rfl e rfl ?_;refine g2 ?_;exact cT () rfl (.c0 .nil) e8 q7
 refine ss (bJ hT (k:=i) (dF .head) rfl rfl rfl rfl rfl m8 rfl k9) ?_;refine one ?_;refine wC (o:=_) (o':=_) rfl rfl ?_ ?_
 .refine ss (bJ hT (k:=j) (dF .head) rfl rfl rfl rfl rfl m8 rfl k9) ?_;refine one ?_;refine wC (o:=_) (o':=_) rfl rfl ?_ ?_
  .refine ss (kV hy 0) ?_;refine g2 ?_;refine ss (kV hx 0) ?_;refine g2 ?_;refine ss (bJ hT (k:=i) (dF .head) rfl rfl rfl rfl rfl m8 rfl k9) ?_;refine g2 ?_;refine dV hT (k:=i) (fo:=0) (y':=y) .head rfl rfl rfl rfl rfl rfl rfl rfl rfl hx rfl ?_;refine g2 ?_;obtain⟨n,d⟩:=gx (l.set i y) j (n7);refine ss (bJ hT (k:=j) (dF .head) rfl rfl rfl rfl rfl m8 rfl (n7)) ?_;refine g2 ?_;refine dV hT (k:=j) (fo:=0) (y':=x) .head rfl rfl rfl rfl rfl rfl rfl rfl rfl d rfl ?_;refine g2 ?_;exact cT () rfl (.c0 .nil) e8 q7
  refine ss (kV hx 0) ?_;refine g2 ?_;refine ss (kV hy 0) ?_;refine g2 ?_;refine ss (bJ hT (k:=i) (dF .head) rfl rfl rfl rfl rfl m8 rfl k9) ?_;refine g2 ?_;refine dV hT (k:=i) (fo:=0) (y':=y) .head rfl rfl rfl rfl rfl rfl rfl rfl rfl hx rfl ?_;refine g2 ?_;obtain⟨m,b⟩:=gx (l.set i y) j (n7);refine ss (bJ hT (k:=j) (dF .head) rfl rfl rfl rfl rfl m8 rfl (n7)) ?_;refine g2 ?_;refine dV hT (k:=j) (fo:=0) (y':=x) .head rfl rfl rfl rfl rfl rfl rfl rfl rfl b rfl ?_;refine g2 ?_;exact cT () rfl (.c0 .nil) e8 q7
 refine ss (kV hx 0) ?_;refine g2 ?_;refine ss (bJ hT (k:=j) (dF .head) rfl rfl rfl rfl rfl m8 rfl k9) ?_;refine g2 ?_;refine ss (kV hy 0) ?_;refine g2 ?_;refine ss (bJ hT (k:=i) (dF .head) rfl rfl rfl rfl rfl m8 rfl k9) ?_;refine g2 ?_;refine dV hT (k:=i) (fo:=0) (y':=y) .head rfl rfl rfl rfl rfl rfl rfl rfl rfl hx rfl ?_;refine g2 ?_;obtain⟨h,a⟩:=gx (l.set i y) j (n7);refine ss (bJ hT (k:=j) (dF .head) rfl rfl rfl rfl rfl m8 rfl (n7)) ?_;refine g2 ?_;refine dV hT (k:=j) (fo:=0) (y':=x) .head rfl rfl rfl rfl rfl rfl rfl rfl rfl a rfl ?_;refine g2 ?_;exact cT () rfl (.c0 .nil) e8 q7
theorem PopH_spec(A:Option Addr)(b c m:Nat)(l:List SpotV)(x:SpotV)(hlm:l.length=m+1)(hc:m+1<=c)(hx:l[m]?=some x)(hl:m<=100000000):bZ prog 373 [.pointer (some ⟨b,0,none⟩)] [.obj b (.cells ([.slice A (m+1) c]:List Value).toArray 330),dS.held (.slice A (m+1) c) l] [] (λ(_:Unit)=> .iface 214 (.agg #[j0 x.at_,j0 x.size,j5 x.since])) (λ(_:Unit)=>[.obj b (.cells ([.slice A m m]:List Value).toArray 330),dS.held (.slice A m m) (l.take m)]) (λ_=>[]):=by
 have hT:=fI;refine i7 func373 ntmps373 ?_;intro β hM;refine g12 ?_;refine bF (z':=((m:Nat):Int)) t7 ?_;refine g9 ?_;refine ss (bJ hT (k:=m) (dF kT1) rfl rfl rfl rfl rfl hlm.symm k9 (k9)) ?_;refine ss (kV hx 0) ?_;refine f9 wH λa=>?_;refine g11 ?_;refine ss (sti_cutHM hT (k:=m) rfl rfl rfl rfl rfl rfl rfl rfl k9) ?_;refine g7 ?_;refine ss (zL rfl underlying214 (λ_ e=>by cases e) rfl) ?_;refine g4 ?_;refine at_held_cut (k:=m) (c':=m) kT2 k9 ?_;exact rs1 () trivial
theorem load_rowbox{w:World}{b n c:Nat}{A:Option Addr}(h:w.cell? ⟨b,0,none⟩=some (.slice A n c)):(loadVar 330 ⟨b,0,none⟩).run prog w= .ok (.slice A n c) w:=by
 have a: ∀w,(isAgg 330).run prog w= .ok false w:=fI.agg (t:=330) (i:=⟨.slice 214,1⟩) rfl;simp only[loadVar,Sem.run_bind,Result.andThen_ok,a,Bool.false_eq_true,if_false,run_load,h]
theorem lH{name:String}{f:FuncId}{w:World}{b n c:Nat}{A:Option Addr}(hm: ∀w b,(method (prog.types.size+Made.depth) 284 (.pointer (some ⟨b,0,none⟩)) name).run prog w=(do let r<-loadVar 330 ⟨b,0,none⟩;pure (f,r):Sem (FuncId×Value)).run prog w)(h:w.cell? ⟨b,0,none⟩=some (.slice A n c)):
  (method (prog.types.size+Made.depth) 284 (.pointer (some ⟨b,0,none⟩)) name).run prog w= .ok (f,.slice A n c) w:=by
 rw[hm,Sem.run_bind,load_rowbox h];rfl
theorem bOd(w:World)(b:Nat):(method (prog.types.size+Made.depth) 284 (.pointer (some ⟨b,0,none⟩)) "Len").run prog w=(do let r<-loadVar 330 ⟨b,0,none⟩;pure (165,r):Sem (FuncId×Value)).run prog w:=l4
theorem vQ(w:World)(b:Nat):(method (prog.types.size+Made.depth) 284 (.pointer (some ⟨b,0,none⟩)) "Less").run prog w=(do let r<-loadVar 330 ⟨b,0,none⟩;pure (372,r):Sem (FuncId×Value)).run prog w:=l4
theorem bAy(w:World)(b:Nat):(method (prog.types.size+Made.depth) 284 (.pointer (some ⟨b,0,none⟩)) "Swap").run prog w=(do let r<-loadVar 330 ⟨b,0,none⟩;pure (375,r):Sem (FuncId×Value)).run prog w:=l4
theorem bVk(w:World)(b:Nat):(method (prog.types.size+Made.depth) 284 (.pointer (some ⟨b,0,none⟩)) "Push").run prog w= .ok (374,.pointer (some ⟨b,0,none⟩)) w:=l4
theorem meth_pop(w:World)(b:Nat):(method (prog.types.size+Made.depth) 284 (.pointer (some ⟨b,0,none⟩)) "Pop").run prog w= .ok (373,.pointer (some ⟨b,0,none⟩)) w:=l4
def rowBox(r:RowV):bC:= .obj r.b (.cells ([.slice r.A r.l.length r.c]:List Value).toArray 330)
def rowArr(r:RowV):bC:=if r.full then dS.held (.slice r.A r.l.length r.c) r.l else dS.row (.slice r.A r.l.length r.c) 214 r.l
def famR (rows:List RowV):List bC:=rows.flatMap λr=>[rowBox r,rowArr r]
def rowG (r:RowV):bE:=(bE.cells r.b 0 [.slice r.A r.l.length r.c]).and (dS.sl (.slice r.A r.l.length r.c) r.l)
theorem bVl(r:RowV)(rows:List RowV):famR (r::rows)=rowBox r::rowArr r::famR rows:=rfl
theorem rF(a b:List RowV):famR (a++b)=famR a++famR b:=aR
theorem fam_out{rows:List RowV}{k:Nat}{r:RowV}(h:rows[k]?=some r)(H:List bC):(H++famR rows).Perm (rowBox r::rowArr r::(H++famR (rows.take k++rows.drop (k+1)))):=by
 have e:famR rows=famR (rows.take k)++([rowBox r,rowArr r]++famR (rows.drop (k+1))):=by
  conv=>lhs;rw[bNn h]
  rw[rF,bVl];rfl
 rw[e,rF];have h1:(famR (rows.take k)++([rowBox r,rowArr r]++famR (rows.drop (k+1)))).Perm ([rowBox r,rowArr r]++(famR (rows.take k)++famR (rows.drop (k+1)))):=aT _ _ _;exact(h1.append_left H).trans (aT _ _ _)
theorem fam_back{rows:List RowV}{k:Nat}{r:RowV}(h:rows[k]?=some r)(q:RowV)(H:List bC):(rowBox q::rowArr q::(H++famR (rows.take k++rows.drop (k+1)))).Perm (H++famR (rows.set k q)):=by
 have e:famR (rows.set k q)=famR (rows.take k)++([rowBox q,rowArr q]++famR (rows.drop (k+1))):=by
  rw[pl_set h,rF,bVl];rfl
 rw[e,rF];have h1:(famR (rows.take k)++([rowBox q,rowArr q]++famR (rows.drop (k+1)))).Perm ([rowBox q,rowArr q]++(famR (rows.take k)++famR (rows.drop (k+1)))):=aT _ _ _;exact((h1.append_left H).trans (aT _ _ _)).symm
theorem fam_new{rows:List RowV}(q:RowV)(H:List bC):(rowBox q::rowArr q::(H++famR rows)).Perm (H++famR (rows++[q])):=by
 rw[rF];have h1:([rowBox q,rowArr q]++(H++famR rows)).Perm ((H++famR rows)++[rowBox q,rowArr q]):=aV;rw[aU]at h1;exact h1
theorem lends_rowArr{r:RowV}{L:List bC}{G:List bE}(h:xS L G):xS (rowArr r::L) (dS.sl (.slice r.A r.l.length r.c) r.l::G):=by
 unfold rowArr;split
 .exact lends_held h
 .exact uU h
theorem bTp: ∀(rows:List RowV),xS (famR rows) [bE.each rows rowG]
 |[]=>λS w _ _=>All.cons (λx hx=>by cases hx) (λg hg=>by cases hg)
 |r::rows=>λS w a d=>by
  have h1:=mU (b:=r.b) (cs:=[.slice r.A r.l.length r.c]) (t:=330) (lends_rowArr (r:=r) (bTp rows)) S w a d;have h:=h1 _ (D5 ..);have f:=h1 _ (D1 _ (D5 ..));have e:=h1 _ (D1 _ (D1 _ (D5 ..)));refine All.cons (λx hx=>?_) (λg hg=>by cases hg)
  rcases C9.1 hx with rfl|hx
  .exact⟨h,f⟩
  .exact e x hx
theorem Split.front: ∀(L H:List bC),Split (L++H) L H
 |[],_=> .nil
 |_::L,H=> .c0 (Split.front L H)
section
variable {P : Program} {β : dE} {n : Nat} {Γ : Env} {H H' : List bC} {F : List bE} {K : Act -> World -> Prop}
theorem at_arr_held{r:RowV}(hH:bU H (rowArr r) H')(h:At β n Γ (dS.held (.slice r.A r.l.length r.c) r.l::H') F K):At β n Γ H F K:=by
 unfold rowArr at hH;split at hH
 .exact λa w S f s k=>h a w S f (s.perm hH.perm) k
 .exact bEj hH h
end
theorem rowArr_full{r:RowV}(h:r.full=true):rowArr r=dS.held (.slice r.A r.l.length r.c) r.l:=by unfold rowArr;rw[if_pos h]
theorem rowArr_room{r:RowV}(h:r.full=false):rowArr r=dS.row (.slice r.A r.l.length r.c) 214 r.l:=by unfold rowArr;rw[if_neg w8]
theorem bUd{α:Type}{l:List α}{x z:α}{N:Nat}(hl:l.length=N+1)(_hx:l[0]?=some x)(_hz:l[N]?=some z):(l.set 0 z).set N x=(l.take N).set 0 z++[x]:=by
 apply List.ext_getElem?;intro i;rw[U6,U6,aW];simp only[P6,W8,hl,U6,List.getElem?_take];have b:min N (N+1)=N:=k9
 rw[b]
 by_cases h1:i<N
 .rw[if_neg k9,if_pos h1]
  by_cases h0:0=i
  .subst h0;rw[if_pos rfl,if_pos k9,if_pos rfl,if_pos k9]
  .rw[if_neg h0,if_neg h0,if_pos h1]
 .rw[if_neg h1]
  by_cases a:N=i
  .subst a;rw[if_pos rfl,if_pos k9,Nat.sub_self];rfl
  .rw[if_neg a,if_neg k9,V5 k9,V5 n9]
theorem swap_perm{α:Type}{l m:List α}{x z:α}{N:Nat}(hl:l.length=N+1)(hx:l[0]?=some x)(hz:l[N]?=some z)(hm:m.Perm ((l.take N).set 0 z)):l.Perm (x::m):=by
 have h1:((l.set 0 z).set N x).Perm l:=by
  have h0:0<l.length:=k9
  have a:N<l.length:=k9
  have c:l[N]=z:=by have:=D7 a;rw[hz]at this;exact(Option.some.inj this).symm
  have b:l[0]=x:=by have:=D7 h0;rw[hx]at this;exact(Option.some.inj this).symm
  have:((l.set 0 l[N]).set N l[0]).Perm l:=eA h0 a
  rwa[c,b]at this
 rw[bUd hl hx hz]at h1;exact h1.symm.trans ((hm.symm.append_right [x]).trans aV)
section
variable {α : Type} {m : List α} {i j k : Nat} {y z w : α}
theorem iS(h:m[k]?=some y):(m++[w])[k]?=some y:=by
 rw[aL (D9.1 h).1];exact h
theorem bHr(hy:m[i]?=some y)(hz:m[j]?=some z):((m++[w]).set i z).set j y=(m.set i z).set j y++[w]:=by
 have h1:=(D9.1 hy).1;have a:=(D9.1 hz).1;rw[eB _ _ h1,eB _ _ (by simpa using a)]
theorem bHg(hy:m[i]?=some y)(hz:m[j]?=some z):((m.set i z).set j y).Perm m:=by
 obtain⟨h1,c⟩:=D9.1 hy;obtain⟨a,b⟩:=D9.1 hz;have:((m.set i m[j]).set j m[i]).Perm m:=eA h1 a
 rwa[c,b]at this
end
section
variable {m : List SpotV} {i : Nat} {y y1 y2 : SpotV}
theorem child1(h1:m[2*i+1]?=some y1)(hy:y.since<=y1.since)(hm:m.length<=2*i+2): ∀(k:Nat) b,1<=k->(k-1)/2=i->m[k]?=some b->y.since<=b.since:=λk b a c hb=>by
 have hlt:=(D9.1 hb).1;have e:k=2*i+1:=k9
 subst e;rw[h1]at hb;cases hb;exact hy
theorem child2(h1:m[2*i+1]?=some y1)(h2:m[2*i+1+1]?=some y2)(hy1:y.since<=y1.since)(hy2:y.since<=y2.since): ∀(k:Nat) b,1<=k->(k-1)/2=i->m[k]?=some b->y.since<=b.since:=λk b a c hb=>by
 have e:k=2*i+1\/k=2*i+1+1:=k9
 rcases e with rfl|rfl
 .rw[h1]at hb;cases hb;exact hy1
 .rw[h2]at hb;cases hb;exact hy2
theorem sink_none(h:bQk SpotV.since m i)(hm:m.length<=2*i+1):rM SpotV.since m:=λk a b c d hb=>by
 have hlt:=(D9.1 hb).1;exact h.1 k a b c k9 d hb
end
theorem lessN{A:Option Addr}{c i j n:Nat}{l:List SpotV}{x y:SpotV}(h:l.length=n)(hx:l[i]?=some x)(hy:l[j]?=some y):bZ prog 372 [.slice A n c,j5 (i:Nat),j5 (j:Nat)] [dS.held (.slice A n c) l] [] (λ(_:Unit)=> .bool (decide (x.since<y.since))) (λ(_:Unit)=>[dS.held (.slice A n c) l]) (λ_=>[]):=by
 subst h;exact LessH_spec A c i j l x y hx hy
theorem swapN{A:Option Addr}{c i j n:Nat}{l:List SpotV}{x y:SpotV}(h:l.length=n)(hx:l[i]?=some x)(hy:l[j]?=some y):bZ prog 375 [.slice A n c,j5 (i:Nat),j5 (j:Nat)] [dS.held (.slice A n c) l] [] (λ(_:Unit)=> .tuple #[]) (λ(_:Unit)=>[dS.held (.slice A n c) ((l.set i y).set j x)]) (λ_=>[]):=by
 subst h;exact SwapH_spec A c i j l x y hx hy
theorem up0_spec(A:Option Addr)(b c:Nat)(l:List SpotV):bZ prog 222 [.iface 284 (.pointer (some ⟨b,0,none⟩)),j5 0] [.obj b (.cells ([.slice A l.length c]:List Value).toArray 330),dS.row (.slice A l.length c) 214 l] [] (λ(_:Unit)=> .tuple #[]) (λ(_:Unit)=>[.obj b (.cells ([.slice A l.length c]:List Value).toArray 330),dS.row (.slice A l.length c) 214 l]) (λ_=>[]):=by
 have hT:=fI;refine i7 func222 ntmps222 ?_;intro β hM;refine one ?_;refine bUz 1 ?_;refine at_round ?_;refine g5 ?_;refine bF (z':=(-1:Int)) l5 ?_;refine ss (bNq rfl rfl rfl k9) ?_;refine bF (z':=((0:Nat):Int)) l5 ?_;refine g9 ?_;refine bQ (t':=true) l5 ?_;refine g15 ?_;exact cT () rfl (.c0 (.c0 .nil)) e8 (rfl)
theorem upS_spec(A:Option Addr)(b c m:Nat)(l:List SpotV)(x y:SpotV)(hx:l[m+1]?=some x)(hy:l[m/2]?=some y)(hle:y.since<=x.since)(hm:m<=100000000):bZ prog 222 [.iface 284 (.pointer (some ⟨b,0,none⟩)),j5 ((m+1:Nat):Int)] [.obj b (.cells ([.slice A l.length c]:List Value).toArray 330),dS.row (.slice A l.length c) 214 l] [] (λ(_:Unit)=> .tuple #[]) (λ(_:Unit)=>[.obj b (.cells ([.slice A l.length c]:List Value).toArray 330),dS.row (.slice A l.length c) 214 l]) (λ_=>[]):=by
 have hT:=fI;refine i7 func222 ntmps222 ?_;intro β hM;refine one ?_;refine bUz 1 ?_;refine at_round ?_;refine g5 ?_;refine bF (z':=((m:Nat):Int)) t7 ?_;refine ss (bNq rfl rfl rfl k9) ?_;refine bF (z':=((m/2:Nat):Int)) (by rw[Int.tdiv_eq_ediv_of_nonneg k9];exact bBq k9 k9) ?_;refine g9 ?_;refine bQ (t':=false) (beq_eq_false_iff_ne.2 k9) ?_;refine g4 ?_;refine gQ (j4 func372) (Less_spec A c (m+1) (m/2) l x y hx hy) rfl rfl rfl rfl rfl (λw S s k=>lH (λw b=>vQ w b) ((bFp .head) w S s k 0 _ rfl)) rfl (.c1 .nil) e8 λ_=>?_;refine bQ (t':=false) (decide_eq_false k9) ?_;refine g10 ?_;exact cT () rfl (.c1 (.c0 .nil)) e8 (rfl)
theorem downS_spec(A:Option Addr)(b c N:Nat)(m0:List SpotV)(z:SpotV)(hN:m0.length=N)(hs:bQk SpotV.since m0 0)(hb:N<=100000000):bZ prog 221 [.iface 284 (.pointer (some ⟨b,0,none⟩)),j5 0,j5 (N:Nat)] [.obj b (.cells ([.slice A (N+1) c]:List Value).toArray 330),dS.held (.slice A (N+1) c) (m0++[z])] [] (λ(x:List SpotV×Bool)=> .bool x.2) (λ(x:List SpotV×Bool)=>[.obj b (.cells ([.slice A (N+1) c]:List Value).toArray 330),dS.held (.slice A (N+1) c) (x.1++[z])]) (λ(x:List SpotV×Bool)=>[bE.pure (x.1.Perm m0/\rM SpotV.since x.1)]):=by
 have hT:=fI;refine i7 func221 ntmps221 ?_;intro β hM;refine g13 ?_;refine bY (ι:=Nat×List SpotV) [(0,_),(1,_),(2,_)] ⟨rfl,rfl,rfl,e8⟩ (λ⟨i,m⟩=>[(7,.int .i64 (i:Nat))]) (λ⟨i,m⟩=>[dS.held (.slice A (N+1) c) (m++[z])]) (λ⟨i,m⟩=>[bE.pure (m.length=N/\m.Perm m0/\bQk SpotV.since m i/\(i<N\/i=0))]) (λ⟨i,m⟩=>N-i) (0,m0) ⟨rfl,e8⟩ (.c1 .nil) ⟨e9 (⟨hN,List.Perm.refl _,hs,.inr rfl⟩),e8⟩ ?_;rintro⟨i,m⟩;dsimp only;refine bM d7 λa=>?_;have I:=a.1;have J:=a.2.2.2;have f:(m++[z]).length=N+1:=by simp;omega
 refine g5 ?_;refine inc (2*i) ?_;refine one ?_;refine inc ((2*i)+1) ?_;refine g10 ?_;refine k_le (λu=>?_) λu=>?_
 .refine g21 ?_;have l:rM SpotV.since m:=sink_none a.2.2.1 k9;exact rs1 (m,_) ⟨e9 ⟨a.2.1,l⟩,e8⟩
 refine g2 ?_;refine bQ (t':=false) (decide_eq_false k9) ?_;refine g17 ?_;refine inc (((2*i)+1)+1) ?_;refine g9 ?_;refine vP (λt=>?_) λt=>?_
 .refine g3 ?_;obtain⟨y1,h⟩:=gx m (2*i+1+1);obtain⟨G,g⟩:=gx m (2*i+1);refine gQ (j4 func372) (lessN f (iS h) (iS g)) rfl rfl rfl rfl rfl (λw S s k=>lH (λw b=>vQ w b) ((bFp kT1) w S s k 0 _ rfl)) rfl (.c0 .nil) e8 λ_=>?_;refine g3 ?_;refine fD (λv=>?_) λv=>?_
  .refine g11 ?_;obtain⟨E,o⟩:=gx m i;refine gQ (j4 func372) (lessN f (iS h) (iS o)) rfl rfl rfl rfl rfl (λw S s k=>lH (λw b=>vQ w b) ((bFp kT1) w S s k 0 _ rfl)) rfl (.c0 .nil) e8 λ_=>?_;refine g3 ?_;refine bBd (λd=>?_) λd=>?_
   .have d:=V8.1 (of_decide_eq_false d);refine g15 ?_;have l:rM SpotV.since m:=bNs a.2.2.1 o λk q h1 B y=>eC (show E.since<=y1.since by omega) ((child2 g h k9 k9) k q h1 B y);exact rs1 (m,_) ⟨e9 ⟨a.2.1,l⟩,e8⟩
   have d:=of_decide_eq_true d;refine g7 ?_;refine gQ (j4 func375) (swapN f (iS o) (iS h)) rfl rfl rfl rfl rfl (λw S s k=>lH (λw b=>bAy w b) ((bFp kT1) w S s k 0 _ rfl)) rfl (.c0 .nil) e8 λ_=>?_;have p:=bHr (w:=z) o h;rw[p];refine g8 ?_;exact bk2 ((2*i+1+1),(m.set i y1).set (2*i+1+1) E) ⟨e9 (⟨by simp only[P6];omega,(bHg o h).trans a.2.1,bHp a.2.2.1 o h k9 k9 k9 (child2 g h k9 k9),k9⟩),e8⟩
  refine g8 ?_;obtain⟨D,n⟩:=gx m i;refine gQ (j4 func372) (lessN f (iS g) (iS n)) rfl rfl rfl rfl rfl (λw S s k=>lH (λw b=>vQ w b) ((bFp kT1) w S s k 0 _ rfl)) rfl (.c0 .nil) e8 λ_=>?_;refine g3 ?_;refine bBd (λd=>?_) λd=>?_
  .have d:=V8.1 (of_decide_eq_false d);refine g15 ?_;have l:rM SpotV.since m:=bNs a.2.2.1 n λk q h1 B y=>eC (show D.since<=G.since by omega) ((child2 g h k9 k9) k q h1 B y);exact rs1 (m,_) ⟨e9 ⟨a.2.1,l⟩,e8⟩
  have d:=of_decide_eq_true d;refine g7 ?_;refine gQ (j4 func375) (swapN f (iS n) (iS g)) rfl rfl rfl rfl rfl (λw S s k=>lH (λw b=>bAy w b) ((bFp kT1) w S s k 0 _ rfl)) rfl (.c0 .nil) e8 λ_=>?_;have p:=bHr (w:=z) n g;rw[p];refine g8 ?_;exact bk2 ((2*i+1),(m.set i G).set (2*i+1) D) ⟨e9 (⟨by simp only[P6];omega,(bHg n g).trans a.2.1,bHp a.2.2.1 n g k9 k9 k9 (child2 g h k9 k9),k9⟩),e8⟩
 refine g16 ?_;obtain⟨C,e⟩:=gx m (2*i+1);obtain⟨r,j⟩:=gx m i;refine gQ (j4 func372) (lessN f (iS e) (iS j)) rfl rfl rfl rfl rfl (λw S s k=>lH (λw b=>vQ w b) ((bFp kT1) w S s k 0 _ rfl)) rfl (.c0 .nil) e8 λ_=>?_;refine g3 ?_;refine bBd (λd=>?_) λd=>?_
 .have d:=V8.1 (of_decide_eq_false d);refine g15 ?_;have l:rM SpotV.since m:=bNs a.2.2.1 j λk q h1 B y=>eC (show r.since<=C.since by omega) ((child1 e (Int.le_refl _) k9) k q h1 B y);exact rs1 (m,_) ⟨e9 ⟨a.2.1,l⟩,e8⟩
 have d:=of_decide_eq_true d;refine g7 ?_;refine gQ (j4 func375) (swapN f (iS j) (iS e)) rfl rfl rfl rfl rfl (λw S s k=>lH (λw b=>bAy w b) ((bFp kT1) w S s k 0 _ rfl)) rfl (.c0 .nil) e8 λ_=>?_;have p:=bHr (w:=z) j e;rw[p];refine g8 ?_;exact bk2 ((2*i+1),(m.set i C).set (2*i+1) r) ⟨e9 (⟨by simp only[P6];omega,(bHg j e).trans a.2.1,bHp a.2.2.1 j e k9 k9 k9 (child1 e (Int.le_refl _) k9),k9⟩),e8⟩
theorem up_any(A:Option Addr)(b c:Nat)(l:List SpotV)(x:SpotV)(ha: ∀q∈l,q.since<=x.since)(hl:l.length<=100000000):bZ prog 222 [.iface 284 (.pointer (some ⟨b,0,none⟩)),j5 (l.length:Nat)] [.obj b (.cells ([.slice A (l++[x]).length c]:List Value).toArray 330),dS.row (.slice A (l++[x]).length c) 214 (l++[x])] [] (λ(_:Unit)=> .tuple #[])
  (λ(_:Unit)=>[.obj b (.cells ([.slice A (l++[x]).length c]:List Value).toArray 330),dS.row (.slice A (l++[x]).length c) 214 (l++[x])]) (λ_=>[]):=by
 rcases aP l.length with h0|h0
 .have e:l=[]:=List.eq_nil_of_length_eq_zero h0;subst e;exact up0_spec A b c [x]
 .obtain⟨m,d⟩: ∃m,l.length=m+1:=⟨l.length-1,k9⟩
  obtain⟨y,a⟩: ∃y,l[m/2]?=some y:=⟨_,D7 k9⟩
  have:=upS_spec A b c m (l++[x]) x y (by rw[<-d];simp) (iS a) (ha y (f4 a)) k9;rw[<-d]at this;exact this
theorem at_full_row{β:dE}{n:Nat}{Γ:Env}{H:List bC}{F:List bE}{Q:Exit->Act->World->Prop}{ops:Array Oper}{rest:List Oper}{o:Oper}{d c q m:Nat}{x y:Operand}{A B:Option Addr}{xs ys:List SpotV}(hr:dO β H F dS A xs)(hs:dO β H F dS B ys)(hw:want ops Γ o=some true)
  (ho:o.op= .call {callee:= .builtin .append,args:= #[x,y],argTypes:= #[330,330]}) (hd:o.dst=some d) (hn:C0 d n=true) (hx:Γ.ev x=some (.slice A m m)) (hm:m=xs.length) (hy:Γ.ev y=some (.slice B q c)) (hq:q=ys.length) (h0:0<ys.length) (hl:xs.length+ys.length<=2000000000)
  (k: ∀A' cap',At β n ((d,.slice A' (xs++ys).length cap')::Γ) (dS.row (.slice A' (xs++ys).length cap') 214 (xs++ys)::H) F (wpList prog ops Q rest)):At β n Γ H F (wpList prog ops Q (o::rest)):=by
 obtain⟨i,b,hz,a,hb⟩:=yM;exact bMd (E:=dS) hr hs hw ho hd hn underlying330 b hz a hb rfl hx hm hy hq h0 k9 l5 k
theorem PushH_spec(A:Option Addr)(b:Nat)(l:List SpotV)(x:SpotV)(hl:l.length<=100000000):bZ prog 374 [.pointer (some ⟨b,0,none⟩),.iface 214 (.agg #[j0 x.at_,j0 x.size,j5 x.since])] [.obj b (.cells ([.slice A l.length l.length]:List Value).toArray 330),dS.held (.slice A l.length l.length) l] [] (λ(_:Option Addr×Nat)=> .tuple #[]) (λ(y:Option Addr×Nat)=>[.obj b (.cells ([.slice y.1 (l++[x]).length y.2]:List Value).toArray 330),dS.row (.slice y.1 (l++[x]).length y.2) 214 (l++[x])]) (λ_=>[]):=by
 have hT:=fI;refine i7 func374 ntmps374 ?_;intro β hM;refine qN 9 _ _ [(true,0),(true,1),(true,2),(true,3),(true,4),(true,5),(false,6),(false,7),(true,8)] dJ l8 (.c0 .nil) bA.self ?_;refine g5 ?_;refine stL rfl (bDg rfl underlying214 (λ_ e=>by cases e) rfl) ?_;refine one ?_;refine bQj (m:=x) rfl rfl rfl rfl rfl λc=>?_;refine g2 ?_;refine at_full_row (dF kT2) (fZ .head rfl) rfl rfl rfl rfl rfl rfl rfl rfl (Nat.succ_pos _) p8 λa c3=>?_;refine g5 ?_;exact cT (a,c3) rfl (.c0 (.c0 .nil)) e8 q7
theorem HPush_spec(A:Option Addr)(b c:Nat)(l:List SpotV)(x:SpotV)(ha: ∀q∈l,q.since<=x.since)(hl:l.length<=100000000):bZ prog 168 [.iface 284 (.pointer (some ⟨b,0,none⟩)),.iface 214 (.agg #[j0 x.at_,j0 x.size,j5 x.since])] [.obj b (.cells ([.slice A l.length c]:List Value).toArray 330),dS.row (.slice A l.length c) 214 l] [] (λ(_:Option Addr×Nat)=> .tuple #[]) (λ(y:Option Addr×Nat)=>[.obj b (.cells ([.slice y.1 (l++[x]).length y.2]:List Value).toArray 330),dS.row (.slice y.1 (l++[x]).length y.2) 214 (l++[x])]) (λ(y:Option Addr×Nat)=>[bE.pure ((l++[x]).length<=y.2)]):=by
 have hT:=fI;refine i7 func168 ntmps168 ?_;intro β hM;refine g4 ?_;refine gQ (j4 func374) (Push_spec A b c l x hl) rfl rfl rfl rfl rfl (λw S s k=>bVk w b) rfl (.c0 (.c0 .nil)) e8 λy1=>?_;refine g5 ?_;refine gQ (j4 func165) (bEo y1.1 (l++[x]).length y1.2) rfl rfl rfl rfl rfl (λw S s k=>lH (λw b=>bOd w b) ((bFp .head) w S s k 0 _ rfl)) rfl .nil e8 λ_=>?_;refine one ?_;refine bF (z':=((l.length:Nat):Int)) o7 ?_;refine f7 func222 (up_any y1.1 b y1.2 l x ha hl) (.c0 (.c0 .nil)) e8 λ_=>?_;refine jO<|bHh (E:=dS) (xs:=l++[x]) kT1 λa=>?_;exact cT y1 rfl (.c0 (.c0 .nil)) ⟨e9 a,e8⟩ (rfl)
theorem HPushF_spec(A:Option Addr)(b:Nat)(l:List SpotV)(x:SpotV)(ha: ∀q∈l,q.since<=x.since)(hl:l.length<=100000000):bZ prog 168 [.iface 284 (.pointer (some ⟨b,0,none⟩)),.iface 214 (.agg #[j0 x.at_,j0 x.size,j5 x.since])] [.obj b (.cells ([.slice A l.length l.length]:List Value).toArray 330),dS.held (.slice A l.length l.length) l] [] (λ(_:Option Addr×Nat)=> .tuple #[]) (λ(y:Option Addr×Nat)=>[.obj b (.cells ([.slice y.1 (l++[x]).length y.2]:List Value).toArray 330),dS.row (.slice y.1 (l++[x]).length y.2) 214 (l++[x])]) (λ(y:Option Addr×Nat)=>[bE.pure ((l++[x]).length<=y.2)]):=by
 have hT:=fI;refine i7 func168 ntmps168 ?_;intro β hM;refine g4 ?_;refine gQ (j4 func374) (PushH_spec A b l x hl) rfl rfl rfl rfl rfl (λw S s k=>bVk w b) rfl (.c0 (.c0 .nil)) e8 λy1=>?_;refine g5 ?_;refine gQ (j4 func165) (bEo y1.1 (l++[x]).length y1.2) rfl rfl rfl rfl rfl (λw S s k=>lH (λw b=>bOd w b) ((bFp .head) w S s k 0 _ rfl)) rfl .nil e8 λ_=>?_;refine one ?_;refine bF (z':=((l.length:Nat):Int)) o7 ?_;refine f7 func222 (up_any y1.1 b y1.2 l x ha hl) (.c0 (.c0 .nil)) e8 λ_=>?_;refine jO<|bHh (E:=dS) (xs:=l++[x]) kT1 λa=>?_;exact cT y1 rfl (.c0 (.c0 .nil)) ⟨e9 a,e8⟩ (rfl)
theorem HPop_spec(A:Option Addr)(b c N:Nat)(l:List SpotV)(x z:SpotV)(hlm:l.length=N+1)(hc:N+1<=c)(hx:l[0]?=some x)(hz:l[N]?=some z)(hs:rM SpotV.since l)(hb:N<=100000000):bZ prog 166 [.iface 284 (.pointer (some ⟨b,0,none⟩))] [.obj b (.cells ([.slice A (N+1) c]:List Value).toArray 330),dS.held (.slice A (N+1) c) l] [] (λ(_:List SpotV)=> .iface 214 (.agg #[j0 x.at_,j0 x.size,j5 x.since])) (λ(m:List SpotV)=>[.obj b (.cells ([.slice A N N]:List Value).toArray 330),dS.held (.slice A N N) m]) (λ(m:List SpotV)=>[bE.pure (l.Perm (x::m)/\rM SpotV.since m)]):=by
 have hT:=fI;refine i7 func166 ntmps166 ?_;intro β hM;refine g8 ?_;refine gQ (j4 func165) (bEo A (N+1) c) rfl rfl rfl rfl rfl (λw S s k=>lH (λw b=>bOd w b) ((bFp .head) w S s k 0 _ rfl)) rfl .nil e8 λ_=>?_;refine one ?_;refine bF (z':=((N:Nat):Int)) (by rw[show((N+1:Nat):Int)-1=(N:Nat) by omega];exact bBq rfl k9) ?_;refine g7 ?_;refine gQ (j4 func375) (swapN hlm hx hz) rfl rfl rfl rfl rfl (λw S s k=>lH (λw b=>bAy w b) ((bFp .head) w S s k 0 _ rfl)) rfl (.c1 .nil) e8 λ_=>?_;rw[bUd hlm hx hz];refine g6 ?_;refine bG func221 (downS_spec A b c N ((l.take N).set 0 z) x n9 (sink_start hs) hb) rfl rfl (.c1 (.c0 .nil)) e8 λy1=>?_;refine bM d7 λa=>?_;have d:y1.1.length=N:=by have:=a.1.length_eq;simp at this;omega
 refine g5 ?_;refine gQ (j4 func373) (PopH_spec A b c N (y1.1++[x]) x n9 hc (by rw[<-d];simp) hb) rfl rfl rfl rfl rfl (λw S s k=>meth_pop w b) rfl (.c0 (.c0 .nil)) e8 λ_=>?_;have e:(y1.1++[x]).take N=y1.1:=by rw[<-d];simp
 rw[e];refine g4 ?_;exact rs1 y1.1 ⟨e9 ⟨swap_perm hlm hx hz a.1,a.2⟩,e8⟩
set_option maxRecDepth 100000
set_option maxHeartbeats 1000000 in
theorem above_any(a b:Mono)(w:World):
  Calls prog 171 #[.agg #[j5 a.n,j6 a.e0.toNat,j6 a.e1.toNat,j6 a.e2.toNat,j6 a.e3.toNat,j6 a.e4.toNat,j6 a.e5.toNat],.agg #[j5 b.n,j6 b.e0.toNat,j6 b.e1.toNat,j6 b.e2.toNat,j6 b.e3.toNat,j6 b.e4.toNat,j6 b.e5.toNat]] w λe w'=>e= .returned (j5 (bTh a b))/\Below w.heap.size w w':=by
 go_enter func171,ntmps171
 go_wp2
 refine wp_loop_rounds 7 ?_
 repeat any_goals (first|(rw[rounds_succ];go_wp2)|(go_quiet (fail);go_wp2))
 all_goals go_ret
 all_goals refine⟨bAs ?_,?_⟩
 all_goals first|((repeat refine bKj ?_ _);go_grown;done)|(go_light;simp[bTh,Mono.E,yD, *];done)|(go_light;simp[bTh,Mono.E,yD, *];rfl)
end
section
open Go.RowKit Go.Proofs.Tryz
set_option maxRecDepth 100000
theorem cmp_flip: ∀(l m:List UInt8),(R0 l m=1↔R0 m l<0)/\(R0 l m=0↔R0 m l=0)
 |[],[]=>by simp[R0]
 |[],_::_=>by simp[R0]
 |_::_,[]=>by simp[R0]
 |a::l,b::m=>by
  have d:=cmp_flip l m;rw[yD,yD]
  by_cases h1:b.toNat<a.toNat
  .rw[if_pos h1,if_neg k9,if_pos h1];simp
  .rw[if_neg h1]
   by_cases c:a.toNat<b.toNat
   .rw[if_pos c,if_pos c];simp
   .rw[if_neg c,if_neg c,if_neg h1];exact d
theorem bUq(a b:Mono):bTh a b=1↔ord a b<0:=(cmp_flip _ _).1
theorem small_not{m:Mono}(h:gL m=false):(m.n==0)=true\/((m.n==0)=false/\decide (16777216<m.n)=true)\/((m.n==0)=false/\decide (16777216<m.n)=false/\decide (m.n< -16777216)=true)\/
  ((m.n==0)=false/\decide (16777216<m.n)=false/\decide (m.n< -16777216)=false/\decide (8<(m.deg:Int))=true):=by
 have a: ¬(m.n≠0/\m.n<=16777216/\ -16777216<=m.n/\m.deg<=8):=of_decide_eq_false h;simp only[beq_iff_eq,beq_eq_false_iff_ne,decide_eq_true_eq,decide_eq_false_iff_not];omega
theorem small_all{m:Mono}(h:gL m=true):(m.n==0)=false/\decide (16777216<m.n)=false/\decide (m.n< -16777216)=false/\decide (8<(m.deg:Int))=false:=by
 have a:m.n≠0/\m.n<=16777216/\ -16777216<=m.n/\m.deg<=8:=of_decide_eq_true h;simp only[beq_eq_false_iff_ne,decide_eq_false_iff_not];omega
set_option maxHeartbeats 1000000 in
theorem wZ(A:Option Addr)(c:Nat)(xs:List Mono)(w:World)(ha:kK w A xs)(hx:xs.length<=140737488355328):
  Calls prog 101 #[.slice A xs.length c] w λe w'=>e= .returned (.bool (cJ xs))/\Below w.heap.size w w':=by
 by_cases hl:xs.length<=48
 .have hl1:decide ((48:Int)<(xs.length:Int))=false:=by simp;omega
  have Ha:=R1 ha;clear ha
  go_enter func101,ntmps101
  go_wp2
  go_loopw [3] (λi wr=> ∃k:Nat,k<=xs.length/\i= .int .i64 k/\Hid (cJ xs=dN (if k=0 then none else xs[k-1]?) (xs.drop k))/\Below w.heap.size w wr) (λi _=>xs.length-(intOf i).toNat)
  case atStart=>exact⟨0,Nat.zero_le _,rfl,by show _=_;simp[cJ,hl],Below.refl _ _⟩
  case round=>
   obtain⟨k,hk,rfl,hs,hbl⟩:=hrel
   by_cases hlt:k<xs.length
   .obtain⟨m,hm,dm⟩:=mQ hlt;obtain⟨b,o,rfl,hB,c0,c1,c2,c3,c4,c5,c6⟩:=Ha.out.below hbl k m hm;have HN:=R1 (show gL m=false->cJ xs=false by intro hsb;rw[hs.out,dm];split<;>(try cases xs[k-1]?)<;>simp[dN,hsb]);have HM:=R1 hm;have HD:=R1 dm;cases hsb:gL m
    .have HN':=R1 (HN.out hsb);have HBL:=R1 hbl;clear dm hm hbl hB HN hs HM HD
     rcases small_not hsb with t0|⟨t0,t1⟩|⟨t0,t1,t2⟩|⟨t0,t1,t2,t3⟩
     all_goals go_wp2_with (go_at_call 170;refine(bMr m _).mono ?_;rintro e w1 ⟨rfl,hb1⟩)
     all_goals go_ret
     all_goals refine⟨lC HN'.out.symm,?_⟩
     all_goals first|exact HBL.out|exact HBL.out.trans (hb1.mono HBL.out.size)
    .obtain⟨t0,t1,t2,t3⟩:=small_all hsb;have HC:=R1 (Ha.out.below hbl k m hm);have HBL:=R1 hbl;clear dm hm hbl hB HN
     go_wp2_with (go_at_call 170;refine(bMr m _).mono ?_;rintro e w1 ⟨rfl,hb1⟩)
     clear c0 c1 c2 c3 c4 c5 c6 t0 t1 t2 t3;have HB1:=R1 (show Below w.heap.size w w1 from HBL.out.trans (hb1.mono HBL.out.size));clear hb1 HBL HC
     rcases aP k with hk0|hk0
     .have hk1:decide (0<k)=false:=by simp;omega
      have HS:=R1 (show cJ xs=dN (if k+1=0 then none else xs[k+1-1]?) (xs.drop (k+1)) by rw[hs.out,HD.out,if_pos hk0,if_neg k9,show k+1-1=k from rfl,HM.out];simp[dN,hsb]);clear hs hk0 HM HD;refine lD l4 l4 ?_
      repeat (go_big_quiet_step (fail))
      refine wpQuiet_nil ?_;rintro _ ⟨x,rfl⟩
      go_wp2
      go_roundw
      case rel=>exact⟨k+1,k9,by go_num,HS,HB1.out.trans (x.h.mono HB1.out.size)⟩
      case measure=>simp[intOf];omega
     .have hk1:decide (0<k)=true:=by simp;omega
      obtain⟨j,rfl⟩: ∃j,k=j+1:=⟨k-1,k9⟩
      obtain⟨q,hq⟩: ∃q,xs[j]?=some q:=⟨xs[j]'k9,D7 _⟩
      have HS:=R1 (show cJ xs=(decide (ord q m<0)&&dN (some m) (xs.drop (j+1+1))) by rw[hs.out,HD.out,if_neg k9,show j+1-1=j from rfl,hq];simp[dN,hsb])
      have p0:dP w1 b (o+j*7) q/\dP w1 b (o+(j+1)*7) m:=by
       obtain⟨b1,o1,e1,hB1,hm1⟩:=Ha.out.below HB1.out j q hq;obtain⟨b2,o2,e2,hB2,hm2⟩:=Ha.out.below HB1.out (j+1) m HM.out;injection e1 with e1
       injection e1 with e1 e1'
       injection e2 with e2
       injection e2 with e2 e2'
       subst e1 e1' e2 e2';exact⟨hm1,hm2⟩
      obtain⟨r0,r1,r2,r3,r4,r5,r6⟩:=p0.2.later;obtain⟨s0,s1,s2,s3,s4,s5,s6⟩:=p0.1.later;clear hs hk0 hq p0;have Hor:=R1 (fM.calls (W0:=w1) λW _=>above_any q m W);refine lD l4 l4 ?_
      repeat (go_big_quiet_step ((go_at_call 171;exact Hor.out _)))
      refine wpQuiet_nil ?_;rintro _ ⟨x,rfl⟩;clear r0 r1 r2 r3 r4 r5 r6 s0 s1 s2 s3 s4 s5 s6 Hor;have HBX:=R1 (show Below w.heap.size w x.w from HB1.out.trans (x.h.mono HB1.out.size));clear HB1
      by_cases ho:ord q m<0
      .have ho1:(bTh q m !=1)=false:=by simp[(bUq q m).2 ho]
       go_wp2
       go_roundw
       case rel=>exact⟨j+1+1,k9,by go_num,q9,HBX.out⟩
       case measure=>simp[intOf];omega
      .have ho1:(bTh q m !=1)=true:=by rw[bne_iff_ne];intro h;exact ho ((bUq q m).1 h)
       go_wp2
       go_ret
       exact⟨lC w9,HBX.out⟩
   .have hk':k=xs.length:=k9
    go_wp2
    go_ret
    refine⟨lC ?_,hbl⟩;rw[hs.out,List.drop_of_length_le k9];split<;>(try cases xs[k-1]?)<;>simp[dN]
 .have hl1:decide ((48:Int)<(xs.length:Int))=true:=by simp;omega
  go_enter func101,ntmps101
  go_wp2
  go_ret
  exact⟨lC (by simp[cJ,hl]),Below.refl _ _⟩
end
section
open Go.RowKit Go.Proofs.Tryz
set_option maxRecDepth 100000
end
section
open Go.RowKit Go.Proofs.Tryz
end
end Go.Proofs.YtnfiadlonjediaaGreatDoor
