/- Texts of one proof, one behind the other: MkC, QD, GmN, EmU, EmF, GmP, EmG, GnE. -/
import Derived.Test.YtnfiadlonjediaaGreatDoorM20
import Derived.Test.YtnfiadlonjediaaGreatDoorM16
import Derived.Test.YtnfiadlonjediaaGreatDoorM15
import Derived.Test.YtnfiadlonjediaaGreatDoorM7
import Derived.Test.YtnfiadlonjediaaGreatDoorM19
import Derived.Test.YtnfiadlonjediaaGreatDoorM17
import Derived.Test.YtnfiadlonjediaaGreatDoorM18
set_option maxRecDepth 100000
namespace Go.Proofs.YtnfiadlonjediaaGreatDoor
open _root_.List renaming mem_map->K7,getElem?_eq_some_iff->D9,getElem_cons_drop->Y2,length_map->K3
open _root_.Bool renaming and_eq_true->G1
open _root_.Int renaming le_refl->aJ
open _root_.Nat renaming lt_or_ge->H3,zero_le->P2
section
open Go.RowKit Go.Proofs.Tryz
section
variable {c : dA} {ds : List Int}
theorem steps_T{c:gD}(hr:cY c.c=true)(ds:List Int):bCz ds c.c.steps:=λx hx=>by
 obtain⟨v,a,rfl⟩:=K7.1 hx;have hg:=bDk hr ds a;refine⟨hg.hN,?_,?_⟩
 .show 1<=(opsL v.ops.list).length;rw[dR];exact hg.hL1
 .show(opsL v.ops.list).length<=1000;rw[dR];have:=hg.hlo;omega
end
theorem bTv{f:Int}{two:Bool}(h:kG f two=true):1<=f/\f<=17:=by
 unfold kG at h;split at h
 .cases h
 .omega
theorem step_ok0{c:gD}(hr:cY c.c=true){ds:List Int}{x:bX}(hx:x∈c.c.steps):StepOk0 (mL c.c ds) x:=by
 obtain⟨v,i,rfl⟩:=K7.1 hx;have hg:=bDk hr ds i;obtain⟨_,_,j,_⟩:=fL hr;obtain⟨made,k,b,_,_⟩:=xB (pX _) j v.c hx;unfold nB at b;simp only[G1,List.all_eq_true,decide_eq_true_eq]at b;obtain⟨⟨_,l⟩,hl,g,_,a,d⟩:=b;refine⟨hg.hh,λh1=>?_,λo ho h=>?_,?_,?_,λh=>?_,hg.hA⟩
 .have f:v.c.how=2\/v.c.how=3:=by
   rcases hg.hh with h|h|h
   .exact absurd h h1
   .exact .inl h
   .exact .inr h
  rw[if_neg h1,if_pos f,G1]at a;exact bTv a.2
 .have h1:=d o ho;unfold opB at h1;rw[if_neg k9,if_neg k9,if_neg k9,if_neg k9,if_pos h,G1]at h1;exact bTv h1.1
 .show 1<=(opsL v.ops.list).length;rw[dR];exact hg.hL1
 .show(polsL v.loops.list).length<=4;rw[bW];exact hg.hll
 .intro e;have e:polsL v.loops.list=[]:=e;have:=congrArg List.length e;rw[bW]at this;exact hg.hne h (List.length_eq_zero_iff.1 this)
theorem bMk{ds:List Int}: ∀{l:List bX} {a t:Int},bCz ds l->0<=a->turnsR ds l a=some t->0<=t
 |[],a,t,_,ha,h=>by cases h;exact ha
 |x::r,a,t,hs,ha,h=>by
  unfold turnsR at h;split at h
  .cases h
  .rename_i n z hn;have hn0:=bHx (hs x (List.mem_cons_self ..)).1 l5 hn;have:0<=n*((x.ops.length:Nat):Int):=Int.mul_nonneg hn0 k9;refine bMk (λy b=>hs y (List.mem_cons_of_mem _ b)) ?_ h;split<;>omega
theorem gen_ends{c:gD}{ds:List Int}(h:iB c.c ds=0): ∃t:Int,turnsR ds c.c.steps 0=some t/\0<=t/\t<=2097152/\c.c.steps.length<=1024/\ ∀s:EmS,s.at_=0->s.regs.length=16->nU (gF c.c ds).1.code (8+(31*t+5*(c.c.steps.length:Nat)).toNat) s:=by
 obtain⟨g,_⟩:=refused0 h;have hr:=wY g
 have d:turnsG ds c.c.steps 0=true:=by
  unfold iB at h;split at h
  .exact absurd h ‹_›
  .split at h
   .exact absurd h ‹_›
   .split at h
    .cases h
    .split at h
     .cases h
     .rename_i hn
      simpa using hn
 obtain⟨t,e,h1⟩:=(wI (steps_T hr ds) l5 l5).1 d;have f:=yO (M:=mL c.c ds) (steps_T hr ds) (λx hx=>step_ok0 hr hx) l5 e h1
 have h0:0<=t:=by
  have:=bMk (steps_T hr ds) l5 e;exact this
 refine⟨t,e,h0,h1,(fL hr).1.2.2.2.1,λs a b=>?_⟩;rw[genP_ok (by rw[bOk];exact h)];refine ends_le (code_ends (M:=mL c.c ds) rfl (λz hz=>?_) f.1 a b) ?_
 .obtain⟨u,_,rfl⟩:=K7.1 hz;have:=sizeA_in (u.sides.map λp=>(bD p ds).1);exact⟨this.1,k9⟩
 .have:=f.2;rw[Int.sub_zero]at this;omega
end
section
open Go.RowKit Go.Sort Go.Proofs.Tryz
def rW (f:Nat->Int):Nat->Int
 |0=>0
 |n+1=>rW f n+f n
theorem wG{f g:Nat->Int}: ∀{n:Nat},(∀k,k<n->f k<=g k)->rW f n<=rW g n
 |0,_=>aJ _
 |n+1,h=>by
  have h1:=wG (f:=f) (g:=g) (n:=n) λk a=>h k k9;have b:=h n k9;show rW f n+f n<=rW g n+g n;omega
theorem bGx{f g:Nat->Int}{b:Nat}{z:Int}: ∀{n:Nat},(∀k,k<n->f k<=g k)->b<n->f b+z<=g b->rW f n+z<=rW g n
 |0,_,hb,_=>by omega
 |n+1,h,hb,hz=>by
  show rW f n+f n+z<=rW g n+g n
  rcases H3 b n with h1|h1
  .have c:=bGx (f:=f) (g:=g) (n:=n) (λk a=>h k k9) h1 hz;have d:=h n k9;omega
  .have e:b=n:=k9
   subst e;have c:=wG (f:=f) (g:=g) (n:=b) λk a=>h k k9;omega
section
variable {c : dA} {ds : List Int} {s s' : PlC} {b : Nat} {u : gP} {again : Bool}
def szK (c:dA)(ds:List Int)(k:Nat):Int:=match c.bufs[k]? with
 |some u=>SzV ds u
 |none=>0
def frK (c:dA)(k:Nat):Int:=match (cX c)[k]? with
 |some y=>y.from_
 |none=>0
theorem wA(hs:bBj c ds)(k:Nat):0<=szK c ds k:=by
 unfold szK
 cases h:c.bufs[k]? with
 |none=>exact aJ _
 |some u=>exact(hs.size k u h).1
theorem layE_end(hs:bBj c ds)(hu:c.bufs[b]?=some u)(hl:layC u.sides b again s=some s'):VD ds s'.end_<=VD ds s.end_+szK c ds b:=by
 have e:szK c ds b=SzV ds u:=by unfold szK;rw[hu]
 have h0:=wA hs b;rw[e]at h0⊢;unfold layC at hl;split at hl
 .cases hl
 .rename_i n hn;have hz:SzV ds u=VD ds n:=by unfold SzV;rw[hn];rfl
  split at hl
  .cases hl;show VD ds s.end_<=_;omega
  .split at hl
   .rename_i h0;cases hl;have a:bothP s.end_ n 1=((bothP s.end_ n 1).1,0):=by rw[<-h0]
    have d:VD ds (bothP s.end_ n 1).1=VD ds s.end_+SzV ds u:=by rw[hz];exact add_lin (ext_val _) a
    show VD ds (bothP s.end_ n 1).1<=_;omega
   .cases hl
def bDl (c:dA)(ds:List Int)(m:Nat)(k:Nat):Int:=if k<m/\frK c k<0 then szK c ds k else 0
def goF (c:dA)(ds:List Int)(i:Int)(k:Nat):Int:=if frK c k<i then szK c ds k else 0
theorem bCs(hs:bBj c ds): ∀(m b:Nat) {s s':PlC},b+m=c.bufs.length->VD ds s.end_<=rW (bDl c ds b) c.bufs.length->kL c.bufs (cX c) m b s=some s'->VD ds s'.end_<=rW (bDl c ds (b+m)) c.bufs.length
 |0,b,s,s',_,h,hb=>by cases hb;exact h
 |m+1,b,s,s',hbm,h,hb=>by
  have a: ∀k,k<c.bufs.length->bDl c ds b k<=bDl c ds (b+1) k:=λk _=>by
   have:=wA hs k;unfold bDl;split
   .rw[if_pos ⟨k9,k9⟩];exact aJ _
   .split<;>omega
  unfold kL at hb;split at hb
  .rename_i u y hu i;have o:frK c b=y.from_:=by unfold frK;rw[i]
   split at hb
   .rename_i e;split at hb
    .cases hb
    .rename_i l d;have h1:=layE_end hs hu d
     have j:=bGx (f:=bDl c ds b) (g:=bDl c ds (b+1)) (b:=b) (z:=szK c ds b) (n:=c.bufs.length) a k9 (by
      unfold bDl;rw[if_neg k9,if_pos ⟨k9,k9⟩]
      omega)
     have:=bCs hs m (b+1) k9 k9 hb
     rwa[show b+1+m=b+(m+1) by omega]at this
   .have j:=wG (f:=bDl c ds b) (g:=bDl c ds (b+1)) (n:=c.bufs.length) a;have:=bCs hs m (b+1) k9 k9 hb
    rwa[show b+1+m=b+(m+1) by omega]at this
  .cases hb
theorem goE_end(hs:bBj c ds): ∀(xs:List bX) (i:Nat) {s s':PlC},VD ds s.end_<=rW (goF c ds i) c.bufs.length->goC c (cX c) (nC c) xs i s=some s'->VD ds s'.end_<=rW (szK c ds) c.bufs.length
 |[],i,s,s',h,hg=>by
  cases hg;refine Int.le_trans h (wG λk _=>?_);have:=wA hs k;unfold goF;split<;>omega
 |x::xs,i,s,s',h,hg=>by
  have a: ∀k,k<c.bufs.length->goF c ds i k<=goF c ds ((i+1:Nat):Int) k:=λk _=>by
   have:=wA hs k;unfold goF;split
   .rw[if_pos k9];exact aJ _
   .split<;>omega
  unfold goC at hg;split at hg
  .rename_i u y t hu j _;have o:frK c x.buf.toNat=y.from_:=by unfold frK;rw[j]
   have hb:=(D9.1 hu).1;split at hg
   .rename_i m;split at hg
    .cases hg
    .rename_i e d;have h1:=layE_end hs hu d;have h1:VD ds e.end_<=VD ds s.end_+szK c ds x.buf.toNat:=h1
     have l:=bGx (f:=goF c ds i) (g:=goF c ds ((i+1:Nat):Int)) (b:=x.buf.toNat) (z:=szK c ds x.buf.toNat) (n:=c.bufs.length) a hb (by
      unfold goF;rw[if_neg k9,if_pos k9]
      omega)
     exact goE_end hs xs (i+1) k9 hg
   .have l:=wG (f:=goF c ds i) (g:=goF c ds ((i+1:Nat):Int)) (n:=c.bufs.length) a;exact goE_end hs xs (i+1) k9 hg
  .cases hg
theorem bIy(hr:cY c=true)(hs:bBj c ds): ∀{l:List gP} {k:Nat} {al r:Int},c.bufs.drop k=l->0<=al->al<=1048576->rW (szK c ds) k<=al->cellsGo ds l al=(r,0)->rW (szK c ds) c.bufs.length<=1048576
 |[],k,al,r,hl,h0,h1,h,hc=>by
  have a:c.bufs.length<=k:=by
   rcases H3 k c.bufs.length with h|h
   .rw[<-Y2 h]at hl;cases hl
   .exact h
  have f: ∀n,rW (szK c ds) c.bufs.length<=rW (szK c ds) (c.bufs.length+n):=λn=>by
   induction n with
   |zero=>exact aJ _
   |succ n ih=>
    have:=wA hs (c.bufs.length+n);show _<=rW (szK c ds) (c.bufs.length+n)+szK c ds (c.bufs.length+n);omega
  have:=f (k-c.bufs.length);rw[show c.bufs.length+(k-c.bufs.length)=k by omega]at this;omega
 |u::l,k,al,r,hl,h0,h1,h,hc=>by
  have a:k<c.bufs.length:=by
   rcases H3 k c.bufs.length with h|h
   .exact h
   .rw[List.drop_of_length_le h]at hl;cases hl
  have e:=Y2 a;rw[hl]at e;injection e with e1 e2
  have hu:c.bufs[k]?=some u:=by rw[List.getElem?_eq_getElem a,e1]
  unfold cellsGo at hc;split at hc
  .cases hc
  .rename_i n hn;split at hc
   .cases hc
   .rename_i g;have hg:=bCy (fL hr).2.1 u (f4 hu);obtain⟨d,i⟩:=bNl hn
    have hz:szK c ds k<=n:=by
     unfold szK;rw[hu];show SzV ds u<=n;unfold SzV
     cases hz:qZ u.sides with
     |none=>exact d
     |some q=>
      obtain⟨b,_⟩:=sizeC_is hg hn hz;show VD ds q<=n;rw[b];exact aJ _
    refine bIy hr hs (k:=k+1) e2 k9 k9 ?_ hc;show rW (szK c ds) k+szK c ds k<=al+n;omega
theorem frame_cells{al:Int}{ats:List (List Mono)}{e:List Mono}(hr:cY c=true)(hc:dX c ds=(al,0))(hp:tS c=some (ats,e)):(bD e ds).1<=1048576:=by
 have hs:=bJg hr hc
 have hcg: ∃r,cellsGo ds c.bufs 0=(r,0):=by
  unfold dX at hc;rw[if_pos hr]at hc;split at hc
  .exact⟨_,hc⟩
  .cases hc
 obtain⟨r,hcg⟩:=hcg;have hsum:=bIy hr hs (l:=c.bufs) (k:=0) (al:=0) List.drop_zero l5 l5 (aJ _) hcg;unfold tS at hp;split at hp
 .cases hp
 .rename_i s hb;split at hp
  .cases hp
  .rename_i t hg;cases hp
   have h0:VD ds (tJ c.bufs.length).end_<=rW (bDl c ds 0) c.bufs.length:=by
    have h1:=wG (f:=λ_=>0) (g:=bDl c ds 0) (n:=c.bufs.length) λk _=>by
     have:=wA hs k;unfold bDl;split<;>omega
    have h2: ∀n,rW (λ_=>(0:Int)) n=0:=λn=>by
     induction n with
     |zero=>rfl
     |succ n ih=>show rW _ n+0=0;rw[ih];rfl
    rw[h2]at h1;exact h1
   have h1:=bCs hs c.bufs.length 0 k9 h0 hb
   have h2:rW (bDl c ds (0+c.bufs.length)) c.bufs.length<=rW (goF c ds ((0:Nat):Int)) c.bufs.length:=wG λk hk=>by
    unfold bDl goF;split
    .rw[if_pos k9];exact aJ _
    .have:=wA hs k;split<;>omega
   have h3:=goE_end hs c.steps 0 k9 hg;obtain⟨_,_,h4,_,_⟩:=bDd hr hc (show tS c=some (t.ats,t.end_) by unfold tS;rw[hb];dsimp only;rw[hg]);have h5:=bFh hr hs k9 ((ag_start c.bufs.length).less (L':=LB c 0) (λk hk=>by have:=hk.1;omega) (Nat.le_refl 0)) hb
   have h6:=go_ag hr hs (r:=c.steps) (i:=0) rfl (h5.less (L':=LG c 0) (λk hk=>by
    obtain⟨z,hz,hk⟩:=hk;refine⟨?_,z,hz,?_⟩
    .have:=(D9.1 hz).1
     rwa[lX]at this
    .rcases hk with hk|⟨j,x,_,h,_⟩
     .exact hk
     .omega) (Nat.le_refl _)) hg
   rw[eval_is h6.endG hs.dims (by unfold gE;omega)];show VD ds t.end_<=_;omega
end
end
section
open Go.RowKit Go.Proofs.Tryz
set_option maxHeartbeats 1000000 in
theorem bRi(c:gD)(DA:Option Addr)(dcap:Nat)(dims:List Int)(hdl:dims.length<=140737488355328):bZ prog 17 [.agg #[j5 c.vars,j0 c.bufs,j0 c.steps,j0 c.outs],.slice DA dims.length dcap] [] [oJ c,cK.sl (.slice DA dims.length dcap) dims] (λ(x:Int×Bool)=> .tuple #[j5 x.1,.bool x.2]) (λ_=>[]) (λ_=>[]):=by
 have hT:=cO;refine i7 func17 ntmps17 ?_;intro β hM;refine g2 ?_;refine i6 λv=>?_;refine g16 ?_;refine bY (ι:=Int×Nat) [(1,_),(2,_)] ⟨rfl,rfl,e8⟩ (λ⟨al,i⟩=>[(6,.int .i64 al),(7,.int .i64 (i:Nat))]) (λ_=>[]) (λ⟨al,i⟩=>[bE.pure (i<=c.steps.list.length)]) (λ⟨al,i⟩=>c.steps.list.length-i) (0,0) ⟨rfl,rfl,e8⟩ .nil ⟨e9 (P2 _),e8⟩ ?_;rintro⟨al,i⟩;dsimp only;refine bM d7 λo=>?_;refine g2 ?_;refine bP (sO.sl (.slice c.steps.addr c.steps.list.length c.steps.cap) c.steps.list) (qS (iG d8))<|bM (bPy (iG d9)) λa=>?_;have r:=a.1;have p:=a.2;refine g8 ?_;refine fD (λk=>?_) λk=>?_
 .refine g5 ?_;obtain⟨x,hx⟩:=gx c.steps.list i;refine bP (oL x) (Has.each (qU (iG d9)) (f4 hx))<|bM (wL (mV d7)) λb=>?_;have t:=b.1;have s:=b.2;refine g4 ?_;refine ss (ixs i) ?_;refine ss (kV hx 0) ?_;refine f9 wT λu=>?_;refine g20 ?_;refine bP (iY.sl (.slice x.loops.addr x.loops.list.length x.loops.cap) x.loops.list) (qM (mV d7)) ?_;refine bY (ι:=Int×Bool×Nat) [(1,_),(2,_),(6,_),(7,_),(8,_)] ⟨rfl,rfl,rfl,rfl,rfl,e8⟩ (λ⟨n,z,j⟩=>[(9,.int .i64 n),(10,.bool z),(11,.int .i64 (j:Nat))]) (λ_=>[]) (λ⟨n,z,j⟩=>[bE.pure (j<=x.loops.list.length)]) (λ⟨n,z,j⟩=>x.loops.list.length-j) (1,false,0) ⟨rfl,rfl,rfl,e8⟩ .nil ⟨e9 (P2 _),e8⟩ ?_;rintro⟨n,z,j⟩;dsimp only;refine bM d7 λm=>?_;refine g10 ?_;refine fD (λh=>?_) λh=>?_
  .refine g5 ?_;obtain⟨q,hq⟩:=gx x.loops.list j;refine bP (fB q) (Has.each (qJ (mV d9)) (f4 hq)) ?_;refine g4 ?_;refine ss (ixs j) ?_;refine ss (jB hq 0) ?_;refine one ?_;refine bM (gI d7) λl=>?_;refine f7 func46 (bBk q DA dcap dims l hdl) .nil ⟨d7,(Has.of mT7),e8⟩ λ_=>?_;refine g13 ?_;refine k_ne (λe=>?_) λe=>?_
   .refine g24 ?_;exact rs2 (_,_) trivial
   refine g5 ?_;refine fD (λg=>?_) λg=>?_
   .refine g18 ?_;exact rs2 (_,_) trivial
   refine g9 ?_;refine k_eq (λd=>?_) λd=>?_
   .refine g5 ?_;refine bF (z':=((x.loops.list.length:Nat):Int)-1) (nN k9 k9) ?_;refine g4 ?_;refine fG (λf=>?_) λf=>?_
    .refine g7 ?_
     rcases z with _|_
     .refine g21 ?_;refine inc (j+1) ?_;refine g3 ?_;exact iC (_,_,j+1) n3 ⟨rfl,rfl,rfl,e8⟩ ⟨rfl,rfl,rfl,rfl,rfl,e8⟩ (.c0 (.c0 .nil)) ⟨e9 n3,e8⟩ (bA.drop 2)
     refine g21 ?_;refine inc (j+1) ?_;refine g3 ?_;exact iC (_,_,j+1) n3 ⟨rfl,rfl,rfl,e8⟩ ⟨rfl,rfl,rfl,rfl,rfl,e8⟩ (.c0 (.c0 .nil)) ⟨e9 n3,e8⟩ (bA.drop 2)
    refine g3 ?_
    rcases z with _|_
    .refine g21 ?_;refine inc (j+1) ?_;refine g3 ?_;exact iC (_,_,j+1) n3 ⟨rfl,rfl,rfl,e8⟩ ⟨rfl,rfl,rfl,rfl,rfl,e8⟩ (.c0 (.c0 .nil)) ⟨e9 n3,e8⟩ (bA.drop 2)
    refine g21 ?_;refine inc (j+1) ?_;refine g3 ?_;exact iC (_,_,j+1) n3 ⟨rfl,rfl,rfl,e8⟩ ⟨rfl,rfl,rfl,rfl,rfl,e8⟩ (.c0 (.c0 .nil)) ⟨e9 n3,e8⟩ (bA.drop 2)
   refine g13 ?_
   rcases z with _|_
   .refine g21 ?_;refine inc (j+1) ?_;refine g3 ?_;exact iC (_,_,j+1) n3 ⟨rfl,rfl,rfl,e8⟩ ⟨rfl,rfl,rfl,rfl,rfl,e8⟩ (.c0 (.c0 .nil)) ⟨e9 n3,e8⟩ (bA.drop 2)
   refine g21 ?_;refine inc (j+1) ?_;refine g3 ?_;exact iC (_,_,j+1) n3 ⟨rfl,rfl,rfl,e8⟩ ⟨rfl,rfl,rfl,rfl,rfl,e8⟩ (.c0 (.c0 .nil)) ⟨e9 n3,e8⟩ (bA.drop 2)
  refine g6 ?_
  rcases z with _|_
  .refine g22 ?_;refine inc (i+1) ?_;refine g3 ?_;exact bk2 (_,i+1) ⟨e9 n3,e8⟩
  refine g12 ?_;refine inc (i+1) ?_;refine g3 ?_;exact bk2 (_,i+1) ⟨e9 n3,e8⟩
 refine g13 ?_;exact rs2 (_,_) trivial
theorem layL_len{at_:List Int}{ins:List Arr}{mem:Int}: ∀{l:List gP} {k:Nat} {M:List Int},(M.length:Int)=mem->fitsL at_ mem ins l k=true->((layL at_ ins l k M).length:Int)=mem
 |[],_,_,h,_=>h
 |b::r,k,M,h,hf=>by
  unfold fitsL at hf;rw[G1]at hf;refine layL_len (l:=r) (k:=k+1) ?_ hf.2;split
  .exact h
  .rename_i hb;have h1:=hf.1;rw[decide_eq_false hb,Bool.false_or]at h1;unfold bJp at h1;rw[G1]at h1;have a:=of_decide_eq_true h1.2;rw[bSx k9];exact h
structure GsOk (c:gD) (ds:List Int):Prop where
 hr:cY c.c=true
 ha:(gF c.c ds).1.at_.length=c.bufs.list.length
 hb:(gF c.c ds).1.at_.length<=140737488355328
 hm:0<=(gF c.c ds).1.mem/\(gF c.c ds).1.mem<=2097152
 hR: ∀x∈(gF c.c ds).1.code,gW x=true
 hl:(gF c.c ds).1.code.length<=32768
 hN: ∀x∈(gF c.c ds).1.code,NnI x
 ht: ∃t:Int,turnsR ds c.c.steps 0=some t/\0<=t/\t<=2097152/\c.steps.list.length<=1024/\ ∀s:EmS,s.at_=0->s.regs.length=16->nU (gF c.c ds).1.code (8+(31*t+5*(c.steps.list.length:Nat)).toNat) s
theorem gs_ok{c:gD}{ds:List Int}(h:(gF c.c ds).2=0):GsOk c ds:=by
 have h0:=(bOk c.c ds).symm.trans h;obtain⟨b,e⟩:=refused0 h0;have hr:=wY b;have a:=genP_ok h;have f:=bPx (bNh c.c ds);have g:=bDd hr (yT b) (bGm e);have k:=frame_cells hr (yT b) (bGm e)
 have hdp:=bUy c.c.steps 0 l5 l5 λx hx=>by
  obtain⟨v,r,rfl⟩:=K7.1 hx;have:=(bDk hr ds r).hlo;show(opsL v.ops.list).length<=_;rw[dR];exact this
 have l:c.c.bufs.length=c.bufs.list.length:=K3 _;have i:c.c.steps.length=c.steps.list.length:=K3 _;have d:(gF c.c ds).1.code=mD (bNh c.c ds):=by rw[a]
 have j:(gF c.c ds).1.mem=(mL c.c ds).frame+deepGo c.c.steps 0:=by rw[a]
 have m:(gF c.c ds).1.at_=(mL c.c ds).at_:=by rw[a]
 have n:(gF c.c ds).1.at_.length=c.bufs.list.length:=by
  rw[m,<-l];show((iK c.c).1.1.map _).length=_;rw[K3,g.1]
 refine⟨hr,n,?_,?_,by rw[d];exact f.1,by rw[d];exact f.2,by rw[d];exact nn_code,?_⟩
 .have:=(fL hr).1;omega
 .rw[j];have h1:(mL c.c ds).frame=(bD (iK c.c).1.2 ds).1:=rfl;have q:0<=(bD (iK c.c).1.2 ds).1:=g.2.2.2.1;have p:(bD (iK c.c).1.2 ds).1<=1048576:=k;rw[h1];omega
 .obtain⟨t,h1,q,p,h4,o⟩:=gen_ends h0;rw[i]at h4 o;exact⟨t,h1,q,p,h4,o⟩
section
variable {c : gD} {ds : List Int} {ins : List tN}
theorem gs_load(h:GsOk c ds)(he:(jK c.c (gF c.c ds).1.at_ (gF c.c ds).1.mem (arrL ins)).2≠0):(jK c.c (gF c.c ds).1.at_ (gF c.c ds).1.mem (arrL ins)).2=120:=by
 have a:c.c.bufs.length=c.bufs.list.length:=K3 _;have ha:=h.ha;have hm:=h.hm;unfold jK at he⊢;rw[if_neg (by rw[h.hr];decide),if_neg k9]at he⊢;split
 .rfl
 .rename_i h1;rw[if_neg h1]at he;split
  .rfl
  .rename_i b;rw[if_neg b]at he;exact absurd rfl he
theorem gs_mem(h:GsOk c ds):(jK c.c (gF c.c ds).1.at_ (gF c.c ds).1.mem (arrL ins)).1.length<=2097152:=by
 have a:c.c.bufs.length=c.bufs.list.length:=K3 _;have ha:=h.ha;have hm:=h.hm;unfold jK;rw[if_neg (by rw[h.hr];decide),if_neg k9];split
 .exact P2 _
 .rename_i h1;split
  .exact P2 _
  .rename_i b;have d:=layL_len (at_:=(gF c.c ds).1.at_) (ins:=arrL ins) (mem:=(gF c.c ds).1.mem) (l:=c.c.bufs) (k:=0) (M:=List.replicate (gF c.c ds).1.mem.toNat 0) (by rw[List.length_replicate];omega) (by simpa using b);show(layL _ _ _ _ _).length<=_;omega
end
theorem gs_ends{code:List cA}{T n most:Nat}{s:EmS}(hT:((T:Nat):Int)<=2097152)(hn:n<=1024)(h:nU code (8+(31*((T:Nat):Int)+5*(n:Nat)).toNat) s)(hm:most=min (64*(T+n+1)) 67108864):(emRun code most 0 s).1.end_≠6/\(emRun code most 0 s).2<=64*(T+n+1):=by
 have h1:8+(31*((T:Nat):Int)+5*(n:Nat)).toNat<=most:=k9
 exact⟨run_ends h h1,Nat.le_trans run_most k9⟩
theorem TurnsA_spec(c:gD)(DA:Option Addr)(dcap:Nat)(dims:List Int)(hdl:dims.length<=140737488355328):bZ prog 17 [.agg #[j5 c.vars,j0 c.bufs,j0 c.steps,j0 c.outs],.slice DA dims.length dcap] [] [oJ c,cK.sl (.slice DA dims.length dcap) dims] (λ(x:Int×Bool)=> .tuple #[j5 x.1,.bool x.2]) (λ_=>[]) (λx=>[bE.pure (cY c.c=true->x=((turnsR dims c.c.steps 0).getD 0,(turnsR dims c.c.steps 0).isSome))]):=by
 by_cases hr:cY c.c=true
 .intro S w a b
  exact(Turns19_spec c hr DA dcap dims hdl S w a b).mono λe i ⟨_,f,h1,d,_⟩=>⟨(_,_),f,h1,d,All.cons (λ_=>rfl) λg hg=>by simp at hg⟩
 intro S w a b
 exact(bRi c DA dcap dims hdl S w a b).mono λe i ⟨x,f,h1,d,_⟩=>⟨x,f,h1,d,All.cons (λh=>absurd h hr) λg hg=>by simp at hg⟩
theorem minNS(a b:Nat):(if (b:Int)<(a:Int)then (b:Int)else (a:Int))=((min a b:Nat):Int):=by
 split<;>omega
set_option maxHeartbeats 1000000 in
theorem lawSt_spec(x:CasV)(hdl:x.dims.list.length<=140737488355328):bZ prog 6 [.agg #[j5 x.c.vars,j0 x.c.bufs,j0 x.c.steps,j0 x.c.outs,j0 x.dims,j0 x.ins]] [] [laidF,oJ x.c,cK.sl (j0 x.dims) x.dims.list,arrE.sl (j0 x.ins) x.ins.list,bE.each x.ins.list bRf] (λ(_:Unit)=> .bool true) (λ_=>[]) (λ_=>[]):=by
 have hT:=gcT_ok;refine i7 func6 ntmps6 ?_;intro β hM;refine fS<|bP (bE.cells 0 0 [.int .i64 0,.int .i64 (-1)]) (none_of d7) ?_;refine one ?_;refine i6 λA=>?_;refine g5 ?_;refine f7 func8 shown19_spec .nil ⟨d8,e8⟩ λ_=>?_;refine g9 ?_;refine f7 func9 (bTw x.c x.dims.addr x.dims.cap x.dims.list hdl) .nil ⟨d9,e6,d7,e8⟩ λgx=>?_;refine bCv .head λg=>?_;refine iQ .head ?_;refine bCv .head λq=>?_;refine iQ .head ?_;refine g3 ?_;refine f9 bAz λz=>?_;refine g10 ?_;refine f7 func17 (TurnsA_spec x.c x.dims.addr x.dims.cap x.dims.list hdl) .nil ⟨e7,(Has.of mT5),e8⟩ λr=>?_;refine bM d7 λj=>?_;refine g14 ?_;refine bEw (λd=>?_) λd=>?_
 .refine g8 ?_;exact rs1 () trivial
 refine g3 ?_;have a:=gs_ok d;have f:=j a.hr;obtain⟨t,e,n,m,l,k⟩:=a.ht;obtain⟨T,rfl⟩:=Int.eq_ofNat_of_zero_le n;have i:r.1=(T:Nat):=by rw[f,e];rfl
 have h:r.2=true:=by rw[f,e];rfl
 refine g6 ?_;refine f7 func11 (loadF_spec x.c ⟨⟨gx.1.1,gx.1.2,(gF x.c.c x.dims.list).1.code⟩,(gF x.c.c x.dims.list).1.mem,⟨gx.2.1,gx.2.2,(gF x.c.c x.dims.list).1.at_⟩⟩ x.ins.addr x.ins.cap x.ins.list a.hb) .nil ⟨(Has.of mT5),d8,(Has.of mT7),(Has.of mT8),e8⟩ λu=>?_;refine bCv .head λv=>?_;refine iQ .head ?_;refine g14 ?_;refine bEw (λb=>?_) λb=>?_
 .refine g6 ?_;refine bQ (t':=true) (beq_iff_eq.2 (gs_load a b)) ?_;refine g6 ?_;exact rs1 () trivial
 refine g5 ?_;refine bF (z':=((T:Nat):Int)) i ?_;refine g5 ?_;refine inc (T+x.c.steps.list.length) ?_;refine one ?_;refine inc ((T+x.c.steps.list.length)+1) ?_;refine one ?_;refine inc (64*((T+x.c.steps.list.length)+1)) ?_;refine g10 ?_;refine bF (z':=(((min (64*(T+x.c.steps.list.length+1)) 67108864):Nat):Int)) (minNS (64*(T+x.c.steps.list.length+1)) 67108864) ?_;refine bG func18 (emRun_spec (gF x.c.c x.dims.list).1.code gx.1.1 gx.1.2 (jK x.c.c (gF x.c.c x.dims.list).1.at_ (gF x.c.c x.dims.list).1.mem (arrL x.ins.list)).1 u.1 u.2 (min (64*(T+x.c.steps.list.length+1)) 67108864) a.hl (gs_mem a) k9 a.hN a.hR) rfl rfl .nil ⟨e6,d7,e8⟩ λw=>?_;obtain⟨o,p⟩:=gs_ends (s:=em0 (jK x.c.c (gF x.c.c x.dims.list).1.at_ (gF x.c.c x.dims.list).1.mem (arrL x.ins.list)).1) m l (k _ rfl rfl) rfl;refine g4 ?_;refine f9 xW λy=>?_;refine g10 ?_;refine bQ (t':=true) (h) ?_;refine g4 ?_;refine bQ (t':=true) (rfl) ?_;refine g5 ?_;refine bQ (t':=true) (bne_iff_ne.2 o) ?_;refine g5 ?_;refine bQ (t':=true) (decide_eq_true (Int.ofNat_le.2 p)) ?_;refine g5 ?_;exact rs1 () trivial
end
end Go.Proofs.YtnfiadlonjediaaGreatDoor
