/- Texts of one proof, one behind the other: EmR, GenT, EmT, EmN, LitH, RefEval, QC, GmO, GnI. -/
import Derived.Test.YtnfiadlonjediaaGreatDoorM18
import Derived.Test.YtnfiadlonjediaaGreatDoorM11
import Derived.Test.YtnfiadlonjediaaGreatDoorM13
import Derived.Test.YtnfiadlonjediaaGreatDoorM12
import Derived.Test.YtnfiadlonjediaaGreatDoorM10
import Derived.Test.YtnfiadlonjediaaGreatDoorM14
import Derived.Test.YtnfiadlonjediaaGreatDoorM7
import Derived.Test.YtnfiadlonjediaaGreatDoorM17
import Derived.Test.YtnfiadlonjediaaGreatDoorM15
import Derived.Test.YtnfiadlonjediaaGreatDoorM9
set_option maxRecDepth 100000
namespace Go.Proofs.YtnfiadlonjediaaGreatDoor
open _root_.List renaming getElem_cons_drop->Y2,getD_eq_getElem?_getD->U5,getElem?_eq_getElem->D7,drop_of_length_le->R5,length_map->K3,length_dropLast->eT,length_eq_zero_iff->V4,getLastD_eq_getLast?->eU,getLast?_eq_getElem?->eV,mem_map->K7,drop_zero->L0,mem_cons_self->D5,mem_cons_of_mem->D1,mem_cons->C9,mem_append_right->D8,append_nil->P9,mem_append->D0,mem_singleton->L1,getElem?_eq_some_iff->D9,replicate->T9,replicate_succ->X9
open _root_.Nat renaming add_mul->C5,le_refl->B8,mul_le_mul_right->C8,mul_assoc->eW,zero_le->P2
open _root_.Classical renaming not_not->eS,em->eN
open _root_.Int renaming le_total->eX,min_eq_left->eY,min_eq_right->eZ,mul_le_mul_of_nonneg_left->aI,mul_assoc->aE,mul_nonneg->Y9,natCast_mul->Aa,toNat_of_nonneg->aM
open Lib renaming hid->R1
open _root_.Bool renaming and_false->Ab,false_or->Ac,true_and->Ad,and_eq_true->G1
section
open Go.RowKit Go.Proofs.Tryz
def Pre (s s':GnS):Prop:= ∀L,dG L s'->dG L s
section
variable {s s1 s2 : GnS} {k dst f : Nat} {i : cA} {M : GnM}
theorem Pre.refl:Pre s s:=λ_ h=>h
theorem Pre.trans(h:Pre s s1)(h2:Pre s1 s2):Pre s s2:=λL e=>h L (h2 L e)
theorem gN:Pre s (dL i dst s):=λ_ h=>(lP h).1
theorem yF:Pre s (markG s):=λ_ h=>h
theorem zA:Pre s (hereG k s):=λL h=>by
 unfold hereG at h;split at h
 .exact(lP (oW h rfl)).1
 .exact oW h k9
theorem sB{a n:Int}:Pre s (numG a n s):=by
 unfold numG;split
 .exact gN
 .exact gN.trans gN
theorem vX{fr sp:Int}:Pre s (kT fr k sp s):=by
 unfold kT;split
 .exact .refl
 .exact gN
theorem bAv{fr:Int}{I:Int->GnS->GnS}(hI: ∀a s,Pre s (I a s)):Pre s (jU fr k I s):=by
 unfold jU;split
 .exact hI _ _
 .exact(hI _ _).trans gN
theorem bOj{a z:Int}:Pre s (jS f a z s):=yF.trans (sB.trans (gN.trans (gN.trans zA)))
theorem pre_op{o:OpC}:Pre s (opG M o k s):=by
 have hn: ∀z:Int,∀a s,Pre s (numG a z s):=λz a s=>sB;unfold opG;split
 .exact bAv (hn _)
 .split
  .refine Pre.trans ?_ (bAv (hn _));split
   .exact .refl
   .exact gN
  .split
   .exact bAv λ_ _=>gN
   .split
    .exact vX.trans (gN.trans (bOj.trans (bAv λ_ _=>gN)))
    .split
     .exact vX.trans (bAv λ_ _=>gN)
     .split
      .exact vX.trans (vX.trans (bAv λ_ _=>gN))
      .exact .refl
theorem bEz: ∀{l:List OpC} {k:Nat} {s:GnS},Pre s (opsG M l k s)
 |[],_,_=> .refl
 |_::_,_,_=>pre_op.trans bEz
theorem bNt{fn ix:Int}:Pre s (foldG fn ix s):=yF.trans (yF.trans (gN.trans (gN.trans (gN.trans (zA.trans (gN.trans zA))))))
theorem bAf{ix n:Int}:Pre s (againG ix n dst s):=gN.trans (sB.trans gN)
theorem oD{x:bX}{a:Int}:Pre s (storeG M x a s):=by
 unfold storeG;split
 .exact gN
 .exact bOj.trans (gN.trans gN)
theorem zU: ∀{n k:Nat} {s:GnS},Pre s (zerosG n k s)
 |0,_,_=> .refl
 |_+1,_,_=>sB.trans zU
theorem bEs{o:List Int}{t:Nat}: ∀{n:Nat} {s:GnS},Pre s (endsG o t n s)
 |0,_=> .refl
 |_+1,_=>bAf.trans (sB.trans bEs)
theorem pre_body{x:bX}{lo:List Int}:Pre s (nE M x lo s):=by
 unfold nE;split
 .exact bEz.trans oD
 .split
  .exact bEz.trans (bNt.trans oD)
  .split
   .exact sB.trans oD
   .exact sB.trans (yF.trans (zA.trans (bEz.trans (bNt.trans (bAf.trans oD)))))
theorem pre_step{x:bX}:Pre s (lB M x s):=by
 unfold lB;dsimp only;split
 .exact .refl
 .exact sB.trans (zU.trans (yF.trans (zA.trans (pre_body.trans bEs))))
theorem bSs: ∀{l:List bX} {s:GnS},Pre s (stepsG M l s)
 |[],_=> .refl
 |_::_,_=>pre_step.trans bSs
theorem yJ{a n:Int}:(numG a n s).next=0:=by
 unfold numG;split<;>rfl
theorem bCb: ∀{n k:Nat} {s:GnS},s.next=0->(zerosG n k s).next=0
 |0,_,_,h=>h
 |n+1,k,s,_=>bCb (n:=n) (k:=k+1) (s:=numG ((1+k:Nat):Int) 0 s) yJ
end
def nP:List Int->Nat
 |[]=>1
 |n::r=>n.toNat*nP r
def bFw (o:List Int)(v:Nat->Int):Nat->Nat
 |0=>0
 |k+1=>(o.getD k 0-1-v (k+1)).toNat*nP (o.drop (k+1))+bFw o v k
def em_InV(o:List Int)(v:Nat->Int):Prop:= ∀k,k<o.length->0<=v (k+1)/\v (k+1)<o.getD k 0
theorem bCc{o:List Int}{v v':Nat->Int}: ∀{k:Nat},(∀j,1<=j->j<=k->v' j=v j)->bFw o v' k=bFw o v k
 |0,_=>rfl
 |k+1,h=>by
  rw[bFw,bFw,h (k+1) k9 k9,bCc λj h1 a=>h j h1 k9]
theorem nP_drop{o:List Int}{k:Nat}(h:k<o.length):nP (o.drop k)=(o.getD k 0).toNat*nP (o.drop (k+1)):=by
 rw[<-Y2 h,nP,U5,D7 h];rfl
theorem rem_tel{o:List Int}{v:Nat->Int}(hp: ∀k,k<o.length->1<=o.getD k 0): ∀(d k:Nat),k+d=o.length->(∀j,k<j->j<=o.length->v j=0)->bFw o v o.length+1=nP (o.drop k)+bFw o v k
 |0,k,e,_=>by
  have e:k=o.length:=k9
  rw[R5 k9,e];show _=1+_;omega
 |d+1,k,e,hz=>by
  have h:=rem_tel hp d (k+1) k9 λj h1 a=>hz j k9 a;have hk:=hp k k9;rw[h,nP_drop (k:=k) k9,bFw,hz (k+1) k9 k9];have b:(o.getD k 0).toNat=(o.getD k 0-1-0).toNat+1:=k9
  rw[b,C5];omega
section
variable {L : List PcV} {code : List cA} {m p q k t t' f : Nat} {v : Nat -> Int} {s : GnS} {i : cA}
theorem ru_any(h: ∀v',Ru code m p v' t):Ru code 0 p v t:=λe a b _=>h (λk=>e.regs.getD k 0) e a b λ_ _ _=>rfl
theorem ru_drop(h: ∀z,Ru code (m+1) p (nY v (m+1) z) t):Ru code m p v t:=λe a b c=>h (e.regs.getD (m+1) 0) e a b λk h1 d=>by
 unfold nY;split
 .rename_i e;rw[e]
 .exact c k h1 k9
variable (hk : bGc L code)
include hk
theorem bDp{M:GnM}{x:bX}{a:Int}(hE:dG L (storeG M x a s))(hF:sU L code M.fail)(hS: ∀z∈M.size,0<=z/\z<=1000000)(hA:(bD x.at_ M.dims).2=0->0<=(bD x.at_ M.dims).1)(ha:(m:Int)<a)(hm:m<=4)(ht:8<=t)(hn:Ru code m (storeG M x a s).l.length v t):Ru code m s.l.length v (t+4):=by
 unfold storeG at hE hn;split at hE
 .exact(ru_fail hk hE hF (t:=t+3) k9).2
 .rename_i b;rw[if_neg b]at hn;have h1:(bD x.at_ M.dims).2=0:=eS.1 λe=>b (.inl e);have d:=hA h1
  have c:0<=M.size.getD x.buf.toNat 0/\M.size.getD x.buf.toNat 0<=1000000:=by
   rw[U5]
   cases e:M.size[x.buf.toNat]? with
   |none=>exact⟨l5,l5⟩
   |some z=>exact hS z (f4 e)
  obtain⟨e,h⟩:=sY hk hE nl10 (by show(m:Int)<5;omega) hn;obtain⟨e,h⟩:=sY hk e nl6 ha h;obtain⟨e,h⟩:=bUv hk e hF (by have: ¬M.size.getD x.buf.toNat 0<=(bD x.at_ M.dims).1:=λe=>b (.inr e);unfold w32;omega) k9 k9 h;exact h.le k9
theorem ru_loop{dst:Nat}{n:Int}(hE:dG L (againG (k:Nat) n dst s))(hs:w32 n=n)(h0:dst≠0)(hq:tI L q dst)(hk1:1<=k)(hkm:k<=m)(hm:m<=5)(hv:0<=v k/\v k<=100000)(h:v k+1<n->Ru code m q (nY v k (v k+1)) t)(hn: ¬v k+1<n->Ru code m (againG (k:Nat) n dst s).l.length (nY v k (v k+1)) t):Ru code m s.l.length v (t+3):=by
 obtain⟨b,a⟩:=lP hE;unfold numG at b a;rw[if_pos hs]at b a;obtain⟨e,c⟩:=lP b;obtain⟨f,d⟩:=lP e;rw[iW,iW]at a;rw[iW]at c
 have hl:(againG (k:Nat) n dst s).l.length=s.l.length+3:=by
  unfold againG pL numG;rw[if_pos hs,iW,iW,iW]
 rw[hl]at hn;exact ru_again hk d c a h0 hq hk1 hkm hm hv (by rw[hs];exact h) (by rw[hs];exact hn)
theorem ru_zero(hE:dG L (numG (k:Nat) 0 s))(hk16:k<16)(hn:Ru code m (numG (k:Nat) 0 s).l.length (nY v k 0) t):Ru code m s.l.length v (t+1):=by
 have h0:w32 0=0:=l5
 unfold numG at hE hn;rw[if_pos h0]at hE hn;obtain⟨_,a⟩:=lP hE;rw[iW]at hn;exact ru_const hk a hk16 hn
theorem ru_zeros: ∀{n k:Nat} {s:GnS} {v:Nat->Int},dG L (zerosG n k s)->k+n<=15->Ru code m (zerosG n k s).l.length (λj=>if j<=k then v j else if j<=k+n then 0 else v j) t->Ru code m s.l.length v (t+n)
 |0,k,s,v,_,_,hn=>hn.congr λj _ _=>by
  split
  .rfl
  .rename_i c;rw[if_neg k9]
 |n+1,k,s,v,hE,hb,hn=>by
  have h:=ru_zeros (n:=n) (k:=k+1) (s:=numG ((1+k:Nat):Int) 0 s) (v:=nY v (1+k) 0) hE k9 (hn.congr λj _ _=>by
   unfold nY
   by_cases h1:j<=k
   .rw[if_pos k9,if_neg k9,if_pos h1]
   .by_cases b:j=1+k
    .rw[if_pos k9,if_pos b,if_neg h1,if_pos k9]
    .rw[if_neg k9,if_neg h1]
     by_cases a:j<=k+1+n
     .rw[if_pos a,if_pos k9]
     .rw[if_neg a,if_neg b,if_neg k9])
  exact(ru_zero hk (zU _ hE) k9 h).le k9
theorem ru_ends{o:List Int}{tp R:Nat}(hp: ∀k,k<o.length->1<=o.getD k 0/\o.getD k 0<=65536)(ho:o.length<=4)(h0:tp≠0)(hq:tI L q tp)(hnext: ∀v,em_InV o v->bFw o v o.length+1<=R->Ru code o.length q v t): ∀{k:Nat} {s:GnS} {v:Nat->Int},k<=o.length->dG L (endsG o tp k s)->em_InV o v->(∀j,k<j->j<=o.length->v j=0)->bFw o v k<=R->(∀v,Ru code o.length (endsG o tp k s).l.length v t)->Ru code o.length s.l.length v (t+4*k)
 |0,s,v,_,_,_,_,_,hend=>hend v
 |k+1,s,v,hko,hE,hv,hz,hR,hend=>by
  have m:=hp k k9;have g:=hv k k9
  have f: ∀z,0<=z->z<o.getD k 0->em_InV o (nY v (k+1) z):=λz h1 b j n=>by
   unfold nY;split
   .rename_i e;have e:j=k:=k9
    subst e;exact⟨h1,b⟩
   .exact hv j n
  have d:dG L (numG ((1+k:Nat):Int) 0 (againG ((1+k:Nat):Int) (o.getD k 0) tp s)):=bEs _ hE;have a:1+k=k+1:=Nat.add_comm ..
  have c:=ru_ends hp ho h0 hq hnext (k:=k) (v:=nY v (k+1) 0) k9 hE (f 0 l5 k9) (λj h1 b=>by
   unfold nY;split
   .rfl
   .exact hz j k9 b) (by
   rw[bCc (v:=v) λj h1 b=>by unfold nY;rw[if_neg k9]];rw[bFw]at hR
   omega) hend
  have h1:Ru code o.length (againG ((1+k:Nat):Int) (o.getD k 0) tp s).l.length (nY v (k+1) (v (k+1)+1)) (t+4*k+1):=by
   refine ru_zero hk d k9 (c.congr λj h1 b=>?_);rw[a];unfold nY;split
   .rfl
   .rfl
  rw[a]at h1 d
  have b:=ru_loop (k:=k+1) (v:=v) (t:=t+4*k+1) hk (sB _ d) (by unfold w32;omega) h0 hq k9 hko k9 ⟨g.1,k9⟩ (λhlt=>by
   refine(hnext _ (f _ k9 hlt) ?_).le k9
   have i:=rem_tel (v:=nY v (k+1) (v (k+1)+1)) (λk h=>(hp k h).1) (o.length-(k+1)) (k+1) k9 λj h1 b=>by
    unfold nY;rw[if_neg k9];exact hz j h1 b
   rw[i,bFw];have ev:nY v (k+1) (v (k+1)+1) (k+1)=v (k+1)+1:=if_pos rfl;rw[ev,bCc (v:=v) λj h1 b=>by unfold nY;rw[if_neg k9]];rw[bFw]at hR;have p:(o.getD k 0-1-v (k+1)).toNat=(o.getD k 0-1-(v (k+1)+1)).toNat+1:=k9
   rw[p,C5]at hR
   omega) (λ_=>h1)
  exact b.le k9
theorem bUp{o:List Int}{tp B:Nat}{s:GnS}(hp: ∀k,k<o.length->1<=o.getD k 0/\o.getD k 0<=65536)(ho:o.length<=4)(h0:tp≠0)(hq:tI L q tp)(hE:dG L (endsG o tp o.length s))(ht:8<=t)(hbody: ∀v t,8<=t->Ru code o.length s.l.length v t->Ru code o.length q v (t+B))(hend: ∀v,Ru code o.length (endsG o tp o.length s).l.length v t): ∀(R:Nat) (v:Nat->Int),em_InV o v->bFw o v o.length+1<=R->Ru code o.length q v ((B+4*o.length)*R+t)
 |0,_,_,h=>by omega
 |R+1,v,a,h=>by
  have h1:=ru_ends (R:=R) (t:=(B+4*o.length)*R+t) hk hp ho h0 hq (λv a h=>bUp hp ho h0 hq hE ht hbody hend R v a h) (k:=o.length) (v:=v) (B8 _) hE a (λj h1 b=>by omega) k9 λv=>(hend v).le k9;refine(hbody v _ k9 h1).le ?_;rw[Nat.mul_succ];omega
theorem ru_inner{M:GnM}{fn n:Int}{ops:List OpC}{tp:Nat}{s:GnS}(hF:sU L code M.fail)(hS: ∀z∈M.size,0<=z/\z<=1000000)(hfn: ∀o∈ops,o.how=5\/o.how=6->1<=o.fn/\o.fn<=17)(hf:1<=fn/\fn<=17)(hm:m<=4)(hn1:n<=65536)(h0:tp≠0)(hq:tI L s.l.length tp)(hE:dG L (againG ((m+1:Nat):Int) n tp (foldG fn ((m+1:Nat):Int) (opsG M ops 0 s))))(ht:8<=t)
  (hend:Ru code m (againG ((m+1:Nat):Int) n tp (foldG fn ((m+1:Nat):Int) (opsG M ops 0 s))).l.length v t): ∀(R:Nat) (z:Int),0<=z->z<n->(n-z).toNat<=R->Ru code (m+1) s.l.length (nY v (m+1) z) ((6*ops.length+6)*R+t)
 |0,z,h1,a,h3=>by omega
 |R+1,z,h1,a,h3=>by
  have ev:nY v (m+1) z (m+1)=z:=if_pos rfl
  have b: ∀y,nY (nY v (m+1) z) (m+1) y=nY v (m+1) y:=λy=>by
   funext j
   unfold nY;split<;>rfl
  have h4:=ru_loop (k:=m+1) (m:=m+1) (v:=nY v (m+1) z) (t:=(6*ops.length+6)*R+t) hk hE (by unfold w32;omega) h0 hq k9 (B8 _) k9 (by rw[ev];omega) (λhlt=>by
   rw[ev]at hlt⊢;rw[b]
   exact ru_inner hF hS hfn hf hm hn1 h0 hq hE ht hend R (z+1) k9 hlt k9) (λ_=>by
   rw[b];refine Ru.le (t:=t) (Ru.less (m:=m) (hend.congr λj h1 a=>?_) k9) k9;unfold nY
   rw[if_neg k9])
  obtain⟨e,d⟩:=ru_fold hk (bAf _ hE) hf k9 h4;obtain⟨_,c⟩:=ru_ops hk hF hS (m:=m+1) k9 hfn k9 e d;refine c.le ?_;rw[Nat.mul_succ];omega
end
structure wV (M:GnM) (x:bX):Prop where
 how:x.how=1\/x.how=2\/x.how=3
 fn:x.how≠1->1<=x.fn/\x.fn<=17
 ops: ∀o∈x.ops,o.how=5\/o.how=6->1<=o.fn/\o.fn<=17
 some:1<=x.ops.length
 loops:x.loops.length<=4
 ne:x.how=2->x.loops≠[]
 at_:(bD x.at_ M.dims).2=0->0<=(bD x.at_ M.dims).1
 lo: ∀p∈x.loops,0<=(bD p M.dims).1/\(bD p M.dims).1<=65536
def loV (M:GnM)(x:bX):List Int:=x.loops.map λp=>(bD p M.dims).1
def vD (x:bX)(lo:List Int):Nat:=if x.how=1 then 6*x.ops.length+4 else if x.how=3 then 6*x.ops.length+7 else if lo.getLastD 0=0 then 6 else (6*x.ops.length+6)*(lo.getLastD 0).toNat+5
section
variable {L : List PcV} {code : List cA} {t : Nat} {v : Nat -> Int} {s : GnS} {M : GnM} {x : bX}
variable (hk : bGc L code)
include hk
theorem ru_body(hx:wV M x)(hF:sU L code M.fail)(hS: ∀z∈M.size,0<=z/\z<=1000000)(hE:dG L (nE M x (loV M x) s))(ht:8<=t)(hn:Ru code (fX x (loV M x)).length (nE M x (loV M x) s).l.length v t):Ru code (fX x (loV M x)).length s.l.length v (t+vD x (loV M x)):=by
 have k:(loV M x).length=x.loops.length:=K3 _
 have a:(fX x (loV M x)).length<=4:=by
  unfold fX;have:=hx.loops;split
  .rw[eT];omega
  .omega
 generalize r:(fX x (loV M x)).length=m at hn a⊢;unfold nE at hE hn;unfold vD;split
 .rename_i h1;rw[if_pos h1]at hE hn;have c:=bDp hk hE hF hS hx.at_ k9 a ht hn;exact(ru_ops hk hF hS k9 hx.ops k9 (oD _ hE) c).2.le k9
 .rename_i h1;rw[if_neg h1]at hE hn;split
  .rename_i o;rw[if_pos o]at hE hn;have c:=bDp hk hE hF hS hx.at_ k9 a ht hn;obtain⟨e,h⟩:=ru_fold hk (oD _ hE) (hx.fn h1) k9 c;exact(ru_ops hk hF hS k9 hx.ops k9 e h).2.le k9
  .rename_i o;have c:x.how=2:=by rcases hx.how with h|h|h<;>omega
   rw[if_neg o]at hE hn;split
   .rename_i h4;rw[if_pos h4]at hE hn;have n:=bDp hk hE hF hS hx.at_ k9 a ht hn;exact(ru_num hk (oD _ hE) k9 n).2.le k9
   .rename_i h4;rw[if_neg h4]at hE hn;dsimp only at hE hn;have i:=hx.ne c
    have d:(loV M x).length=m+1:=by
     rw[<-r];unfold fX;rw[if_pos c,eT,k];have:x.loops.length≠0:=λe=>i (V4.1 e);omega
    rw[d]at hE hn;rw[bPo (s:=markG _) yJ]at hE hn;have n:=bDp hk hE hF hS hx.at_ k9 a ht hn;have g:=oD _ hE;have f:=bEz _ (bNt _ (bAf _ g));have hM:=f.2 (by show(numG _ _ _).marks+1≠0;omega)
    have b:0<=(loV M x).getLastD 0/\(loV M x).getLastD 0<=65536:=by
     rw[eU,eV]
     cases e:(loV M x)[(loV M x).length-1]? with
     |none=>exact⟨l5,l5⟩
     |some z=>
      obtain⟨p,q,rfl⟩:=K7.1 (f4 e);exact hx.lo p q
    have u:=ru_inner (t:=t+4) hk hF hS hx.ops (hx.fn h1) k9 b.2 (by show(numG _ _ _).marks+1≠0;omega) hM g k9 n (((loV M x).getLastD 0).toNat) 0 l5 k9 k9;refine Ru.le (t:=(6*x.ops.length+6)*((loV M x).getLastD 0).toNat+(t+4)+1) (ru_drop λz=>?_) k9;refine ru_zero hk (oW f yJ) k9 (u.congr λj h1 c=>?_);unfold nY;split<;>rfl
theorem ru_step(hx:wV M x)(hF:sU L code M.fail)(hS: ∀z∈M.size,0<=z/\z<=1000000)(hE:dG L (lB M x s))(ht:8<=t)(hn:Ru code 0 (lB M x s).l.length v t):Ru code 0 s.l.length v (t+(if (fX x (loV M x)).contains 0=true then 0 else (vD x (loV M x)+16)*nP (fX x (loV M x))+5)):=by
 have w:(loV M x).length=x.loops.length:=K3 _
 have c: ∀z∈fX x (loV M x),z∈loV M x:=λz hz=>by
  unfold fX at hz;split at hz
  .exact List.dropLast_subset _ hz
  .exact hz
 have f:(fX x (loV M x)).length<=4:=by
  unfold fX;have:=hx.loops;split
  .rw[eT];omega
  .omega
 unfold lB at hE hn;dsimp only at hE hn;have q:(x.loops.map λp=>(bD p M.dims).1)=loV M x:=rfl;rw[q]at hE hn;split
 .rename_i h0;rw[if_pos h0]at hn;exact hn
 .rename_i h0;rw[if_neg h0]at hE hn;generalize ho:fX x (loV M x)=o at hE hn f c h0⊢
  have d: ∀k,k<o.length->1<=o.getD k 0/\o.getD k 0<=65536:=λk hk=>by
   have hz:o[k]∈o:=List.getElem_mem hk;have e:o.getD k 0=o[k]:=by rw[U5,D7 hk];rfl
   obtain⟨p,d,u⟩:=K7.1 (c _ hz);have h1:=hx.lo p d;rw[e];have r:o[k]≠0:=λe=>h0 (by rw[<-e];simp);omega
  rw[bPo (s:=markG _) (bCb yJ)]at hE hn;generalize n:(markG (zerosG o.length 0 (numG 5 0 s))).marks=tp at hE hn
  have b:tp≠0:=by
   rw[<-n];show(zerosG o.length 0 (numG 5 0 s)).marks+1≠0;omega
  have m:=bEs _ hE;have i:=pre_body _ m;have hM:=i.2 b;have g:dG L (zerosG o.length 0 (numG 5 0 s)):=oW i (bCb yJ)
  have a:=bUp (B:=vD x (loV M x)) (t:=t) hk d f b hM hE ht (λv t ht hn=>by
   have:=ru_body (s:=xZ tp (markG (zerosG o.length 0 (numG 5 0 s)))) (t:=t) (v:=v) hk hx hF hS m ht (by rw[ho];exact hn);rw[ho]at this
   exact this) (λv'=>(hn.congr (v':=v') λk h1 r=>by omega).less k9) (nP o)
  have hz: ∀v',Ru code o.length s.l.length v' ((vD x (loV M x)+4*o.length)*nP o+t+o.length+1):=λv'=>by
   refine(ru_num1 hk (zU _ g) l5 k9 (ru_zeros hk g k9 (Ru.congr (v:=λ_=>0) (a (λ_=>0) (λk hk=>⟨Int.le_refl _,by have:=d k hk;show(0:Int)<_;omega⟩) ?_) λj h1 r=>?_))).2
   .have:=rem_tel (v:=λ_=>0) (λk h=>(d k h).1) o.length 0 k9 λ_ _ _=>rfl;rw[this];show nP (o.drop 0)+0<=_;rw[L0];omega
   .rw[if_neg k9,if_pos k9]
  refine(ru_any hz).le ?_;have:(vD x (loV M x)+4*o.length)*nP o<=(vD x (loV M x)+16)*nP o:=C8 _ k9;omega
end
def nI (fold:Bool)(ds:List Int)(p:List Mono)(r:List (List Mono)):Int:=if fold=true/\r=[]then (bD p ds).1+1 else (bD p ds).1
def turnR (fold:Bool)(ds:List Int):List (List Mono)->Int->Bool->Option (Int×Bool)
 |[],n,z=>some (n,z)
 |p::r,n,z=>if (bD p ds).2≠0\/65536<(bD p ds).1 then none
  else turnR fold ds r (min (n*nI fold ds p r) 2097153) (z || (nI fold ds p r==0))
def turnsR(ds:List Int):List bX->Int->Option Int
 |[],a=>some a
 |x::r,a=>match turnR (x.how==2) ds x.loops 1 false with
  |none=>none
  |some (n,z)=>turnsR ds r (if z=true then a else min (a+n*(x.ops.length:Nat)) 2097153)
theorem sat_mul{A T V:Int}(hV:1<=V)(hA:0<=A):min (min T A*V) A=min (T*V) A:=by
 rcases eX T A with h|h
 .rw[eY h]
 .rw[eZ h];have h1:A*1<=A*V:=aI hV hA;have a:A*V<=T*V:=Int.mul_le_mul_of_nonneg_right h k9;omega
def RelT (k n m:Int)(z:Bool):Prop:=(z=true/\n=0)\/(z=false/\ ∃T,1<=T/\n=min (k*T) 4194304/\m=min T 2097153)
theorem relT_go{k n m v:Int}{z:Bool}(h:RelT k n m z)(hv:0<=v):RelT k (if v=0 then 0 else min (n*v) 4194304) (min (m*v) 2097153) (z || (v==0)):=by
 rcases eN (v=0)with h0|h0
 .left;exact⟨by rw[h0];simp,if_pos h0⟩
 .rw[if_neg h0]
  rcases h with ⟨rfl,rfl⟩|⟨rfl,T,hT,rfl,rfl⟩
  .left;exact⟨rfl,by rw[Int.zero_mul];rfl⟩
  .right;refine⟨by simpa using h0,T*v,?_,?_,?_⟩
   .have:=Int.mul_le_mul hT (show 1<=v by omega) k9 k9;omega
   .rw[sat_mul k9 k9,aE]
   .rw[sat_mul k9 k9]
theorem bSh{fold:Bool}{ds:List Int}{k:Int}(hk:1<=k): ∀{l:List (List Mono)} {n m:Int} {z:Bool},(∀p∈l,(bD p ds).2=0->0<=(bD p ds).1)->RelT k n m z->(turnG fold ds l n=none/\turnR fold ds l m z=none)\/ ∃n' m' z',turnG fold ds l n=some n'/\turnR fold ds l m z=some (m',z')/\RelT k n' m' z'
 |[],n,m,z,_,h=> .inr ⟨n,m,z,rfl,rfl,h⟩
 |p::r,n,m,z,hp,h=>by
  unfold turnG turnR
  rcases eN ((bD p ds).2≠0\/65536<(bD p ds).1)with hb|hb
  .rw[if_pos hb,if_pos hb];exact .inl ⟨rfl,rfl⟩
  .rw[if_neg hb,if_neg hb];have b:(bD p ds).2=0:=eS.1 λe=>hb (.inl e);have c:=hp p (D5 ..) b;have a:0<=nI fold ds p r:=by unfold nI;split<;>omega
   exact bSh hk (λq hq=>hp q (D1 _ hq)) (relT_go h a)
theorem bHx{fold:Bool}{ds:List Int}: ∀{l:List (List Mono)} {n:Int} {z:Bool} {n':Int} {z':Bool},(∀p∈l,(bD p ds).2=0->0<=(bD p ds).1)->0<=n->turnR fold ds l n z=some (n',z')->0<=n'
 |[],n,z,n',z',_,h0,h=>by cases h;exact h0
 |p::r,n,z,n',z',hp,h0,h=>by
  unfold turnR at h;split at h
  .cases h
  .rename_i hb;have b:(bD p ds).2=0:=eS.1 λe=>hb (.inl e);have c:=hp p (D5 ..) b;have a:0<=nI fold ds p r:=by unfold nI;split<;>omega
   have:=Y9 h0 a;exact bHx (λq hq=>hp q (D1 _ hq)) k9 h
def bCz (ds:List Int)(l:List bX):Prop:= ∀x∈l,(∀p∈x.loops,(bD p ds).2=0->0<=(bD p ds).1)/\1<=x.ops.length/\x.ops.length<=1000
theorem zQ{ds:List Int}: ∀{l:List bX} {a t:Int},bCz ds l->2097153<=a->turnsR ds l a=some t->2097153<=t
 |[],a,t,_,ha,h=>by cases h;exact ha
 |x::r,a,t,hs,ha,h=>by
  unfold turnsR at h;split at h
  .cases h
  .rename_i n z hn;have h1:=hs x (D5 ..);have hn0:=bHx h1.1 l5 hn;have:0<=n*((x.ops.length:Nat):Int):=Y9 hn0 k9;refine zQ (λy b=>hs y (D1 _ b)) ?_ h;split<;>omega
theorem wI{ds:List Int}: ∀{l:List bX} {a:Int},bCz ds l->0<=a->a<=2097152->(turnsG ds l a=true↔ ∃t,turnsR ds l a=some t/\t<=2097152)
 |[],a,_,h0,h1=>⟨λ_=>⟨a,rfl,h1⟩,λ_=>rfl⟩
 |x::r,a,hs,h0,h1=>by
  have hx:=hs x (D5 ..);have hr:bCz ds r:=λy j=>hs y (D1 _ j);have hk:(1:Int)<=((x.ops.length:Nat):Int):=k9
  have d:((x.ops.length:Nat):Int)<=1000:=k9
  have b:RelT ((x.ops.length:Nat):Int) ((x.ops.length:Nat):Int) 1 false:= .inr ⟨rfl,1,l5,k9,rfl⟩;unfold turnsG turnsR;generalize m:((x.ops.length:Nat):Int)=k at hk d b
  rcases bSh (fold:=x.how==2) hk hx.1 b with ⟨i,g⟩|⟨s,u,q,i,g,p⟩
  .rw[i,g];exact⟨λh=>(by cases h),λ⟨t,h,_⟩=>(by cases h)⟩
  .rw[i,g];dsimp only
   rcases p with ⟨rfl,rfl⟩|⟨rfl,T,hT,rfl,rfl⟩
   .rw[if_neg k9,if_pos rfl,Int.add_zero];exact wI hr h0 h1
   .rw[if_neg (by decide: ¬(false=true))];have n:T*1<=T*k:=aI hk k9;have e:k*T=T*k:=Int.mul_comm ..
    rcases eX (a+T*k) 2097152 with c|c
    .have f:min T 2097153=T:=k9
     rw[f,e,if_neg k9,show min (T*k) 4194304=T*k by omega,show min (a+T*k) 2097153=a+T*k by omega];exact wI hr k9 c
    .rcases eN (a+T*k=2097152)with o|o
     .have f:min T 2097153=T:=k9
      rw[f,e,if_neg k9,show min (T*k) 4194304=T*k by omega,show min (a+T*k) 2097153=a+T*k by omega];exact wI hr k9 k9
     .rw[e,if_pos k9];refine⟨λh=>(by cases h),λ⟨t,h,ht⟩=>?_⟩
      have v:2097153<=a+min T 2097153*k:=by
       rcases eX T 2097153 with hq|hq
       .rw[eY hq];omega
       .rw[eZ hq];have:(2097153:Int)*1<=2097153*k:=aI hk k9;omega
      have:=zQ hr (show(2097153:Int)<=min (a+min T 2097153*k) 2097153 by omega) h;omega
def zG (fold:Bool)(ds:List Int):List (List Mono)->Int
 |[]=>1
 |p::r=>nI fold ds p r*zG fold ds r
theorem bMq{fold:Bool}{ds:List Int}: ∀{l:List (List Mono)} {n n':Int} {z':Bool},turnR fold ds l n true=some (n',z')->z'=true
 |[],_,_,_,h=>by cases h;rfl
 |p::r,n,n',z',h=>by
  unfold turnR at h;split at h
  .cases h
  .rw[Bool.true_or]at h;exact bMq h
theorem yC{fold:Bool}{ds:List Int}: ∀{l:List (List Mono)} {T:Int} {z:Bool} {n':Int} {z':Bool},(∀p∈l,(bD p ds).2=0->0<=(bD p ds).1)->0<=T->turnR fold ds l (min T 2097153) z=some (n',z')->
  (∀p∈l,0<=(bD p ds).1/\(bD p ds).1<=65536)/\(z'=false->n'=min (T*zG fold ds l) 2097153/\0<=zG fold ds l)/\(z'=true->z=true\/ ∃p r,(∃a,l=a++p::r)/\nI fold ds p r=0)
 |[],T,z,n',z',_,_,h=>by
  cases h;exact⟨λp c=>(by cases c),λ_=>⟨by rw[zG,Int.mul_one],by show(0:Int)<=1;decide⟩,λh=> .inl h⟩
 |p::r,T,z,n',z',c,hT,h=>by
  unfold turnR at h;split at h
  .cases h
  .rename_i hb;have n:(bD p ds).2=0:=eS.1 λe=>hb (.inl e);have m:=c p (D5 ..) n;have h4:(bD p ds).1<=65536:=Int.not_lt.1 λe=>hb (.inr e);have g:0<=nI fold ds p r:=by unfold nI;split<;>omega
   have d: ∀(h: ∀q∈r,0<=(bD q ds).1/\(bD q ds).1<=65536),∀q∈p::r,0<=(bD q ds).1/\(bD q ds).1<=65536:=λh q hq=>by
    rcases C9.1 hq with rfl|hq
    .exact⟨m,h4⟩
    .exact h q hq
   rcases eN (nI fold ds p r=0)with h0|h0
   .rw[h0,Int.mul_zero]at h;have f:=yC (T:=0) (λq hq=>c q (D1 _ hq)) l5 (show turnR fold ds r (min 0 2097153) _=_ from h);refine⟨d f.1,λe=>?_,λ_=> .inr ⟨p,r,⟨[],rfl⟩,h0⟩⟩
    exfalso
    have:(z || (0==(0:Int)))=true:=by simp
    rw[this]at h;exact absurd (bMq h) (by rw[e];decide)
   .rw[sat_mul k9 l5]at h;have f:=yC (T:=T*nI fold ds p r) (λq hq=>c q (D1 _ hq)) (Y9 hT g) h;refine⟨d f.1,λe=>?_,λe=>?_⟩
    .obtain⟨b,k⟩:=f.2.1 e;rw[zG,<-aE];exact⟨b,Y9 g k⟩
    .rcases f.2.2 e with b|⟨q,i,⟨a,j⟩,b⟩
     .have:(nI fold ds p r==0)=false:=by simpa using h0
      rw[this,Bool.or_false]at b;exact .inl b
     .exact .inr ⟨q,i,⟨p::a,by rw[j];rfl⟩,b⟩
theorem bIg{ds:List Int}: ∀{l:List (List Mono)},(∀p∈l,0<=(bD p ds).1)->zG false ds l=(nP (l.map λp=>(bD p ds).1):Nat)
 |[],_=>rfl
 |p::r,h=>by
  have a:=h p (D5 ..);rw[zG,List.map_cons,nP,bIg λq hq=>h q (D1 _ hq)];unfold nI;rw[if_neg (by rintro⟨h,_⟩;cases h),Aa,aM a]
theorem bHo{ds:List Int}: ∀{l:List (List Mono)},l≠[]->(∀p∈l,0<=(bD p ds).1)->zG true ds l=(nP (l.map λp=>(bD p ds).1).dropLast:Nat)*((l.map λp=>(bD p ds).1).getLastD 0+1)
 |[],h,_=>absurd rfl h
 |[p],_,h=>by
  show nI true ds p []*1=(1:Int)*((bD p ds).1+1);unfold nI;rw[if_pos ⟨rfl,rfl⟩,Int.mul_one,Int.one_mul]
 |p::q::r,_,h=>by
  have b:=h p (D5 ..);have a:=bHo (l:=q::r) n4 λq hq=>h q (D1 _ hq);rw[zG,a];unfold nI;rw[if_neg (by rintro⟨_,h⟩;cases h)];have d:((p::q::r).map λp=>(bD p ds).1).dropLast=(bD p ds).1::((q::r).map λp=>(bD p ds).1).dropLast:=rfl
  have c:((p::q::r).map λp=>(bD p ds).1).getLastD 0=((q::r).map λp=>(bD p ds).1).getLastD 0:=by
   rw[eU,eU];rfl
  rw[d,c,nP,Aa,aM b,aE]
def costX (M:GnM)(x:bX):Nat:=if (fX x (loV M x)).contains 0=true then 0 else (vD x (loV M x)+16)*nP (fX x (loV M x))+5
theorem cost_mul{c q P T:Nat}(h:c<=31*q)(hT:P*q<=T):c*P<=31*T:=by
 have h1:c*P<=(31*q)*P:=C8 _ h;have a:(31*q)*P=31*(P*q):=by rw[eW,Nat.mul_comm q P]
 omega
theorem cost_fold{q n:Nat}(hq:1<=q)(hn:1<=n):((6*q+6)*n+5+16)<=31*(q*(n+1)):=by
 have h1:n<=q*n:=Nat.le_mul_of_pos_left _ hq;have a:(6*q+6)*n=6*(q*n)+6*n:=by rw[C5,eW]
 rw[a,Nat.mul_add];omega
theorem cost_turn{M:GnM}{x:bX}(hx:wV M x){P:Int}(hP:zG (x.how==2) M.dims x.loops=P):((costX M x:Nat):Int)<=31*(P*(x.ops.length:Nat))+5:=by
 have h0: ∀p∈x.loops,0<=(bD p M.dims).1:=λp c=>(hx.lo p c).1;have hq:=hx.some;unfold costX;split
 .have:0<=P:=by
   rw[<-hP]
   rcases eN (x.how=2)with a|a
   .rw[show(x.how==2)=true by simpa using a,bHo (hx.ne a) h0];refine Y9 k9 ?_;rw[eU,eV]
    cases e:(x.loops.map λp=>(bD p M.dims).1)[(x.loops.map λp=>(bD p M.dims).1).length-1]? with
    |none=>decide
    |some z=>
     obtain⟨p,c,rfl⟩:=K7.1 (f4 e);have:=h0 p c;show 0<=(bD p M.dims).1+1;omega
   .rw[show(x.how==2)=false by simpa using a,bIg h0];omega
  have:0<=P*(x.ops.length:Nat):=Y9 this k9;show(0:Int)<=_;omega
 .have key:((vD x (loV M x)+16)*nP (fX x (loV M x)):Nat)<=31*(P*(x.ops.length:Nat)):=by
   rcases eN (x.how=2)with a|a
   .rw[show(x.how==2)=true by simpa using a,bHo (hx.ne a) h0]at hP
    have b:0<=(loV M x).getLastD 0:=by
     rw[eU,eV]
     cases e:(loV M x)[(loV M x).length-1]? with
     |none=>decide
     |some z=>
      obtain⟨p,c,rfl⟩:=K7.1 (f4 e);exact h0 p c
    have ho:fX x (loV M x)=(loV M x).dropLast:=by unfold fX;rw[if_pos a]
    rw[ho];have hP:(nP (loV M x).dropLast:Nat)*((loV M x).getLastD 0+1)=P:=hP
    obtain⟨n,hn⟩: ∃n:Nat,(loV M x).getLastD 0=n:=⟨_,(aM b).symm⟩
    have hb:vD x (loV M x)+16<=31*(x.ops.length*(n+1)):=by
     unfold vD;rw[if_neg k9,if_neg k9,hn];split
     .rename_i hz;have:n=0:=k9
      subst this;omega
     .rename_i hz;exact cost_fold hq k9
    have d:=cost_mul (P:=nP (loV M x).dropLast) (T:=nP (loV M x).dropLast*(n+1)*x.ops.length) hb (by rw[eW,Nat.mul_comm x.ops.length];exact B8 _);rw[hn]at hP;rw[<-hP]
    have e:((nP (loV M x).dropLast:Nat):Int)*((n:Nat)+1)*(x.ops.length:Nat)=((nP (loV M x).dropLast*(n+1)*x.ops.length:Nat):Int):=by
     rw[Aa,Aa];rfl
    rw[e];omega
   .rw[show(x.how==2)=false by simpa using a,bIg h0]at hP;have ho:fX x (loV M x)=loV M x:=by unfold fX;rw[if_neg a]
    rw[ho,<-hP]
    have hb:vD x (loV M x)+16<=31*x.ops.length:=by
     unfold vD
     rcases hx.how with h|h|h
     .rw[if_pos h];omega
     .exact absurd h a
     .rw[if_neg k9,if_pos h];omega
    have d:=cost_mul (P:=nP (loV M x)) (T:=nP (loV M x)*x.ops.length) hb (B8 _);have e:((nP (loV M x):Nat):Int)*(x.ops.length:Nat)=((nP (loV M x)*x.ops.length:Nat):Int):=by rw[Aa]
    show _<=31*(((nP (loV M x):Nat):Int)*(x.ops.length:Nat));rw[e];omega
  omega
def costsX(M:GnM):List bX->Nat
 |[]=>0
 |x::r=>costX M x+costsX M r
theorem zero_outer{M:GnM}{x:bX}{p:List Mono}{r a:List (List Mono)}(hl:x.loops=a++p::r)(h0:0<=(bD p M.dims).1)(h:nI (x.how==2) M.dims p r=0):(fX x (loV M x)).contains 0=true:=by
 have b:(0:Int)∈fX x (loV M x):=by
  unfold nI at h;unfold fX loV;rw[hl,List.map_append,List.map_cons];split at h
  .omega
  .rename_i c;split
   .rename_i d;have hr:r≠[]:=λe=>c ⟨by simpa using d,e⟩;rw[List.dropLast_append_of_ne_nil n4];refine D8 _ ?_
    cases r with
    |nil=>exact absurd rfl hr
    |cons q r=>
     show(0:Int)∈(bD p M.dims).1::_;rw[h];exact D5 ..
   .refine D8 _ ?_;rw[h];exact D5 ..
 simpa using b
structure StepOk0 (M:GnM) (x:bX):Prop where
 how:x.how=1\/x.how=2\/x.how=3
 fn:x.how≠1->1<=x.fn/\x.fn<=17
 ops: ∀o∈x.ops,o.how=5\/o.how=6->1<=o.fn/\o.fn<=17
 some:1<=x.ops.length
 loops:x.loops.length<=4
 ne:x.how=2->x.loops≠[]
 at_:(bD x.at_ M.dims).2=0->0<=(bD x.at_ M.dims).1
theorem yO{M:GnM}: ∀{l:List bX} {a t:Int},bCz M.dims l->(∀x∈l,StepOk0 M x)->0<=a->turnsR M.dims l a=some t->t<=2097152->(∀x∈l,wV M x)/\((costsX M l:Nat):Int)<=31*(t-a)+5*(l.length:Nat)
 |[],a,t,_,_,_,h,_=>by
  cases h;exact⟨λx hx=>(by cases hx),by show(0:Int)<=_;simp⟩
 |x::r,a,t,hs,hok,h0,h,ht=>by
  have hx:=hs x (D5 ..);have hr:bCz M.dims r:=λy f=>hs y (D1 _ f);have d: ∀y∈r,StepOk0 M y:=λy f=>hok y (D1 _ f);have c:=hok x (D5 ..);unfold turnsR at h;split at h
  .cases h
  .rename_i n z hn;obtain⟨h1,w,q⟩:=yC (T:=1) hx.1 l5 (show turnR _ _ _ (min 1 2097153) _=_ from hn)
   have j:wV M x:=⟨c.how,c.fn,c.ops,c.some,c.loops,c.ne,c.at_,h1⟩
   have e: ∀{l':Prop} (_:(∀y∈r,wV M y)/\l'),∀y∈x::r,wV M y:=λh y f=>by
    rcases C9.1 f with rfl|f
    .exact j
    .exact h.1 y f
   have i:(((x::r).length:Nat):Int)=(r.length:Nat)+1:=by rw[List.length_cons];rfl
   rw[i];have o:((costsX M (x::r):Nat):Int)=(costX M x:Nat)+(costsX M r:Nat):=by rw[costsX,Int.natCast_add]
   rw[o]
   cases z with
   |true=>
    rw[if_pos rfl]at h;have g:=yO hr d h0 h ht;refine⟨e g,?_⟩
    have s:costX M x=0:=by
     rcases q rfl with q|⟨p,A,⟨b,hb⟩,hz⟩
     .cases q
     .unfold costX;rw[if_pos (zero_outer hb (h1 p (by rw[hb];simp)).1 hz)]
    rw[s];have:=g.2;omega
   |false=>
    rw[if_neg l5]at h;obtain⟨h4,B⟩:=w rfl;rw[Int.one_mul]at h4;have k:(1:Int)<=((x.ops.length:Nat):Int):=by have:=c.some;omega
    have hn0:0<=n:=k9
    have u:n*1<=n*((x.ops.length:Nat):Int):=aI k hn0
    have hlt:a+n*((x.ops.length:Nat):Int)<2097153:=Int.not_le.1 λv=>by
     have:=zQ hr (show(2097153:Int)<=min (a+n*((x.ops.length:Nat):Int)) 2097153 by omega) h;omega
    have m:n=zG (x.how==2) M.dims x.loops:=k9
    rw[show min (a+n*((x.ops.length:Nat):Int)) 2097153=a+n*((x.ops.length:Nat):Int) by omega]at h;have g:=yO hr d k9 h ht;refine⟨e g,?_⟩;have s:=cost_turn j m.symm;have:=g.2;omega
section
variable {L : List PcV} {code : List cA} {t : Nat} {M : GnM}
theorem ru_steps(hk:bGc L code)(hF:sU L code M.fail)(hS: ∀z∈M.size,0<=z/\z<=1000000): ∀{l:List bX} {t:Nat} {s:GnS} {v:Nat->Int},(∀x∈l,wV M x)->8<=t->dG L (stepsG M l s)->Ru code 0 (stepsG M l s).l.length v t->Ru code 0 s.l.length v (t+costsX M l)
 |[],_,_,_,_,_,_,hn=>hn
 |x::r,t,s,v,hx,ht,hE,hn=>by
  have h:=ru_steps hk hF hS (l:=r) (s:=lB M x s) (λy a=>hx y (D1 _ a)) ht hE hn;have b:=ru_step hk (hx x (D5 ..)) hF hS (bSs _ hE) k9 h;refine b.le ?_;rw[costsX];unfold costX;omega
end
theorem ends_nil{t:Nat}{s:EmS}:nU [] (t+1) s:=by
 refine ends_one ?_;unfold dH
 by_cases h:s.at_<0
 .rw[if_pos (.inl h)];rfl
 .rw[if_pos (.inr (by show((0:Nat):Int)<=_;omega))];rfl
theorem code_ends{M:GnM}{l:List bX}(hf:M.fail=1)(hS: ∀z∈M.size,0<=z/\z<=1000000)(hx: ∀x∈l,wV M x){s:EmS}(h0:s.at_=0)(hr:s.regs.length=16):nU (mD (dL ⟨1,0,0,0,121⟩ 0 (hereG 1 (dL ⟨0,0,0,0,0⟩ 0 (stepsG M l ⟨[],1,0⟩)))).l) (8+costsX M l) s:=by
 generalize n:(dL ⟨1,0,0,0,121⟩ 0 (hereG 1 (dL ⟨0,0,0,0,0⟩ 0 (stepsG M l ⟨[],1,0⟩)))).l=L
 rcases @link_ok L with e|hk
 .rw[e,Nat.add_comm];exact ends_nil
 .have p:dG L (dL ⟨1,0,0,0,121⟩ 0 (hereG 1 (dL ⟨0,0,0,0,0⟩ 0 (stepsG M l ⟨[],1,0⟩)))):=⟨⟨[],by rw[n,P9]⟩,λh=>absurd rfl h⟩
  obtain⟨f,j⟩:=lP p;obtain⟨d,hM⟩:=ext_here f l5;obtain⟨c,g⟩:=lP d
  have b: ∀{q:Nat} {i:cA} {mk:Int},L[q]?=some ⟨mk,i,0⟩->(i.op=0\/i.op=1)-> ∀m v,Ru (mD L) m q v 1:=λ{q i mk} hq ho m v e a _ _=>by
   refine ends_one ?_;rw[xG (hk.plain q _ hq rfl) a];unfold emIns
   rcases ho with h|h
   .rw[if_pos h];rfl
   .have h1: ¬i.op=0:=by rw[h];decide
    rw[if_neg h1,if_pos h];rfl
  have o:sU L (mD L) M.fail:=by
   rw[hf];exact⟨l5,_,hM,b j (.inr rfl)⟩
  exact ru_steps hk o hS hx (B8 _) c ((b g (.inl rfl) 0 (λ_=>0)).le l5) s h0 hr λk h1 r=>by omega
def NnI (i:cA):Prop:=(0<=i.op/\i.op<256)/\0<=i.a/\0<=i.b/\0<=i.c/\(-2147483648<=i.imm/\i.imm<2147483648)
def NnS (s:GnS):Prop:= ∀p∈s.l,NnI p.ins
section
variable {s : GnS} {k f dst : Nat} {i : cA} {M : GnM}
theorem zN(z:Int): -2147483648<=w32 z/\w32 z<2147483648:=by unfold w32;omega
theorem u8m_is(z:Int):0<=u8m z/\u8m z<256:=by unfold u8m;omega
theorem kO(h:NnS s)(hi:NnI i):NnS (dL i dst s):=λp a=>by
 rcases D0.1 (show p∈s.l++[_]from a)with a|a
 .exact h p a
 .cases L1.1 a;exact hi
theorem nn_mark(h:NnS s):NnS (markG s):=h
theorem bAb(h:NnS s):NnS (hereG k s):=by
 unfold hereG;split
 .exact kO h ⟨⟨l5,l5⟩,l5,l5,l5,l5,l5⟩
 .exact h
theorem yZ{a n:Int}(ha:0<=a)(h:NnS s):NnS (numG a n s):=by
 unfold numG;split
 .exact kO h ⟨⟨by show(0:Int)<=2;decide,by show(2:Int)<256;decide⟩,ha,by show(0:Int)<=0;decide,by show(0:Int)<=0;decide,zN _⟩
 .exact kO (kO h ⟨⟨by show(0:Int)<=2;decide,by show(2:Int)<256;decide⟩,ha,by show(0:Int)<=0;decide,by show(0:Int)<=0;decide,zN _⟩) ⟨⟨by show(0:Int)<=3;decide,by show(3:Int)<256;decide⟩,ha,by show(0:Int)<=0;decide,by show(0:Int)<=0;decide,zN _⟩
theorem bDh{op a b c n:Int}(h1:0<=op/\op<256)(ha:0<=a)(hb:0<=b)(hc:0<=c)(hn: -2147483648<=n/\n<2147483648):NnI ⟨op,a,b,c,n⟩:=⟨h1,ha,hb,hc,hn⟩
theorem nn_get{fr sp:Int}(hs:0<=sp)(h:NnS s):NnS (kT fr k sp s):=by
 unfold kT;split
 .exact h
 .exact kO h (bDh l5 hs l5 l5 (zN _))
theorem bGn{sp:Int}(hs:0<=sp):0<=gG k sp:=by
 unfold gG;split
 .omega
 .exact hs
theorem bHc{fr:Int}{I:Int->GnS->GnS}(hI: ∀a s,0<=a->NnS s->NnS (I a s))(h:NnS s):NnS (jU fr k I s):=by
 unfold jU;split
 .exact hI _ _ k9 h
 .exact kO (hI _ _ l5 h) (bDh l5 l5 l5 l5 (zN _))
theorem nn_less{a b:Int}(ha:0<=a)(hb:0<=b)(h:NnS s):NnS (pL a b dst s):=kO h (bDh l5 ha hb l5 l5)
theorem bLj(h:NnS s):NnS (mJ dst s):=kO h (bDh l5 l5 l5 l5 l5)
theorem nn_copy{a b:Int}(ha:0<=a)(hb:0<=b)(h:NnS s):NnS (rL a b s):=kO h (bDh l5 ha hb l5 l5)
theorem bTl{a z:Int}(ha:0<=a)(h:NnS s):NnS (jS f a z s):=bAb (bLj (nn_less ha l5 (yZ l5 (nn_mark h))))
theorem nn_op{o:OpC}(h:NnS s):NnS (opG M o k s):=by
 have c: ∀z:Int,∀a s,0<=a->NnS s->NnS (numG a z s):=λz a s b h=>yZ b h;unfold opG;split
 .exact bHc (c _) h
 .split
  .refine bHc (c _) ?_;split
   .exact h
   .exact bLj h
  .split
   .exact bHc (λa s b h=>nn_copy b (u8m_is _).1 h) h
   .split
    .exact bHc (λa s b h=>kO h (bDh l5 b (bGn l5) l5 (zN _))) (bTl (bGn l5) (nn_less (bGn l5) l5 (nn_get l5 h)))
    .split
     .exact bHc (λa s b h=>kO h (bDh (u8m_is _) b (bGn l5) l5 l5)) (nn_get l5 h)
     .split
      .exact bHc (λa s b h=>kO h (bDh (u8m_is _) b (bGn l5) (bGn l5) l5)) (nn_get l5 (nn_get l5 h))
      .exact h
theorem nn_ops: ∀{l:List OpC} {k:Nat} {s:GnS},NnS s->NnS (opsG M l k s)
 |[],_,_,h=>h
 |o::r,k,s,h=>nn_ops (l:=r) (k:=iO o.how k) (s:=opG M o k s) (nn_op h)
theorem nn_fold{fn ix:Int}(hi:0<=ix)(h:NnS s):NnS (foldG fn ix s):=bAb (nn_copy l5 l5 (bAb (bLj (kO (kO h (bDh l5 hi l5 l5 l5)) (bDh (u8m_is _) l5 l5 l5 l5)))))
theorem nn_again{ix n:Int}(hi:0<=ix)(h:NnS s):NnS (againG ix n dst s):=nn_less hi l5 (yZ l5 (kO h (bDh l5 hi hi l5 l5)))
theorem bFc{x:bX}{a:Int}(ha:0<=a)(h:NnS s):NnS (storeG M x a s):=by
 unfold storeG;split
 .exact bLj h
 .exact kO (kO (bTl l5 h) (bDh l5 ha l5 l5 (zN _))) (bDh l5 l5 l5 l5 l5)
theorem nn_zeros: ∀{n k:Nat} {s:GnS},NnS s->NnS (zerosG n k s)
 |0,_,_,h=>h
 |n+1,k,s,h=>nn_zeros (n:=n) (k:=k+1) (s:=numG ((1+k:Nat):Int) 0 s) (yZ k9 h)
theorem nn_ends{o:List Int}{t:Nat}: ∀{n:Nat} {s:GnS},NnS s->NnS (endsG o t n s)
 |0,_,h=>h
 |k+1,s,h=>nn_ends (n:=k) (yZ k9 (nn_again k9 h))
theorem nn_body{x:bX}{lo:List Int}(h:NnS s):NnS (nE M x lo s):=by
 unfold nE;split
 .exact bFc l5 (nn_ops h)
 .split
  .exact bFc l5 (nn_fold k9 (nn_ops h))
  .split
   .exact bFc l5 (yZ l5 h)
   .exact bFc l5 (nn_again k9 (nn_fold k9 (nn_ops (bAb (nn_mark (yZ k9 h))))))
theorem nn_step{x:bX}(h:NnS s):NnS (lB M x s):=by
 unfold lB;dsimp only;split
 .exact h
 .exact nn_ends (nn_body (bAb (nn_mark (nn_zeros (yZ l5 h)))))
theorem nn_steps: ∀{l:List bX} {s:GnS},NnS s->NnS (stepsG M l s)
 |[],_,h=>h
 |x::r,s,h=>nn_steps (l:=r) (s:=lB M x s) (nn_step h)
theorem bNu{m:mK}: ∀{l:List PcV} {i:Nat} {out o:List cA},placeGoL m l i out= .ok o->(∀p∈l,NnI p.ins)->(∀x∈out,NnI x)-> ∀x∈o,NnI x
 |[],_,out,o,h,_,hx=>by
  cases h;exact hx
 |p::r,i,out,o,h,hl,hx=>by
  have b:=hl p (D5 ..);have hr: ∀q∈r,NnI q.ins:=λq hq=>hl q (D1 _ hq)
  have a: ∀{y:cA},NnI y-> ∀x∈out++[y],NnI x:=λd x c=>by
   rcases D0.1 c with c|c
   .exact hx x c
   .cases L1.1 c;exact d
  unfold placeGoL at h;split at h
  .exact bNu h hr (a b)
  .split at h
   .cases h
   .exact bNu h hr (a ⟨b.1,b.2.1,b.2.2.1,b.2.2.2.1,zN _⟩)
theorem nn_code{l:List bX}: ∀x∈mD (dL ⟨1,0,0,0,121⟩ 0 (hereG 1 (dL ⟨0,0,0,0,0⟩ 0 (stepsG M l ⟨[],1,0⟩)))).l,NnI x:=by
 have h0:NnS (⟨[],1,0⟩:GnS):=λp a=>by cases a
 have h:NnS (dL ⟨1,0,0,0,121⟩ 0 (hereG 1 (dL ⟨0,0,0,0,0⟩ 0 (stepsG M l ⟨[],1,0⟩)))):=kO (bAb (kO (nn_steps h0) (bDh l5 l5 l5 l5 l5))) (bDh l5 l5 l5 l5 l5);unfold mD qY;split
 .rename_i o ho;split at ho
  .cases ho
  .split at ho
   .cases ho
   .exact bNu ho h λx hx=>by cases hx
 .intro x hx;cases hx
end
set_option maxRecDepth 100000
set_option maxHeartbeats 400000 in
theorem bPu(B:Option Addr)(d:Nat)(ds:List Int)(k:Nat)(w:World)(hb:Ints w B ds):
  Calls prog 172 #[.slice B ds.length d,j5 k] w λe w'=>e= .returned (j5 (cL ds k))/\w=w':=by
 by_cases hlt:k<ds.length
 .obtain⟨x,hx⟩: ∃x,ds[k]?=some x:=⟨ds[k],D7 hlt⟩
  obtain⟨b,o,rfl,_,hc⟩:=hb k x hx;have HX:=R1 (show cL ds k=x by unfold cL;rw[U5,hx];rfl);clear hb hx
  go_enter func172,ntmps172
  go_wp2
  go_ret
  exact⟨bAs HX.out.symm,rfl⟩
 .have HX:=R1 (show cL ds k=0 by unfold cL;rw[U5,List.getElem?_eq_none k9];rfl);clear hb
  go_enter func172,ntmps172
  go_wp2
  go_ret
  exact⟨bAs HX.out.symm,rfl⟩
def qV (m:Mono)(D:Nat->Int):Int:=if (cM m D).2 then (cM m D).1 else gE+1
theorem ex_cell{w:World}{b:Nat}{m:Mono}(h:dP w b 0 m)(k:Nat)(hk:k<6):w.cell? ⟨b,1+k,none⟩=some (j6 ((m.ex k).toNat:Int)):=by
 obtain⟨_,h1,e,d,h4,c,a⟩:=h.zero
 rcases k with _|_|_|_|_|_|k
 .exact h1
 .exact e
 .exact d
 .exact h4
 .exact c
 .exact a
 .omega
set_option maxHeartbeats 1000000 in
theorem size_any(B:Option Addr)(d:Nat)(ds:List Int)(m:Mono)(w:World)(hb:Ints w B ds)(hD: ∀k,0<=cL ds k/\cL ds k<=2147483648)(hn: -16777216<=m.n/\m.n<=16777216):
  Calls prog 102 #[.agg #[j5 m.n,j6 m.e0.toNat,j6 m.e1.toNat,j6 m.e2.toNat,j6 m.e3.toNat,j6 m.e4.toNat,j6 m.e5.toNat],.slice B ds.length d] w λe w'=>e= .returned (j5 (qV m (cL ds)))/\Below w.heap.size w w':=by
 have HD:=R1 hD;obtain⟨hn1,hn2⟩:=hn;have Hb:=R1 hb;clear hD hb
 go_enter func102,ntmps102
 go_wp2
 all_goals
  have q0:dP (w.alloc (.cells #[.int .i64 m.n,.int .u8 m.e0.toNat,.int .u8 m.e1.toNat,.int .u8 m.e2.toNat,.int .u8 m.e3.toNat,.int .u8 m.e4.toNat,.int .u8 m.e5.toNat] 111)) w.heap.size 0 m:=by simp[dP,go_sem]
  have q2:Below w.heap.size w (w.alloc (.cells #[.int .i64 m.n,.int .u8 m.e0.toNat,.int .u8 m.e1.toNat,.int .u8 m.e2.toNat,.int .u8 m.e3.toNat,.int .u8 m.e4.toNat,.int .u8 m.e5.toNat] 111)):=by go_grown
  have Q0:=R1 q0;have Q2:=R1 q2;have Q3:=R1 (Hb.out.below q2);clear q0 q2;generalize (w.alloc (.cells #[.int .i64 m.n,.int .u8 m.e0.toNat,.int .u8 m.e1.toNat,.int .u8 m.e2.toNat,.int .u8 m.e3.toNat,.int .u8 m.e4.toNat,.int .u8 m.e5.toNat] 111))=W0 at Q0 Q2 Q3⊢;generalize w.heap.size=X at Q0⊢
  go_loop [6] (λi=> ∃k:Nat,k<=6/\i= .int .i64 k/\Hid (fP (dM m (cL ds))=fP ((dM m (cL ds)).drop k))) (λi=>6-(intOf i).toNat)
  case atStart=>exact⟨0,P2 _,rfl,rfl⟩
  case round=>
   obtain⟨k,hk,rfl,hz⟩:=hrel
   by_cases hlt:k<6
   .have hc:=ex_cell Q0.out k hlt;have hp:=zO m (cL ds) k hlt;have HZ:=R1 (show fP (dM m (cL ds))=((decide (0<(m.ex k).toNat)&&cL ds k==0) || fP ((dM m (cL ds)).drop (k+1))) by rw[hz.out,hp];rfl);clear hp hz
    by_cases he:0<(m.ex k).toNat
    .have he1:decide (0<(m.ex k).toNat)=true:=by simpa using he
     by_cases hd:cL ds k=0
     .have hd1:(cL ds k==0)=true:=by simpa using hd
      have HZ':=R1 (show fP (dM m (cL ds))=true by rw[HZ.out,he1,hd1];rfl);clear hd HZ
      go_wp2_with (go_at_call 172;refine(bPu B d ds k _ Q3.out).mono ?_;rintro e w' ⟨rfl,rfl⟩)
      go_ret
      exact⟨bAs (by unfold qV cM;rw[HZ'.out];rfl),Q2.out⟩
     .have hd1:(cL ds k==0)=false:=by simpa using hd
      have HZ':=R1 (show fP (dM m (cL ds))=fP ((dM m (cL ds)).drop (k+1)) by rw[HZ.out,hd1,Ab,Ac]);clear hd HZ
      go_wp2_with (go_at_call 172;refine(bPu B d ds k _ Q3.out).mono ?_;rintro e w' ⟨rfl,rfl⟩)
      go_round
      case rel=>exact⟨k+1,k9,by go_num,HZ'⟩
      case measure=>simp[intOf];omega
    .have he1:decide (0<(m.ex k).toNat)=false:=by simpa using he
     have HZ':=R1 (show fP (dM m (cL ds))=fP ((dM m (cL ds)).drop (k+1)) by rw[HZ.out,he1,Bool.false_and,Ac]);clear HZ
     go_wp2
     go_round
     case rel=>exact⟨k+1,k9,by go_num,HZ'⟩
     case measure=>simp[intOf];omega
   .have HZ:=R1 (show fP (dM m (cL ds))=false by rw[hz.out,R5 ab4];rfl);clear hz
    go_wp2
    go_loop [7,5] (λi n=> ∃(k:Nat) (x:Int),k<=6/\i= .int .i64 k/\n= .int .i64 x/\InV x/\Hid (nV (dM m (cL ds)) (max m.n (-m.n))=nV ((dM m (cL ds)).drop k) x)) (λi _=>6-(intOf i).toNat)
    case atStart=>exact⟨0,_,P2 _,rfl,rfl,⟨k9,by unfold gE;omega⟩,by show _=_;rw[L0];try (congr 1;omega)⟩
    case round=>
     obtain⟨k2,x,hk2,rfl,rfl,hx,hmul⟩:=hrel;have HX:=R1 hx;clear hx
     by_cases hlt2:k2<6
     .have hc:=ex_cell Q0.out k2 hlt2;have HM:=R1 (show nV (dM m (cL ds)) (max m.n (-m.n))=(rD (cL ds k2) (m.ex k2).toNat x).bind (nV ((dM m (cL ds)).drop (k2+1))) by rw[hmul.out,zO m (cL ds) k2 hlt2];rfl);have hd:=HD.out k2;obtain⟨hd0,hd1⟩:=hd;have hu:=(m.ex k2).toNat_lt;have HNZ:=R1 (zero_not HZ.out k2 hlt2);have Hside:=R1 (λW h=>bPu B d ds k2 W h);clear hmul;generalize m.ex k2=ee at hc HM hu HNZ⊢
      go_wp2
      go_loop [8,5] (λc n=> ∃(j:Nat) (y:Int),j<=ee.toNat/\c= .int .i64 j/\n= .int .i64 y/\InV y/\Hid (nV (dM m (cL ds)) (max m.n (-m.n))=(rD (cL ds k2) (ee.toNat-j) y).bind (nV ((dM m (cL ds)).drop (k2+1))))) (λc _=>ee.toNat-(intOf c).toNat)
      case atStart=>exact⟨0,x,P2 _,rfl,rfl,HX.out,HM⟩
      case round=>
       obtain⟨j,y,hj,rfl,rfl,hy,hpow⟩:=hrel;have HY:=R1 hy;clear hy
       by_cases hlt3:j<ee.toNat
       .have hd2:1<=cL ds k2:=by have:=HNZ.out k9;omega
        have HP:=R1 (show(rD (cL ds k2) (ee.toNat-j) y)=if gE/cL ds k2<y then none else rD (cL ds k2) (ee.toNat-(j+1)) (y*cL ds k2) by rw[show ee.toNat-j=(ee.toNat-(j+1))+1 by omega,rD])
        by_cases hq:gE/cL ds k2<y
        .have hq1:decide (4611686018427387904/cL ds k2<y)=true:=by simpa[gE]using hq
         go_wp2_with (go_at_call 172;refine(Hside.out _ Q3.out).mono ?_;rintro e w' ⟨rfl,rfl⟩)
         go_ret
         have e:cM m (cL ds)=(0,false):=by
          unfold cM;rw[HZ.out,hpow.out,HP.out,if_pos hq];rfl
         exact⟨bAs (by unfold qV;rw[e];rfl),Q2.out⟩
        .have hq1:decide (4611686018427387904/cL ds k2<y)=false:=by simpa[gE]using hq
         have HY2:=R1 (inV_mul HY.out hd2 hq);have hw:=wrap_inV HY2.out;have HP2:=R1 (show nV (dM m (cL ds)) (max m.n (-m.n))=(rD (cL ds k2) (ee.toNat-(j+1)) (y*cL ds k2)).bind (nV ((dM m (cL ds)).drop (k2+1))) by rw[hpow.out,HP.out,if_neg hq]);clear HP hpow
         go_wp2_with (go_at_call 172;refine(Hside.out _ Q3.out).mono ?_;rintro e w' ⟨rfl,rfl⟩)
         go_round
         case rel=>exact⟨j+1,y*cL ds k2,k9,by go_num,by first|rfl|rw[hw],HY2.out,HP2⟩
         case measure=>simp[intOf];omega
       .have HP:=R1 (show nV (dM m (cL ds)) (max m.n (-m.n))=nV ((dM m (cL ds)).drop (k2+1)) y by rw[hpow.out,show ee.toNat-j=0 by omega];rfl);clear hpow
        go_wp2
        go_round
        case rel=>exact⟨k2+1,y,k9,by go_num,rfl,HY.out,HP⟩
        case measure=>simp[intOf];omega
     .have e:cM m (cL ds)=(x,true):=by
       unfold cM;rw[HZ.out,hmul.out,R5 ab4];rfl
      have He:=R1 e;clear e hmul
      go_wp2
      go_ret
      exact⟨bAs (by unfold qV;rw[He.out];rfl),Q2.out⟩
theorem size_bd(m:Mono)(D:Nat->Int)(hD: ∀k,0<=D k):0<=qV m D:=by
 unfold qV;split
 .exact xE m D hD
 .unfold gE;omega
theorem bTn{m:Mono}{D:Nat->Int}{size:Int}(h0:0<=size):((cM m D).2=false\/gE-size<(cM m D).1)↔gE-size<qV m D:=by
 unfold qV;cases (cM m D).2
 .simp;omega
 .simp
theorem sizeP_ok{m:Mono}{D:Nat->Int}{size:Int}(h0:0<=size)(h: ¬gE-size<qV m D):(cM m D).1=qV m D:=by
 unfold qV at*;cases a:(cM m D).2
 .rw[a]at h;simp at h;omega
 .simp
set_option maxHeartbeats 1000000 in
theorem refEval_any(A B:Option Addr)(c d:Nat)(p:List Mono)(ds:List Int)(w:World)(ha:kK w A p)(hb:Ints w B ds)(hp:p.length<=140737488355328)(hq:ds.length<=140737488355328):
  Calls prog 46 #[.slice A p.length c,.slice B ds.length d] w λe w'=>e= .returned (.tuple #[j5 (bD p ds).1,j5 (bD p ds).2])/\Below w.heap.size w w':=by
 have Ha:=R1 ha;have Hb:=R1 hb;clear ha hb;cases hrp:cJ p
 .have e:bD p ds=(0,20):=by unfold bD;rw[hrp];rfl
  rw[e]
  go_enter func46,ntmps46
  go_wp2_with fail
  refine(wZ A c p _ Ha.out hp).mono ?_;rintro e w1 ⟨rfl,hb1⟩
  go_wp2
  go_ret2
  exact⟨rfl,hb1⟩
 .by_cases h6:ds.length<=6
  .have h61:decide ((6:Int)<(ds.length:Int))=false:=by simp;omega
   go_enter func46,ntmps46
   go_wp2_with fail
   refine(wZ A c p _ Ha.out hp).mono ?_;rintro e w1 ⟨rfl,hb1⟩;have H1:=R1 hb1;clear hb1
   go_wp2
   go_loop [6] (λi=> ∃k:Nat,k<=ds.length/\i= .int .i64 k/\Hid (ds.all jL=(ds.drop k).all jL)) (λi=>ds.length-(intOf i).toNat)
   case atStart=>exact⟨0,P2 _,rfl,rfl⟩
   case round=>
    obtain⟨k,hk,rfl,hall⟩:=hrel
    by_cases hlt:k<ds.length
    .obtain⟨x,hx⟩: ∃x,ds[k]?=some x:=⟨ds[k],D7 hlt⟩
     have dm:ds.drop k=x::ds.drop (k+1):=by
      rw[List.drop_eq_getElem_cons hlt];have:=(D9.1 hx).2;rw[this]
     obtain⟨b,o,rfl,hB,c0⟩:=Hb.out.below H1.out k x hx;have HAll:=R1 (show ds.all jL=(jL x&&(ds.drop (k+1)).all jL) by rw[hall.out,dm,List.all_cons]);clear dm hx hall hB;cases hs:jL x
     .have e:bD p ds=(0,23):=by
       unfold bD;rw[hrp,show nD ds=false by unfold nD;rw[HAll.out,hs];simp];rfl
      have He:=R1 e;clear e
      have hs':x<0\/2147483648<x:=by
       have:=of_decide_eq_false hs;omega
      rcases Int.lt_or_le x 0 with hx0|hx0
      .have t1:decide (x<0)=true:=by simpa using hx0
       go_wp2
       go_ret2
       rw[He.out];exact⟨rfl,H1.out⟩
      .have t1:decide (x<0)=false:=by simpa using hx0
       have t2:decide (2147483648<x)=true:=by simp;omega
       go_wp2
       go_ret2
       rw[He.out];exact⟨rfl,H1.out⟩
     .have hs':0<=x/\x<=2147483648:=of_decide_eq_true hs;have t1:decide (x<0)=false:=by simp;omega
      have t2:decide (2147483648<x)=false:=by simp;omega
      have HA2:=R1 (show ds.all jL=(ds.drop (k+1)).all jL by rw[HAll.out,hs,Ad]);clear HAll hs'
      go_wp2
      go_round
      case rel=>exact⟨k+1,k9,by go_num,HA2⟩
      case measure=>simp[intOf];omega
    .have hall1:ds.all jL=true:=by rw[hall.out,R5 k9];rfl
     have HD:=R1 (yI hall1)
     have He:=R1 (show bD p ds=match iT (cL ds) p 0 0 with|some n=>(n,0)|none=>(0,22) by
      unfold bD;rw[hrp,show nD ds=true by unfold nD;rw[hall1,decide_eq_true k9];rfl]
      rfl)
     have HRP:=R1 (show ∀m∈p,gL m=true by
      unfold cJ at hrp;simp only[G1]at hrp
      exact rS hrp.2)
     clear hall hall1
     go_wp2
     go_loopw [9,7,8] (λi lf sm wi=> ∃(j:Nat) (size sum:Int),j<=p.length/\i= .int .i64 j/\lf= .int .i64 (4611686018427387904-size)/\sm= .int .i64 sum/\Hid (0<=size/\size<=gE/\ -size<=sum/\sum<=size)/\Hid (iT (cL ds) p 0 0=iT (cL ds) (p.drop j) size sum)/\Below w.heap.size w wi) (λi _ _ _=>p.length-(intOf i).toNat)
     case atStart=>exact⟨0,0,0,P2 _,rfl,rfl,rfl,⟨k9,by unfold gE;omega,k9,k9⟩,rfl,H1.out⟩
     case round=>
      obtain⟨j,size,sum,hj,rfl,rfl,rfl,hbd,hev,hbl⟩:=hrel;have HB2:=R1 hbl;clear hbl
      by_cases hlt2:j<p.length
      .obtain⟨m,hm,dm⟩:=mQ hlt2;obtain⟨b,o,rfl,hB,c0,c1,c2,c3,c4,c5,c6⟩:=Ha.out.below HB2.out j m hm;have hsm:gL m=true:=HRP.out m (f4 hm);have hsm':m.n≠0/\m.n<=16777216/\ -16777216<=m.n/\m.deg<=8:=of_decide_eq_true hsm;have HV:=R1 (size_bd m (cL ds) (λk=>(HD.out k).1));obtain⟨g0,g1,g2,g3⟩:=hbd.out
       have HE:=R1 (show iT (cL ds) p 0 0=if gE-size<qV m (cL ds)then none
         else iT (cL ds) (p.drop (j+1)) (size+qV m (cL ds)) (if m.n<0 then sum-qV m (cL ds)else sum+qV m (cL ds)) by
        rw[hev.out,dm,iT]
        by_cases hq:gE-size<qV m (cL ds)
        .rw[if_pos hq,if_pos ((bTn g0).2 hq)]
        .rw[if_neg hq,if_neg (λh=>hq ((bTn g0).1 h)),sizeP_ok g0 hq])
       have Hval:=R1 (λW (h:Ints W B ds)=>size_any B d ds m W h HD.out ⟨hsm'.2.2.1,hsm'.2.1⟩);have HM:=R1 hm;clear hm dm hB hsm hsm' hev
       go_wp2_with fail
       refine(Hval.out _ (Hb.out.below HB2.out)).mono ?_;rintro e w5 ⟨rfl,hb5⟩;have HB5:=R1 (HB2.out.trans (hb5.mono HB2.out.size));obtain⟨b2,o2,hA2,hB2,k0,_⟩:=Ha.out.below HB5.out j m HM.out;injection hA2 with hA2
       injection hA2 with hA2 hA3
       subst hA2 hA3;clear hb5 c0 c1 c2 c3 c4 c5 c6 Hval HB2 hB2 HM;generalize qV m (cL ds)=n at HV HE⊢;have gn:0<=n:=HV.out;unfold gE at g1
       by_cases hq:gE-size<n
       .have hq1:decide (4611686018427387904-size<n)=true:=by simpa[gE]using hq
        have e:bD p ds=(0,22):=by rw[He.out,HE.out,if_pos hq]
        have He2:=R1 e;clear e HE hq
        go_wp2
        go_ret2
        rw[He2.out];exact⟨rfl,HB5.out⟩
       .have hq1:decide (4611686018427387904-size<n)=false:=by simpa[gE]using hq
        have hq2:size+n<=4611686018427387904:=by unfold gE at hq;omega
        by_cases hneg:m.n<0
        .have HE2:=R1 (show iT (cL ds) p 0 0=iT (cL ds) (p.drop (j+1)) (size+n) (sum-n) by rw[HE.out,if_neg hq,if_pos hneg]);have hneg1:decide (m.n<0)=true:=by simpa using hneg
         clear HE hq
         go_wp2
         go_roundw
         case rel=>exact⟨j+1,size+n,sum-n,k9,by go_num,by go_num,by go_num,⟨k9,by unfold gE;omega,k9,k9⟩,HE2,HB5.out⟩
         case measure=>simp[intOf];omega
        .have HE2:=R1 (show iT (cL ds) p 0 0=iT (cL ds) (p.drop (j+1)) (size+n) (sum+n) by rw[HE.out,if_neg hq,if_neg hneg]);have hneg1:decide (m.n<0)=false:=by simpa using hneg
         clear HE hq
         go_wp2
         go_roundw
         case rel=>exact⟨j+1,size+n,sum+n,k9,by go_num,by go_num,by go_num,⟨k9,by unfold gE;omega,k9,k9⟩,HE2,HB5.out⟩
         case measure=>simp[intOf];omega
      .have e:bD p ds=(sum,0):=by rw[He.out,hev.out,R5 k9,iT]
       have He2:=R1 e;clear e hev
       go_wp2
       go_ret2
       rw[He2.out];exact⟨rfl,HB2.out⟩
  .have h61:decide ((6:Int)<(ds.length:Int))=true:=by simp;omega
   have e:bD p ds=(0,23):=by
    unfold bD;rw[hrp,show nD ds=false by unfold nD;rw[decide_eq_false h6];rfl];rfl
   rw[e]
   go_enter func46,ntmps46
   go_wp2_with fail
   refine(wZ A c p _ Ha.out hp).mono ?_;rintro e w1 ⟨rfl,hb1⟩
   go_wp2
   go_ret2
   exact⟨rfl,hb1⟩
end
section
open Go.RowKit Go.Proofs.Tryz
theorem bBk(p:PolV)(B:Option Addr)(d:Nat)(ds:List Int)(hp:p.list.length<=140737488355328)(hd:ds.length<=140737488355328):bZ prog 46 [j0 p,.slice B ds.length d] [] [fB p,cK.sl (.slice B ds.length d) ds] (λ_:Unit=> .tuple #[j5 (bD p.list ds).1,j5 (bD p.list ds).2]) (λ_=>[]) (λ_=>[]):=
 sJ λ_ w a h=>refEval_any _ _ _ _ _ _ w (mE a (h _ (.head _))) (ints_of a (h _ (.tail _ (.head _)))) hp hd
def arrL (l:List tN):List Arr:=l.map tN.arr
theorem oT{l:List tN}{i:Nat}{x:tN}(h:l[i]?=some x):(arrL l)[i]?=some x.arr:=by
 unfold arrL;rw[List.getElem?_map,h];rfl
theorem bEd(l:List tN):(arrL l).length=l.length:=K3 _
def bJp (at_ mem:Int)(a:Arr):Bool:=xY a&&decide (0<=at_/\at_<=mem/\(a.data.length:Nat)<=mem-at_)
def fitsL (at_:List Int)(mem:Int)(ins:List Arr):List gP->Nat->Bool
 |[],_=>true
 |b::r,k=>(decide (b.input<0) || bJp (at_.getD k 0) mem (ins.getD b.input.toNat default))&&fitsL at_ mem ins r (k+1)
def bHm (m:List Int)(q:Nat)(d:List Int):List Int:=m.take q++d++m.drop (q+d.length)
def layL (at_:List Int)(ins:List Arr):List gP->Nat->List Int->List Int
 |[],_,m=>m
 |b::r,k,m=>layL at_ ins r (k+1) (if b.input<0 then m else bHm m (at_.getD k 0).toNat (ins.getD b.input.toNat default).data)
def jK (c:dA)(at_:List Int)(mem:Int)(ins:List Arr):List Int×Int:=
 if cY c=false then ([],100)else if (at_.length:Int)≠(c.bufs.length:Nat)\/mem<0\/2097152<mem then ([],160)else if ((ins.length:Nat):Int)≠rnMost c.bufs 0 then ([],120)
 else if fitsL at_ mem ins c.bufs 0=false then ([],120)else (layL at_ ins c.bufs 0 (T9 mem.toNat 0),0)
section
variable {c : dA} {at_ : List Int} {mem : Int} {ins : List Arr} {l : List gP} {i : Nat} {u : gP} {a : Arr} {FT : Bool} {M R : List Int} {z : Int}
theorem lq1(h:cY c=false):jK c at_ mem ins=([],100):=if_pos h
theorem lq2(h:cY c=true)(h2:(at_.length:Int)≠(c.bufs.length:Nat)\/mem<0\/2097152<mem):jK c at_ mem ins=([],160):=by
 unfold jK;rw[if_neg (by rw[h];decide),if_pos h2]
theorem lq3(h:cY c=true)(h2: ¬((at_.length:Int)≠(c.bufs.length:Nat)\/mem<0\/2097152<mem))(h3:((ins.length:Nat):Int)≠rnMost c.bufs 0):jK c at_ mem ins=([],120):=by
 unfold jK;rw[if_neg (by rw[h];decide),if_neg h2,if_pos h3]
theorem lq4(h:cY c=true)(h2: ¬((at_.length:Int)≠(c.bufs.length:Nat)\/mem<0\/2097152<mem))(h3:((ins.length:Nat):Int)=rnMost c.bufs 0)(h4:fitsL at_ mem ins c.bufs 0=false):jK c at_ mem ins=([],120):=by
 unfold jK;rw[if_neg (by rw[h];decide),if_neg h2,if_neg (λe=>e h3),if_pos h4]
theorem lq0(h:cY c=true)(h2: ¬((at_.length:Int)≠(c.bufs.length:Nat)\/mem<0\/2097152<mem))(h3:((ins.length:Nat):Int)=rnMost c.bufs 0)(h4:fitsL at_ mem ins c.bufs 0=true):jK c at_ mem ins=(layL at_ ins c.bufs 0 (T9 mem.toNat 0),0):=by
 unfold jK;rw[if_neg (by rw[h];decide),if_neg h2,if_neg (λe=>e h3),if_neg (by rw[h4];decide)]
theorem most_geG: ∀{l:List gP} {n:Int},n<=rnMost l n
 |[],n=>Int.le_refl _
 |u::l,n=>by
  have:=most_geG (l:=l) (n:=max n (u.input+1));show n<=rnMost l (max n (u.input+1));omega
theorem bMi{u:gP}: ∀{l:List gP} {n:Int},u∈l->u.input<rnMost l n
 |[],_,h=>by cases h
 |v::l,n,h=>by
  show u.input<rnMost l (max n (v.input+1))
  rcases C9.1 h with rfl|h
  .have:=most_geG (l:=l) (n:=max n (u.input+1));omega
  .exact bMi h
theorem most_atG{n R:Int}(h:R=rnMost (l.drop i) n)(hu:l[i]?=some u):R=rnMost (l.drop (i+1)) (max n (u.input+1)):=by
 obtain⟨hlt,e⟩:=D9.1 hu;rw[h,<-Y2 hlt,e];rfl
theorem most_endG{n R:Int}(h:R=rnMost (l.drop i) n)(hi:l.length<=i):R=n:=by
 rw[h,R5 hi];rfl
theorem bAc(h:FT=fitsL at_ mem ins (l.drop i) i)(hu:l[i]?=some u):FT=((decide (u.input<0) || bJp (at_.getD i 0) mem (ins.getD u.input.toNat default))&&fitsL at_ mem ins (l.drop (i+1)) (i+1)):=by
 obtain⟨hlt,e⟩:=D9.1 hu;rw[h,<-Y2 hlt,e];rfl
theorem fits_skip(h:FT=fitsL at_ mem ins (l.drop i) i)(hu:l[i]?=some u)(hi:u.input<0):FT=fitsL at_ mem ins (l.drop (i+1)) (i+1):=by
 rw[bAc h hu,decide_eq_true hi,Bool.true_or,Ad]
theorem getA(ha:ins[u.input.toNat]?=some a):ins.getD u.input.toNat default=a:=by rw[U5,ha];rfl
theorem getZ(hz:at_[i]?=some z):at_.getD i 0=z:=by rw[U5,hz];rfl
theorem fits_yes(h:FT=fitsL at_ mem ins (l.drop i) i)(hu:l[i]?=some u)(ha:ins[u.input.toNat]?=some a)(hz:at_[i]?=some z)(h1:xY a=true)(h2:0<=z/\z<=mem/\(a.data.length:Nat)<=mem-z):FT=fitsL at_ mem ins (l.drop (i+1)) (i+1):=by
 rw[bAc h hu,getA ha,getZ hz];unfold bJp;rw[h1,decide_eq_true h2,Ad,Bool.or_true,Ad]
theorem bEc(h:FT=fitsL at_ mem ins (l.drop i) i)(hu:l[i]?=some u)(hi: ¬u.input<0)(ha:ins[u.input.toNat]?=some a)(h1:xY a=false):FT=false:=by
 rw[bAc h hu,getA ha,decide_eq_false hi];unfold bJp;rw[h1];rfl
theorem bFl(h:FT=fitsL at_ mem ins (l.drop i) i)(hu:l[i]?=some u)(hi: ¬u.input<0)(ha:ins[u.input.toNat]?=some a)(hz:at_[i]?=some z)(h2: ¬(0<=z/\z<=mem/\(a.data.length:Nat)<=mem-z)):FT=false:=by
 rw[bAc h hu,getA ha,getZ hz,decide_eq_false hi];unfold bJp;rw[decide_eq_false h2,Ab];rfl
theorem fits_end(h:FT=fitsL at_ mem ins (l.drop i) i)(hi:l.length<=i):FT=true:=by
 rw[h,R5 hi];rfl
theorem fits_at: ∀{l:List gP} {k:Nat} {i:Nat},fitsL at_ mem ins l k=true->l[i]?=some u-> ¬u.input<0->bJp (at_.getD (k+i) 0) mem (ins.getD u.input.toNat default)=true
 |[],_,_,_,h,_=>by cases h
 |b::r,k,i,h,hu,hi=>by
  rw[fitsL,G1]at h
  cases i with
  |zero=>
   cases hu;have h1:=h.1;rw[decide_eq_false hi,Ac]at h1;exact h1
  |succ i=>
   have:=fits_at h.2 (i:=i) hu hi
   rwa[show k+1+i=k+(i+1) by omega]at this
theorem fits_get(h:fitsL at_ mem ins l 0=true)(hu:l[i]?=some u)(hi: ¬u.input<0)(ha:ins[u.input.toNat]?=some a)(hz:at_[i]?=some z):0<=z/\z<=mem/\(a.data.length:Nat)<=mem-z:=by
 have h1:=fits_at h hu hi;rw[Nat.zero_add,getA ha,getZ hz]at h1;unfold bJp at h1;rw[G1]at h1;exact of_decide_eq_true h1.2
theorem lay_step(h:R=layL at_ ins (l.drop i) i M)(hu:l[i]?=some u):R=layL at_ ins (l.drop (i+1)) (i+1) (if u.input<0 then M else bHm M (at_.getD i 0).toNat (ins.getD u.input.toNat default).data):=by
 obtain⟨hlt,e⟩:=D9.1 hu;rw[h,<-Y2 hlt,e];rfl
theorem lay_skip(h:R=layL at_ ins (l.drop i) i M)(hu:l[i]?=some u)(hi:u.input<0):R=layL at_ ins (l.drop (i+1)) (i+1) M:=by rw[lay_step h hu,if_pos hi]
theorem lay_one{q:Nat}{d:List Int}(h:R=layL at_ ins (l.drop i) i M)(hu:l[i]?=some u)(hi: ¬u.input<0)(ha:ins[u.input.toNat]?=some a)(hz:at_[i]?=some z)(hq:z.toNat=q)(hd:a.data=d):R=layL at_ ins (l.drop (i+1)) (i+1) (bHm M q d):=by rw[lay_step h hu,if_neg hi,getA ha,getZ hz,hq,hd]
theorem lay_end(h:R=layL at_ ins (l.drop i) i M)(hi:l.length<=i):R=M:=by
 rw[h,R5 hi];rfl
theorem bSx{q:Nat}{d:List Int}(h:q+d.length<=M.length):(bHm M q d).length=M.length:=by
 unfold bHm;simp;omega
end
theorem maxIG{a b:Int}:(if b>a then b else a)=max a b:=by
 split<;>omega
section
variable {α : Type} {E : Flat α} {β : dE} {H : List bC} {F : List bE}
theorem at_copyF{P:Program}{n:Nat}{Γ:Env}{Q:Exit->Act->World->Prop}{ops:Array Oper}{rest:List Oper}{o:Oper}{d:Nat}{x y:Operand}{t e t':TypeId}{g c m q s:Nat}{A:Option Addr}{xs ys:List α}{H':List bC}(hr:dO β H F E A ys)(hw:want ops Γ o=some true)
  (ho:o.op= .call {callee:= .builtin .copy,args:= #[x,y],argTypes:= #[t,t]}) (hd:o.dst=some d) (hn:Nat.blt d n=true) (hu:P.underlying t=some (.slice e)) (hs:(P.info? e).map (·.size)=some E.size)
  (hx:Γ.ev x=some (.slice (cutA (some ⟨g,0,none⟩) q E.size m) (m-q) (m-q))) (hm:xs.length=m) (hy:Γ.ev y=some (.slice A s c)) (hl:s=ys.length) (hq:q+ys.length<=m) (hH:bU H (E.row (.slice (some ⟨g,0,none⟩) m m) t' xs) H')
  (k:At β n ((d,j5 (ys.length:Nat))::Γ) (E.row (.slice (some ⟨g,0,none⟩) m m) t' (xs.take q++ys++xs.drop (q+ys.length))::H') F (wpList P ops Q rest)):At β n Γ H F (wpList P ops Q (o::rest)):=by
 subst hl
 rcases Nat.lt_or_ge q m with h|h
 .rw[cutA_in h rfl]at hx;exact bEl hr hw ho hd hn hu hs hx rfl hm hy (Nat.min_eq_left k9).symm hq hH k
 .have h0:ys.length=0:=k9
  have a:ys=[]:=V4.1 h0;unfold cutA at hx;rw[if_pos k9]at hx;refine bEl (q:=0) hr hw ho hd hn hu hs hx (by rw[Nat.zero_mul]) hm hy (by rw[h0];exact(Nat.zero_min _).symm) k9 hH ?_;have b:([]:List α).take 0=[]:=rfl;rw[a]at k⊢;rw[P9,List.length_nil,Nat.add_zero,List.take_append_drop]at k
  simpa using k
end
theorem madeI64G(m:Nat):(madeCells (Value.int .i64 0).cells (m*cK.size)).toList=cK.all (T9 m 0):=by
 have e: ∀m,cK.all (T9 m 0)=T9 m (.int .i64 0):=λm=>by
  induction m with
  |zero=>rfl
  |succ m ih=>rw[X9,X9,<-ih];rfl
 rw[e];unfold madeCells;apply List.ext_getElem
 .simp[cK]
 .intro i h1 a;simp[Value.cells,Nat.mod_one]
theorem at_makeI64G{β:dE}{n:Nat}{Γ:Env}{H:List bC}{F:List bE}{Q:Exit->Act->World->Prop}{ops:Array Oper}{rest:List Oper}{o:Oper}{d m:Nat}{x y:Operand}(hw:want ops Γ o=some true)(ho:o.op= .makeSlice 27 x y)(hd:o.dst=some d)(hn:Nat.blt d n=true)
  (hx:Γ.ev x=some (j5 (m:Nat))) (hy:Γ.ev y=some (j5 (m:Nat))) (hm:m<=2097152)
  (k: ∀b,At β n ((d,.slice (some ⟨b,0,none⟩) m m)::Γ) (cK.row (.slice (some ⟨b,0,none⟩) m m) 2 (T9 m 0)::H) F (wpList prog ops Q rest)):At β n Γ H F (wpList prog ops Q (o::rest)):=by
 obtain⟨i,c,hz,a,hb⟩:=bAn;exact bAr (E:=cK) hw ho hd hn hx hy underlying27 c hz a aa2 v6 (madeI64G m) n4 k
theorem xU:(prog.info? 75).bind (·.zero)=some (.agg #[.slice none 0 0,.slice none 0 0]):=l4
set_option maxHeartbeats 1000000 in
theorem loadF_spec(c:gD)(m:MadeV)(IA:Option Addr)(ic:Nat)(ins:List tN)(hal0:m.at_.list.length<=140737488355328):bZ prog 11 [.agg #[j5 c.vars,j0 c.bufs,j0 c.steps,j0 c.outs],.agg #[j0 m.code,j5 m.mem,j0 m.at_],.slice IA ins.length ic] [] [oJ c,cK.sl (j0 m.at_) m.at_.list,arrE.sl (.slice IA ins.length ic) ins,bE.each ins bRf] (λ(x:Option Addr×Nat)=> .tuple #[.slice x.1 (jK c.c m.at_.list m.mem (arrL ins)).1.length x.2,j5 (jK c.c m.at_.list m.mem (arrL ins)).2]) (λ(x:Option Addr×Nat)=>[cK.row (.slice x.1 (jK c.c m.at_.list m.mem (arrL ins)).1.length x.2) 2 (jK c.c m.at_.list m.mem (arrL ins)).1]) (λ_=>[]):=by
 have hT:=cO;refine i7 func11 ntmps11 ?_;intro β hM;refine g2 ?_;refine i6 λb1=>?_;refine i6 λb2=>?_;refine g8 ?_;refine f7 func33 (bCm c) .nil ⟨d7,e8⟩ λ_=>?_;refine g3 ?_;refine bBd (λhc20=>?_) λhc20=>?_
 .refine g8 ?_;have b:(jK c.c m.at_.list m.mem (arrL ins))=_:=lq1 ab2;rw[b];refine cG (t:=2) cK ?_;exact rs2 (none,0) trivial
 refine g13 ?_;refine k_ne (λC=>?_) λC=>?_
 .refine g20 ?_;have b:(jK c.c m.at_.list m.mem (arrL ins))=_:=lq2 ab2 q8;rw[b];refine cG (t:=2) cK ?_;exact rs2 (none,0) trivial
 refine g5 ?_;refine vP (λB=>?_) λB=>?_
 .refine g15 ?_;have b:(jK c.c m.at_.list m.mem (arrL ins))=_:=lq2 ab2 q8;rw[b];refine cG (t:=2) cK ?_;exact rs2 (none,0) trivial
 refine g6 ?_;refine fD (λL=>?_) λL=>?_
 .refine g8 ?_;have b:(jK c.c m.at_.list m.mem (arrL ins))=_:=lq2 ab2 q8;rw[b];refine cG (t:=2) cK ?_;exact rs2 (none,0) trivial
 refine g3 ?_;have d:cY c.c=true:=by simpa using hc20
 obtain⟨⟨_,_,R,_⟩,V,_⟩:=fL d;rw[show c.c.bufs.length=c.bufs.list.length from cD _]at R;have Y: ∀u∈c.bufs.list,-1<=u.input/\u.input<64:=λu hu=>bufsB_in V u.c (K7.2 ⟨u,hu,rfl⟩);have hcb:c.c.bufs.length=c.bufs.list.length:=cD _;have s: ¬(((m.at_.list.length:Nat):Int)≠(c.c.bufs.length:Nat)\/m.mem<0\/2097152<m.mem):=k9
 obtain⟨K,hK⟩: ∃K,rnMost (bufsL c.bufs.list) 0=K:=⟨_,rfl⟩
 refine bP (bBb.sl (.slice c.bufs.addr c.bufs.list.length c.bufs.cap) c.bufs.list) (rR (lQ d7)) ?_;refine g14 ?_;refine bY (ι:=Nat×Int) [(2,_),(3,_),(4,_),(39,_),(40,_)] ⟨rfl,rfl,rfl,rfl,rfl,e8⟩ (λ⟨i,z⟩=>[(8,.int .i64 z),(41,.int .i64 (i:Nat))]) (λ_=>[]) (λ⟨i,z⟩=>[bE.pure (i<=c.bufs.list.length/\0<=z/\z<=64/\K=rnMost ((bufsL c.bufs.list).drop i) z)]) (λ⟨i,z⟩=>c.bufs.list.length-i) (0,0) ⟨rfl,rfl,e8⟩ .nil ⟨e9 (⟨k9,k9,k9,hK.symm⟩),e8⟩ ?_;rintro⟨i,z⟩;dsimp only;refine bM d7 λh=>?_;refine g6 ?_;refine fD (λJ=>?_) λJ=>?_
 .refine g6 ?_;obtain⟨Q,o⟩:=gx c.bufs.list i;refine ss (ixs i) ?_;refine ss (kV o 0) ?_;refine f9 xV λb5=>?_;refine g3 ?_;have w:=Y Q (f4 o);refine g5 ?_;refine bF (jJ rfl k9 k9) ?_;refine one ?_;refine bF (z':=max z (Q.input+1)) maxIG ?_;refine g6 ?_;refine inc (i+1) ?_;refine g3 ?_;exact bk2 (i+1,max z (Q.input+1)) ⟨e9 (⟨by dsimp only;omega,by dsimp only;omega,by dsimp only;omega,most_atG h.2.2.2 (cN o)⟩),e8⟩
 refine g7 ?_;have hke:=most_endG h.2.2.2 (by rw[cD];omega);refine g7 ?_;refine bEw (λI=>?_) λI=>?_
 .refine g8 ?_;have b:(jK c.c m.at_.list m.mem (arrL ins))=_:=lq3 d s (by rw[bEd];show _≠rnMost (bufsL c.bufs.list) 0;omega);rw[b];refine cG (t:=2) cK ?_;exact rs2 (none,0) trivial
 refine g4 ?_;have e:((arrL ins).length:Int)=rnMost c.c.bufs 0:=by rw[bEd];show _=rnMost (bufsL c.bufs.list) 0;omega
 obtain⟨FT,g⟩: ∃FT,fitsL m.at_.list m.mem (arrL ins) (bufsL c.bufs.list) 0=FT:=⟨_,rfl⟩
 have hal:m.at_.list.length=c.bufs.list.length:=k9
 refine g8 ?_;refine bY (ι:=Nat) [(2,_),(3,_),(4,_),(56,_),(57,_)] ⟨rfl,rfl,rfl,rfl,rfl,e8⟩ (λi=>[(58,.int .i64 (i:Nat))]) (λ_=>[]) (λi=>[bE.pure (i<=c.bufs.list.length/\FT=fitsL m.at_.list m.mem (arrL ins) ((bufsL c.bufs.list).drop i) i)]) (λi=>c.bufs.list.length-i) 0 ⟨rfl,e8⟩ .nil ⟨e9 (⟨k9,g.symm⟩),e8⟩ ?_;rintro i;refine bM d7 λhinv14=>?_;refine g6 ?_;refine fD (λG=>?_) λG=>?_
 .refine g5 ?_;obtain⟨u,hu⟩:=gx c.bufs.list i;have w:=Y u (f4 hu);refine g2 ?_;refine ss (ixs i) ?_;refine ss (kV hu 0) ?_;refine f9 xV λb6=>?_;refine g12 ?_;refine fD (λl=>?_) λl=>?_
  .refine g6 ?_;refine inc (i+1) ?_;refine g3 ?_;exact bk2 (i+1) ⟨e9 (⟨k9,fits_skip hinv14.2 (cN hu) l⟩),e8⟩
  refine g3 ?_;have f:=bMi (n:=0) (f4 (cN hu))
  replace f:u.input<rnMost c.c.bufs 0:=f
  rw[<-e,bEd]at f;obtain⟨x,hx⟩:=gx ins u.input.toNat;obtain⟨z,hz⟩:=gx m.at_.list i;refine bP (bRf x) (Has.each (Has.of mT6) (f4 hx))<|bM (arrF_sz d7) λW=>bP (cK.sl (.slice x.sides.addr x.sides.list.length x.sides.cap) x.sides.list) (arrF_s d7)<|bP (cK.sl (.slice x.data.addr x.data.list.length x.data.cap) x.data.list) (arrF_d d8) ?_;refine dC _ _ [(true,0),(true,1),(true,2),(true,3),(true,4),(true,5),(true,6),(true,7),(true,8),(true,9),(false,10),(false,11),(true,12)] dJ l8 (.c0 (.c0 (.c0 .nil))) bA.self ?_;refine g3 ?_;refine stM rfl (bJ hT (k:=u.input.toNat) (bV (Has.of mT8)) rfl rfl rfl rfl rfl rfl k9 ((D9.1 hx).1)) ?_;refine stM rfl (kV hx 0) ?_;refine g3 ?_;refine stM rfl (ixs i) ?_;refine stM rfl (jB hz 0) ?_;refine one ?_;refine f9 xU λb7=>?_;refine g10 ?_;refine bG func34 (rightAr_spec x k9) rfl rfl .nil ⟨d8,e8⟩ λ_=>?_;refine g2 ?_;refine k_nt (λj=>?_) λj=>?_
  .refine g34 ?_;have b:(jK c.c m.at_.list m.mem (arrL ins))=_:=lq4 d s e (g.trans n5);rw[b];refine cG (t:=2) cK ?_;exact rs2 (none,0) trivial
  refine g4 ?_;refine vP (λA=>?_) λA=>?_
  .refine g30 ?_;have b:(jK c.c m.at_.list m.mem (arrL ins))=_:=lq4 d s e (g.trans n5);rw[b];refine cG (t:=2) cK ?_;exact rs2 (none,0) trivial
  refine g6 ?_;refine vP (λy=>?_) λy=>?_
  .refine g24 ?_;have b:(jK c.c m.at_.list m.mem (arrL ins))=_:=lq4 d s e (g.trans n5);rw[b];refine cG (t:=2) cK ?_;exact rs2 (none,0) trivial
  refine g7 ?_;refine bF (z':=m.mem-z) (jJ rfl k9 k9) ?_;refine g4 ?_;refine fD (λD=>?_) λD=>?_
  .refine g12 ?_;have b:(jK c.c m.at_.list m.mem (arrL ins))=_:=lq4 d s e (g.trans n5);rw[b];refine cG (t:=2) cK ?_;exact rs2 (none,0) trivial
  refine g5 ?_;refine inc (i+1) ?_;refine g3 ?_;exact bk2 (i+1) ⟨e9 (⟨k9,fits_yes hinv14.2 (cN hu) (oT hx) hz j (by show _/\_/\((x.data.list.length:Nat):Int)<=_;omega)⟩),e8⟩
 refine g6 ?_;have U:=fits_end hinv14.2 (by rw[cD];omega);have O:fitsL m.at_.list m.mem (arrL ins) (bufsL c.bufs.list) 0=true:=g.trans U;refine g3 ?_;refine bF (z':=((m.mem.toNat:Nat):Int)) k9 ?_;refine at_makeI64G (m:=m.mem.toNat) rfl rfl rfl rfl rfl rfl k9 λP=>?_;refine g5 ?_
 obtain⟨Z,N⟩: ∃Z,layL m.at_.list (arrL ins) (bufsL c.bufs.list) 0 (T9 m.mem.toNat 0)=Z:=⟨_,rfl⟩
 have v:(T9 m.mem.toNat (0:Int)).length=m.mem.toNat:=List.length_replicate ..;refine g8 ?_;refine bY (ι:=List Int×Nat) [(2,_),(4,_),(15,_),(104,_),(105,_)] ⟨rfl,rfl,rfl,rfl,rfl,e8⟩ (λ⟨M,i⟩=>[(106,.int .i64 (i:Nat))]) (λ⟨M,i⟩=>[cK.row (.slice (some ⟨P,0,none⟩) m.mem.toNat m.mem.toNat) 2 M]) (λ⟨M,i⟩=>[bE.pure (i<=c.bufs.list.length/\M.length=m.mem.toNat/\Z=layL m.at_.list (arrL ins) ((bufsL c.bufs.list).drop i) i M)]) (λ⟨M,i⟩=>c.bufs.list.length-i) (T9 m.mem.toNat 0,0) ⟨rfl,e8⟩ (.c0 .nil) ⟨e9 (⟨k9,v,N.symm⟩),e8⟩ ?_;rintro⟨M,i⟩;dsimp only;refine bM d7 λa=>?_;refine g6 ?_;refine fD (λr=>?_) λr=>?_
 .refine g5 ?_;obtain⟨u,hu⟩:=gx c.bufs.list i;have w:=Y u (f4 hu);refine g2 ?_;refine ss (ixs i) ?_;refine ss (kV hu 0) ?_;refine f9 xV λb8=>?_;refine g11 ?_;refine bRd (λp=>?_) λp=>?_
  .have f:=bMi (n:=0) (f4 (cN hu))
   replace f:u.input<rnMost c.c.bufs 0:=f
   rw[<-e,bEd]at f;obtain⟨x,hx⟩:=gx ins u.input.toNat;obtain⟨z,hz⟩:=gx m.at_.list i;refine bP (bRf x) (Has.each (Has.of mT7) (f4 hx))<|bM (arrF_sz d7) λW=>bP (cK.sl (.slice x.sides.addr x.sides.list.length x.sides.cap) x.sides.list) (arrF_s d7)<|bP (cK.sl (.slice x.data.addr x.data.list.length x.data.cap) x.data.list) (arrF_d d8) ?_;have hfg:0<=z/\z<=m.mem/\((x.data.list.length:Nat):Int)<=m.mem-z:=fits_get O (cN hu) o6 (oT hx) hz;refine dC _ _ [(true,0),(true,1),(true,2),(true,3),(true,4),(true,5),(true,6),(true,7),(true,8),(true,9),(true,10),(true,11),(true,12),(false,13)] dJ l8 (.c0 (.c1 (.c1 .nil))) bA.self ?_;refine g4 ?_;refine stM rfl (ixs i) ?_;refine stM rfl (jB hz 0) ?_;refine stM rfl (bKn hT (k:=z.toNat) rfl rfl rfl rfl rfl k9 k9) ?_;refine g3 ?_;refine stM rfl (bJ hT (k:=u.input.toNat) (bV (Has.of mT9)) rfl rfl rfl rfl rfl rfl k9 ((D9.1 hx).1)) ?_;refine one ?_;refine stM rfl (jB hx 1) ?_;refine one ?_;refine at_copyF (E:=cK) (q:=z.toNat) (ys:=x.data.list) (bV d7) rfl rfl rfl rfl underlying27 l4 rfl a.2.1 rfl rfl k9 kT1 ?_;refine g6 ?_;refine inc (i+1) ?_;refine g3 ?_;exact bk2 (bHm M z.toNat x.data.list,i+1) ⟨e9 (⟨by dsimp only;omega,(bSx k9).trans a.2.1,lay_one a.2.2 (cN hu) o6 (oT hx) hz rfl rfl⟩),e8⟩
  refine g5 ?_;refine inc (i+1) ?_;refine g3 ?_;exact bk2 (M,i+1) ⟨e9 (⟨by dsimp only;omega,a.2.1,lay_skip a.2.2 (cN hu) (by show u.input<0;omega)⟩),e8⟩
 refine g13 ?_;have X:=lay_end a.2.2 (by rw[cD];omega);have b:(jK c.c m.at_.list m.mem (arrL ins))=(M,0):=(lq0 d s e O).trans (by rw[<-X,<-N];rfl);rw[b];rw[show(Value.slice (some ⟨P,0,none⟩) m.mem.toNat m.mem.toNat)= .slice (some ⟨P,0,none⟩) M.length m.mem.toNat by rw[a.2.1]];exact rs2 (some ⟨P,0,none⟩,m.mem.toNat) trivial
theorem bCv{α:Type}{E:Flat α}{β:dE}{n:Nat}{Γ:Env}{H:List bC}{F:List bE}{K:Act->World->Prop}{A:Option Addr}{t:TypeId}{m cap:Nat}{xs:List α}{H':List bC}(hH:bU H (E.row (.slice A m cap) t xs) H')(h:xs.length<=9223372036854775807->At β n Γ H F K):At β n Γ H F K:=λa w S f s k=>by
 have b:w.ownsRow 0 t E.size (.slice A m cap) xs.length (E.all xs):=s.ok _ hH.mem;refine h ?_ a w S f s k;have i:maxLen=9223372036854775807:=by simp[maxLen]
 rcases b.2 with ⟨_,o⟩|⟨g,d,e,c,h1,l,j,h4,_⟩
 .omega
 .injection c with c e2 e3
  omega
end
end Go.Proofs.YtnfiadlonjediaaGreatDoor
