/- A part of one proof. -/
import Derived.Test.YtioekpienlhcgaaGreatDoorM8
set_option maxRecDepth 100000
namespace Go.Proofs.YtioekpienlhcgaaGreatDoor
open Go.RowKit Go.Proofs.Tryz
open Lib renaming decDigits->M8,nDigits->aC,nDigits_le20->aD
open _root_.UInt8 renaming ofNat->L9
open Value renaming string->Q5
open _root_.List renaming mem_cons->E2,drop_drop->K8,length_nil->O2,length->Q8,length_take->K6,length_cons->F5,drop_of_length_le->K3,getElem?_eq_some_iff->F3,length_map->O4,map_append->L2,getElem?_eq_getElem->F1,length_reverse->O8,map_cons->N7,sum_cons->N8,length_append->F4,getElem?_map->K1
open _root_.Bool renaming and_eq_true->J3
open _root_.Int renaming not_lt->Y7
open _root_.Nat renaming cast->L6,beq->l7,eq_of_beq_eq_true->A0,le_refl->B0,le_trans->B1
open Region renaming ready->G1,noSelect->G4
theorem bMu{u:Nat}{s:Bs}(h:9<u):M8 u++s=M8 (u/10)++([L9 (48+u%10)]++s):=by rw[M8,dif_neg m0,List.append_assoc]
theorem bMp{u:Nat}(h:u<=9):M8 u=[L9 (48+u)]:=by rw[M8,dif_pos m0]
theorem bVl{u:Nat}(h:9<u):aC u=aC (u/10)+1:=Lib.nDigits_big m0
section
variable {b : UInt8} {r : Bs}
theorem next_err(b:UInt8)(r:Bs)(hl:(b::r).length<=65536){e:Int}(ht:fC (b::r)= .error e):cY prog 140 [.string (bs (b::r)),k9 0] [] [] (λ_:Unit=> .tuple #[.agg #[k9 0,k9 0,.string (bs []),k9 0],k9 0,k9 e]) (λ_=>[]) (λ_=>[]):=by have:=bQi b r hl;rw[ht]at this;exact this
theorem next_ok(b:UInt8)(r:Bs)(hl:(b::r).length<=65536){k v:Int}{wd:Bs}{m:Nat}(ht:fC (b::r)= .ok (k,wd,v,m)):cY prog 140 [.string (bs (b::r)),k9 0] [] [] (λ_:Unit=> .tuple #[.agg #[k9 k,k9 0,.string (bs wd),k9 v],k9 (m:Nat),k9 0]) (λ_=>[]) (λ_=>[]):=by have:=bQi b r hl;rw[ht]at this;exact this
theorem mZ(hl:(b::r).length<=100)(h1:b≠32)(h2:b≠9)(h3:b≠35){k v:Int}{wd:Bs}{m:Nat}(ht:fC (b::r)= .ok (k,wd,v,m))(hk:k=1)(hw:wd=b::r)(hv:v=0)(hm:m=(b::r).length):tS (b::r)=true:=by
 simp only[tS,ht,hk,hw,hv,hm];simp[h1,h2,h3]
 simpa using hl
theorem pN(h:100<(b::r).length\/b=32\/b=9\/b=35\/(∃e,fC (b::r)= .error e)\/ ∃k v wd m,fC (b::r)= .ok (k,wd,v,m)/\(k≠1\/wd≠b::r\/v≠0\/m≠(b::r).length)):tS (b::r)=false:=by
 rcases h with h|h|h|h|⟨e,h⟩|⟨k,v,wd,m,ht,h⟩
 .have: ¬(b::r).length<=100:=m0
  simp only[tS,decide_eq_false this,Bool.false_and]
 .simp[tS,h]
 .simp[tS,h]
 .simp[tS,h]
 .simp only[tS,h,Bool.and_false]
 .simp only[tS,ht]
  rcases h with h|h|h|h<;>simp[h]
  all_goals (intros;simp_all)
end
theorem spell_cons(n:Int): ∃b r,fB n=b::r:=by
 cases h:fB n with
 |nil=>
  unfold fB at h;exact absurd (List.append_eq_nil_iff.1 h).2 (tX _)
 |cons b r=>exact⟨b,r,rfl⟩
theorem spell_b{n:Int}{b:UInt8}{r:Bs}(h:fB n=b::r):((b.toNat:Int)==32)=false/\((b.toNat:Int)==9)=false/\((b.toNat:Int)==35)=false:=by
 have key: ∀b:UInt8,b=95\/cW b=true->b.toNat=95\/(48<=b.toNat/\b.toNat<=57):=λb a=>by
  rcases a with rfl|a
  .exact .inl rfl
  .right
   simpa[cW]using a
 have:=key b (bFr h);refine⟨?_,?_,?_⟩<;>(rw[beq_eq_false_iff_ne];omega)
theorem rdigits_spec(n:Int)(h0: -9223372036854775808<=n)(h1:n<=9223372036854775807):cY prog 139 [k9 n] [] [] (λ(_:Unit)=> .string (bs (fB n))) (λ_=>[]) (λ_=>[]):=by
 have hT:=jI;refine j8 func139 ntmps139 ?_;intro β hM;refine g6 ?_
 rcases Int.lt_or_le n 0 with hn|hn
 .skip
  refine g3 ?_;refine bJ (z':=n+18446744073709551616) (wrapNeg m0 m0) ?_;refine g15 ?_;refine fA (λd=>?_) λd=>?_
  .refine g3 ?_;refine bJ (z':=((n.natAbs:Nat):Int)) (by rw[wrapNeg m0 m0];omega) ?_;refine g5 ?_;refine cI (ι:=Nat×Bs) [(0,_)] ⟨rfl,j1⟩ (λ⟨u,s⟩=>[(3,.int .u64 (u:Nat)),(4,.string (bs s))]) (λ_=>[]) (λ⟨u,s⟩=>[Fact.pure (M8 n.natAbs=M8 u++s/\u<=9223372036854775808/\s.length+aC u<=20)]) (λ⟨u,s⟩=>u) (n.natAbs,[]) ⟨rfl,rfl,j1⟩ .nil ⟨j2 (⟨n9,m0,by have:=aD n.natAbs m0;simp;omega⟩),j1⟩ ?_;rintro⟨u,s⟩;dsimp only;refine bG d7 λa=>?_;refine g7 ?_;refine fA (λc=>?_) λc=>?_
   .refine g6 ?_;refine ss (sti_rem rfl rfl rfl m9) ?_;refine bJ (z':=((u%10:Nat):Int)) al3 ?_;refine one ?_;refine bJ (z':=((48+u%10:Nat):Int)) ag1 ?_;refine one ?_;refine bJ (z':=(((L9 (48+u%10)).toNat:Nat):Int)) af5 ?_;refine vX (m:=(L9 (48+u%10))) rfl rfl rfl rfl rfl λh=>?_;refine ss (tV (bT .head rfl) underlying102 underlying5 underlying9 rfl rfl rfl n9) ?_;refine one ?_;refine ss (dI rfl rfl rfl s8) ?_;refine g5 ?_;refine ss (bNv rfl rfl rfl m9) ?_;refine bJ (z':=((u/10:Nat):Int)) ae0 ?_;refine g4 ?_;exact bk2 (u/10,[L9 (48+u%10)]++s) ⟨j2 (⟨by rw[a.1];exact bMu m0,by dsimp only;omega,by have:=bVl (u:=u) m0;simp;omega⟩),j1⟩
   refine g9 ?_;refine bJ (z':=((48+u:Nat):Int)) ag1 ?_;refine one ?_;refine bJ (z':=(((L9 (48+u)).toNat:Nat):Int)) af5 ?_;refine vX (m:=(L9 (48+u))) rfl rfl rfl rfl rfl λg=>?_;refine ss (tV (bT .head rfl) underlying102 underlying5 underlying9 rfl rfl rfl n9) ?_;refine one ?_;refine ss (dI rfl rfl rfl s8) ?_;refine g10 ?_;refine fA (λb=>?_) λb=>?_
   .refine g3 ?_;refine ss (dI rfl rfl rfl s8) ?_;refine g5 ?_;exact rs1 () j1 (he:=by rw[fB,a.1,bMp (u:=u) m0];simp[hn])
   omega
  omega
 skip
 refine g3 ?_;refine bJ (z':=((n.natAbs:Nat):Int)) ag1 ?_;refine g15 ?_;refine fA (λd=>?_) λd=>?_
 .omega
 refine g4 ?_;refine cI (ι:=Nat×Bs) [(0,_)] ⟨rfl,j1⟩ (λ⟨u,s⟩=>[(3,.int .u64 (u:Nat)),(4,.string (bs s))]) (λ_=>[]) (λ⟨u,s⟩=>[Fact.pure (M8 n.natAbs=M8 u++s/\u<=9223372036854775808/\s.length+aC u<=20)]) (λ⟨u,s⟩=>u) (n.natAbs,[]) ⟨rfl,rfl,j1⟩ .nil ⟨j2 (⟨n9,m0,by have:=aD n.natAbs m0;simp;omega⟩),j1⟩ ?_;rintro⟨u,s⟩;dsimp only;refine bG d7 λa=>?_;refine g7 ?_;refine fA (λc=>?_) λc=>?_
 .refine g6 ?_;refine ss (sti_rem rfl rfl rfl m9) ?_;refine bJ (z':=((u%10:Nat):Int)) al3 ?_;refine one ?_;refine bJ (z':=((48+u%10:Nat):Int)) ag1 ?_;refine one ?_;refine bJ (z':=(((L9 (48+u%10)).toNat:Nat):Int)) af5 ?_;refine vX (m:=(L9 (48+u%10))) rfl rfl rfl rfl rfl λf=>?_;refine ss (tV (bT .head rfl) underlying102 underlying5 underlying9 rfl rfl rfl n9) ?_;refine one ?_;refine ss (dI rfl rfl rfl s8) ?_;refine g5 ?_;refine ss (bNv rfl rfl rfl m9) ?_;refine bJ (z':=((u/10:Nat):Int)) ae0 ?_;refine g4 ?_;exact bk2 (u/10,[L9 (48+u%10)]++s) ⟨j2 (⟨by rw[a.1];exact bMu m0,by dsimp only;omega,by have:=bVl (u:=u) m0;simp;omega⟩),j1⟩
 refine g9 ?_;refine bJ (z':=((48+u:Nat):Int)) ag1 ?_;refine one ?_;refine bJ (z':=(((L9 (48+u)).toNat:Nat):Int)) af5 ?_;refine vX (m:=(L9 (48+u))) rfl rfl rfl rfl rfl λe=>?_;refine ss (tV (bT .head rfl) underlying102 underlying5 underlying9 rfl rfl rfl n9) ?_;refine one ?_;refine ss (dI rfl rfl rfl s8) ?_;refine g10 ?_;refine fA (λb=>?_) λb=>?_
 .omega
 refine g9 ?_;exact rs1 () j1 (he:=by rw[fB,a.1,bMp (u:=u) m0,if_neg m0];simp)
theorem rspellW_spec(b:UInt8)(r:Bs):cY prog 104 [.agg #[k9 1,k9 0,.string (bs (b::r)),k9 0]] [] [] (λ(_:Unit)=> .tuple #[.string (bs (if tS (b::r)then b::r else [])),.bool (tS (b::r))]) (λ_=>[]) (λ_=>[]):=by
 have hT:=jI;refine j8 func104 ntmps104 ?_;intro β hM;refine g2 ?_;refine j6 λu=>?_;refine g22 ?_;refine bF (t':=false) m9 ?_;refine g7 ?_;refine bF (t':=false) m9 ?_;refine g12 ?_;refine bJ (z':=(((b::r).length:Nat):Int)) rfl ?_;refine g2 ?_;refine rE (λn=>?_) λn=>?_
 .have:(b::r).length=r.length+1:=rfl;omega
 refine g2 ?_;refine bJ (z':=(((b::r).length:Nat):Int)) rfl ?_;refine g3 ?_;refine lK (λl=>?_) λl=>?_
 .refine g25 ?_;exact rs2 () j1 (he:=m8)
 refine one ?_;refine ss (fJ hT (k:=0) rfl rfl rfl rfl rfl rfl) ?_;refine g3 ?_;refine cF (λd=>?_) (λd=>?_)
 .have d:b=32:=dJ (k:=32) (eq_of_beq d);refine g20 ?_;exact rs2 () j1 (he:=m8)
 have d:b≠32:=dK (k:=32) (beq_eq_false_iff_ne.1 d);refine one ?_;refine ss (fJ hT (k:=0) rfl rfl rfl rfl rfl rfl) ?_;refine g3 ?_;refine cF (λc=>?_) (λc=>?_)
 .have c:b=9:=dJ (k:=9) (eq_of_beq c);refine g15 ?_;exact rs2 () j1 (he:=m8)
 have c:b≠9:=dK (k:=9) (beq_eq_false_iff_ne.1 c);refine one ?_;refine ss (fJ hT (k:=0) rfl rfl rfl rfl rfl rfl) ?_;refine g4 ?_;refine fT (λf=>?_) λf=>?_
 .have f:b=35:=dJ (k:=35) (eq_of_beq f);refine g8 ?_;exact rs2 () j1 (he:=m8)
 have f:b≠35:=dK (k:=35) (beq_eq_false_iff_ne.1 f);refine g3 ?_
 rcases ht:fC (b::r)with e|⟨k,p,v,m⟩
 .skip
  refine g2 ?_;refine j5 func140 (next_err b r m0 ht) j1 λ_=>?_;refine g4 ?_;refine j4 bBt λt=>?_;refine g11 ?_;refine xJ (λj=>?_) λj=>?_
  .refine g37 ?_;exact rs2 () j1 (he:=m8)
  exact absurd ‹_› (bQk ht)
 have q:=uZ ht;dsimp only at q;refine g2 ?_;refine j5 func140 (next_ok b r m0 ht) j1 λ_=>?_;refine g4 ?_;refine j4 bBt λs=>?_;refine g10 ?_;refine bF (t':=false) m9 ?_;refine g4 ?_;refine bJ (z':=(((b::r).length:Nat):Int)) rfl ?_;refine g3 ?_;refine xJ (λi=>?_) λi=>?_
 .refine g31 ?_;exact rs2 () j1 (he:=m8)
 refine g7 ?_;refine xJ (λg=>?_) λg=>?_
 .refine g24 ?_;exact rs2 () j1 (he:=m8)
 refine g7 ?_;refine cF (λa=>?_) (λa=>?_)
 .have a:p≠(b::r):=λh=>by rw[h]at a;first|(simp at a;done)|exact absurd a m9
  refine g17 ?_;exact rs2 () j1 (he:=m8)
 have a:p=(b::r):=eq_of_beq (mL a);refine g8 ?_;refine tL (λo=>?_) λo=>?_
 .refine g8 ?_;exact rs2 () j1 (he:=m8)
 refine g10 ?_;exact rs2 () j1 (he:=m8)
theorem rspellN_spec(n:Int)(h0: -9223372036854775808<=n)(h1:n<=9223372036854775807):cY prog 104 [.agg #[k9 2,k9 0,.string (bs []),k9 n]] [] [] (λ(_:Unit)=> .tuple #[.string (bs (fB n)),.bool true]) (λ_=>[]) (λ_=>[]):=by have hT:=jI;refine j8 func104 ntmps104 ?_;intro β hM;refine g2 ?_;refine j6 λf=>?_;refine g22 ?_;refine bF (t':=true) m9 ?_;refine g7 ?_;refine j5 func139 (rdigits_spec n h0 h1) j1 λ_=>?_;obtain⟨b,r,a⟩:=spell_cons n;have c:=spell_b a;have d:=mA h0 h1;have ht:=bIo h0 h1;rw[a]at d ht;refine iC (congrArg (λl:Bs=>Q5 (bs l)) a) ?_;refine g9 ?_;refine bJ (z':=(((b::r).length:Nat):Int)) rfl ?_;refine one ?_;refine bF (t':=false) (by rw[beq_eq_false_iff_ne];have:(b::r).length=r.length+1:=rfl;omega) ?_;refine g3 ?_;refine bJ (z':=(((b::r).length:Nat):Int)) rfl ?_;refine one ?_;refine bF (t':=false) (decide_eq_false m0) ?_;refine g3 ?_;refine ss (fJ hT (k:=0) rfl rfl rfl rfl rfl rfl) ?_;refine one ?_;refine bF (t':=false) (c.1) ?_;refine g3 ?_;refine ss (fJ hT (k:=0) rfl rfl rfl rfl rfl rfl) ?_;refine one ?_;refine bF (t':=false) (c.2.1) ?_;refine g3 ?_;refine ss (fJ hT (k:=0) rfl rfl rfl rfl rfl rfl) ?_;refine one ?_;refine bF (t':=false) (c.2.2) ?_;refine g9 ?_;refine j5 func140 (next_ok b r m0 ht) j1 λ_=>?_;refine g4 ?_;refine j4 bBt λe=>?_;refine g10 ?_;refine bF (t':=false) m9 ?_;refine g4 ?_;refine bJ (z':=(((b::r).length:Nat):Int)) rfl ?_;refine one ?_;refine bF (t':=false) n9 ?_;refine g7 ?_;refine bF (t':=false) m9 ?_;refine g7 ?_;refine bF (t':=false) (by rfl) ?_;refine g7 ?_;refine bF (t':=false) n9 ?_;refine g14 ?_;exact rs2 () j1 (he:=by rw[a])
def oneB (f:Int):Bool:=decide (1<=f/\f<=7\/f=16)
def iX (s:Bs)(t:Bool):Int:=
 if s=[43]then 1 else if s=[45]then 2 else if s=[42]then 3 else if s=[37]then 4 else if s=[124]then 5 else if s=[109,105,110]then 6 else if s=[109,97,120]then 7 else if s=[61]then 8
 else if s=[60]then 10 else if s=[60,61]then 11 else if s=[62,61]then 12 else if s=[62]then 13 else if s=[97,110,100]then 14 else if s=[111,114]then 15 else if s=[112,111,119]then 17
 else if s=[126]then (if t then 9 else 16)else 0
section
variable {f : Int} {two : Bool}
theorem bDh(ht:two=true)(h:1<=f/\f<=17/\f≠16):true=(if two then pF f else oneB f):=by rw[ht,if_pos rfl,pF,decide_eq_true h]
theorem bCy(ht:two=true)(h: ¬(1<=f/\f<=17)):false=(if two then pF f else oneB f):=by rw[ht,if_pos rfl,pF,decide_eq_false m0]
theorem bCw(ht:two=true)(h:1<=f)(h':f<=17):(f !=16)=(if two then pF f else oneB f):=by
 rw[ht,if_pos rfl,pF]
 by_cases e:f=16
 .rw[e];rfl
 .rw[decide_eq_true ⟨h,h',e⟩];simpa using e
theorem bUs(ht:two=false)(h:1<=f/\f<=7):true=(if two then pF f else oneB f):=by rw[ht,if_neg n9,oneB,decide_eq_true (.inl h)]
theorem bVd(ht:two=false)(h: ¬(1<=f/\f<=7)):(f==16)=(if two then pF f else oneB f):=by
 rw[ht,if_neg n9,oneB]
 by_cases e:f=16
 .rw[e];rfl
 .rw[decide_eq_false m0];simpa using e
end
def gZ (s:Bs)(t:Bool):Int:=
 if iX s t≠0 then (if (if t then pF (iX s t)else oneB (iX s t))=true then iX s t else 0)
 else if s=[114,104,111]then (if t then 37 else 0)else if s=[116,97,107,101]then (if t then 38 else 0)else if s=[100,114,111,112]then (if t then 39 else 0)else if s=[99,97,116]then (if t then 40 else 0)
 else if s=[105,111,116,97]then (if t then 0 else 32)else if s=[115,104,97,112,101]then (if t then 0 else 33)else if s=[114,97,118,101,108]then (if t then 0 else 34)else if s=[114,101,118]then (if t then 0 else 35)else if s=[116,117,114,110]then (if t then 0 else 36)else 0
theorem refVerb_eq(s:Bs)(t:Bool):gZ s t=gA s t:=by
 by_cases q:s∈verbWords
 .have key: ∀s∈verbWords,∀t:Bool,gZ s t=gA s t:=m9
  exact key s q t
 .simp only[verbWords,E2,List.not_mem_nil,or_false,not_or]at q;obtain⟨h1,h2,x,h4,w,v,u,A,r,p,o,n,m,l,k,j,i,h,g,f,e,d,c,b,a⟩:=q;have hn:iX s t=0:=by simp only[iX,h1,h2,x,h4,w,v,u,A,r,p,o,n,m,l,k,j,if_false]
  have y:jG s=0:=by simp only[jG,h1,h2,x,h4,w,v,u,A,r,p,o,n,m,l,k,j,i,h,g,f,if_false]
  have z:nU s=0:=by simp only[nU,h1,h2,x,h4,w,v,u,r,e,d,c,b,a,or_self,if_false]
  have hr:gZ s t=0:=by simp only[gZ,hn,i,h,g,f,e,d,c,b,a,ne_eq,not_true_eq_false,if_false]
  rw[hr,gA,z,y];cases t<;>rfl
def bAu (s:Bs):Bool:=tS s&&(!(nH s)&&(!(s==[105,110])&& !(s==[111,117,116])))
theorem bCr: ∀(f i:Nat) (s:Bs) (out:List Tok) (t:Tok),t∈(lexGo f i s out).1->t∈out\/ ∃j b r,s.drop j=b::r/\mW b=false/\(b==35)=false/\ ∃m,fC (b::r)= .ok (t.kind,t.word,t.n,m)
 |0,_,_,_,_,h=> .inl h
 |_+1,_,[],_,_,h=> .inl h
 |f+1,i,b::r,out,t,h=>by
  unfold lexGo at h;split at h
  .rcases bCr f _ _ _ t h with h|⟨j,c,q,h1,h2⟩
   .exact .inl h
   .exact .inr ⟨j+1,c,q,h1,h2⟩
  .rename_i a;split at h
   .rcases bCr f _ _ _ t h with h|⟨j,c,q,h1,h2⟩
    .exact .inl h
    .exact .inr ⟨_,c,q,by rw[<-h1,K8],h2⟩
   .rename_i hn;split at h
    .simp at h
    .rename_i k d v m ht
     rcases bCr f _ _ _ t h with h|⟨j,c,q,h1,h2⟩
     .rcases List.mem_append.1 h with h|h
      .exact .inl h
      .rw[List.mem_singleton.1 h];exact .inr ⟨0,b,r,rfl,by simpa using a,by simpa using hn,m,ht⟩
     .exact .inr ⟨_,c,q,by rw[<-h1,K8],h2⟩
theorem word_tok{s:Bs}{k v:Int}{wd:Bs}{m:Nat}(h:fC s= .ok (k,wd,v,m))(hk:k=1):v=0/\wd=s.take m/\m<=s.length:=by
 cases s with
 |nil=>cases h
 |cons b r=>
  subst hk;simp only[fC]at h;split at h
  .simp at h
  .split at h
   .split at h
    .cases h
    .simp only[Except.ok.injEq,Prod.mk.injEq]at h;obtain⟨_,rfl,rfl,rfl⟩:=h;exact⟨rfl,rfl,kU _ _⟩
   .split at h
    .cases h
    .rename_i t ht;simp only[Except.ok.injEq]at h;subst h;unfold iU at ht;dsimp only at ht
     by_cases a:(b==95)=true
     .simp only[a,if_true]at ht;split at ht
      .cases ht
      .split at ht
       .cases ht
       .simp at ht
     .simp only[a,Bool.false_eq_true,if_false]at ht;split at ht
      .cases ht
      .split at ht
       .cases ht
       .simp at ht
    .split at h
     .cases h
     .simp at h
theorem lex_single{b:UInt8}{r:Bs}{k v:Int}{wd:Bs}(hl:(b::r).length<=65536)(hb:mW b=false)(hn:(b==35)=false)(ht:fC (b::r)= .ok (k,wd,v,(b::r).length)):hO (b::r)=([⟨k,0,wd,v⟩],(0,0)):=by unfold hO;rw[if_neg m0,oQ,hb,if_neg n9,hn,if_neg n9,ht];simp only[List.drop_length,O2];rfl
theorem wordR_lex(s:Bs):tS s=wK s:=by
 rw[Bool.eq_iff_iff];constructor
 .intro h
  cases s with
  |nil=>cases h
  |cons b r=>
   unfold tS at h;simp only[J3,decide_eq_true_eq,bne_iff_ne]at h;obtain⟨d,u,C,p,h⟩:=h
   cases ht:fC (b::r)with
   |error e=>rw[ht]at h;cases h
   |ok t=>
    obtain⟨k,x,v,m⟩:=t;rw[ht]at h;simp only[J3,beq_iff_eq]at h;obtain⟨⟨⟨rfl,rfl⟩,rfl⟩,rfl⟩:=h;unfold wK;rw[lex_single m0 (by simp[mW,u,C]) (by simpa using p) ht];simp[rS]
 .intro h;unfold wK at h;rw[J3]at h;obtain⟨_,h⟩:=h
  cases d:(hO s).1 with
  |nil=>rw[d]at h;cases h
  |cons t q=>
   cases q with
   |cons _ _=>rw[d]at h;cases h
   |nil=>
    rw[d]at h;simp only[J3,beq_iff_eq]at h;obtain⟨z,y⟩:=h;have w:=(lex_ok s t (by rw[d];simp)).word;have l:t∈(hO s).1:=by rw[d];simp
    unfold hO at l;split at l
    .simp at l
    .rcases bCr _ _ _ _ t l with h|⟨j,b,r,n,o,hn,m,ht⟩
     .simp at h
     .obtain⟨A,f,i⟩:=word_tok ht z;have a:=congrArg Q8 n;rw[List.length_drop]at a;rw[y]at f w;have c:=congrArg Q8 f;rw[K6,Nat.min_eq_left i]at c
      have B:j=0:=by simp only[F5]at a i;omega
      subst B;rw[List.drop_zero]at n;subst n;simp only[mW,Bool.or_eq_false_iff]at o;have g:m=(b::r).length:=m0
      rw[z,y,A,g]at ht;refine mZ m0 ?_ ?_ ?_ ht rfl rfl rfl rfl
      .simpa using o.1
      .simpa using o.2
      .simpa using hn
theorem nameR_eq(s:Bs):bAu s=dQ s:=by unfold bAu dQ;rw[wordR_lex];cases wK s<;>cases nH s<;>cases s==[105,110]<;>cases s==[111,117,116]<;>rfl
section
variable {s : Bs}
theorem any_a(h:(gA s false !=0)=true):true=nH s:=by rw[nH,show(nU s !=0)=true from h];rfl
theorem any_b(h:(gA s false !=0)=false):(gA s true !=0)=nH s:=by rw[nH,show(nU s !=0)=false from h];rfl
theorem nm_0:false=bAu []:=rfl
theorem nm_a(h:tS s=false):false=bAu s:=by rw[bAu,h];rfl
theorem nm_b(h:nH s=true):false=bAu s:=by rw[bAu,h];simp
theorem nm_c(h:s=[105,110]):false=bAu s:=by rw[bAu,h];simp
theorem nm_d(h:tS s=true)(h1:nH s=false)(h2:s≠[105,110]):(!(s==[111,117,116]))=bAu s:=by rw[bAu,h,h1,beq_eq_false_iff_ne.2 h2];simp
end
theorem bMf(f:Int)(two:Bool):cY prog 137 [l5 f,.bool two] [] [] (λ(_:Unit)=> .bool (if two then pF f else oneB f)) (λ_=>[]) (λ_=>[]):=by
 have hT:=jI;refine j8 func137 ntmps137 ?_;intro β hM;refine g11 ?_;refine fT (λe=>?_) λe=>?_
 .refine g5 ?_;refine bRw (λd=>?_) λd=>?_
  .refine g4 ?_;refine bRw (λc=>?_) λc=>?_
   .refine g8 ?_;exact rs1 () j1 (he:=q7)
   refine g8 ?_;exact rs1 () j1 (he:=q7)
  refine g12 ?_;exact rs1 () j1 (he:=q7)
 refine g7 ?_;refine bRw (λb=>?_) λb=>?_
 .refine g4 ?_;refine bRw (λa=>?_) λa=>?_
  .refine g7 ?_;exact rs1 () j1 (he:=q7)
  refine g7 ?_;exact rs1 () j1 (he:=q7)
 refine g11 ?_;exact rs1 () j1 (he:=q7)
theorem rnumber_spec(s:Bs)(t:Bool):cY prog 164 [.string (bs s),.bool t] [] [] (λ(_:Unit)=> l5 (iX s t)) (λ_=>[]) (λ_=>[]):=by
 have hT:=jI;refine j8 func164 ntmps164 ?_;intro β hM;refine g18 ?_;refine fT (λj=>?_) λj=>?_
 .have j:s=([43]:Bs):=eq_of_beq j;refine g8 ?_;exact rs1 () j1 (he:=by simp[iX, *])
 have j:s≠([43]:Bs):=λh=>absurd (beq_iff_eq.2 h) (by rw[show(s==([43]:Bs))=false from j];simp);refine g6 ?_;refine fT (λi=>?_) λi=>?_
 .have i:s=([45]:Bs):=eq_of_beq i;refine g8 ?_;exact rs1 () j1 (he:=by simp[iX, *])
 have i:s≠([45]:Bs):=λh=>absurd (beq_iff_eq.2 h) (by rw[show(s==([45]:Bs))=false from i];simp);refine g6 ?_;refine fT (λhc10=>?_) λhc10=>?_
 .have hc10:s=([42]:Bs):=eq_of_beq hc10;refine g8 ?_;exact rs1 () j1 (he:=by simp[iX, *])
 have hc10:s≠([42]:Bs):=λh=>absurd (beq_iff_eq.2 h) (by rw[show(s==([42]:Bs))=false from hc10];simp);refine g6 ?_;refine fT (λg=>?_) λg=>?_
 .have g:s=([37]:Bs):=eq_of_beq g;refine g8 ?_;exact rs1 () j1 (he:=by simp[iX, *])
 have g:s≠([37]:Bs):=λh=>absurd (beq_iff_eq.2 h) (by rw[show(s==([37]:Bs))=false from g];simp);refine g6 ?_;refine fT (λhc14=>?_) λhc14=>?_
 .have hc14:s=([124]:Bs):=eq_of_beq hc14;refine g8 ?_;exact rs1 () j1 (he:=by simp[iX, *])
 have hc14:s≠([124]:Bs):=λh=>absurd (beq_iff_eq.2 h) (by rw[show(s==([124]:Bs))=false from hc14];simp);refine g6 ?_;refine fT (λf=>?_) λf=>?_
 .have f:s=([109,105,110]:Bs):=eq_of_beq f;refine g8 ?_;exact rs1 () j1 (he:=by simp[iX, *])
 have f:s≠([109,105,110]:Bs):=λh=>absurd (beq_iff_eq.2 h) (by rw[show(s==([109,105,110]:Bs))=false from f];simp);refine g6 ?_;refine fT (λe=>?_) λe=>?_
 .have e:s=([109,97,120]:Bs):=eq_of_beq e;refine g8 ?_;exact rs1 () j1 (he:=by simp[iX, *])
 have e:s≠([109,97,120]:Bs):=λh=>absurd (beq_iff_eq.2 h) (by rw[show(s==([109,97,120]:Bs))=false from e];simp);refine g6 ?_;refine fT (λd=>?_) λd=>?_
 .have d:s=([61]:Bs):=eq_of_beq d;refine g8 ?_;exact rs1 () j1 (he:=by simp[iX, *])
 have d:s≠([61]:Bs):=λh=>absurd (beq_iff_eq.2 h) (by rw[show(s==([61]:Bs))=false from d];simp);refine g6 ?_;refine fT (λc=>?_) λc=>?_
 .have c:s=([60]:Bs):=eq_of_beq c;refine g8 ?_;exact rs1 () j1 (he:=by simp[iX, *])
 have c:s≠([60]:Bs):=λh=>absurd (beq_iff_eq.2 h) (by rw[show(s==([60]:Bs))=false from c];simp);refine g6 ?_;refine fT (λhc24=>?_) λhc24=>?_
 .have hc24:s=([60,61]:Bs):=eq_of_beq hc24;refine g8 ?_;exact rs1 () j1 (he:=by simp[iX, *])
 have hc24:s≠([60,61]:Bs):=λh=>absurd (beq_iff_eq.2 h) al5;refine g6 ?_;refine fT (λhc26=>?_) λhc26=>?_
 .have hc26:s=([62,61]:Bs):=eq_of_beq hc26;refine g8 ?_;exact rs1 () j1 (he:=by simp[iX, *])
 have hc26:s≠([62,61]:Bs):=λh=>absurd (beq_iff_eq.2 h) al6;refine g6 ?_;refine fT (λb=>?_) λb=>?_
 .have b:s=([62]:Bs):=eq_of_beq b;refine g8 ?_;exact rs1 () j1 (he:=by simp[iX, *])
 have b:s≠([62]:Bs):=λh=>absurd (beq_iff_eq.2 h) (by rw[show(s==([62]:Bs))=false from b];simp);refine g6 ?_;refine fT (λhc30=>?_) λhc30=>?_
 .have hc30:s=([97,110,100]:Bs):=eq_of_beq hc30;refine g8 ?_;exact rs1 () j1 (he:=by simp[iX, *])
 have hc30:s≠([97,110,100]:Bs):=λh=>absurd (beq_iff_eq.2 h) ak7;refine g6 ?_;refine fT (λhc32=>?_) λhc32=>?_
 .have hc32:s=([111,114]:Bs):=eq_of_beq hc32;refine g8 ?_;exact rs1 () j1 (he:=by simp[iX, *])
 have hc32:s≠([111,114]:Bs):=λh=>absurd (beq_iff_eq.2 h) al1;refine g6 ?_;refine fT (λhc34=>?_) λhc34=>?_
 .have hc34:s=([112,111,119]:Bs):=eq_of_beq hc34;refine g8 ?_;exact rs1 () j1 (he:=by simp[iX, *])
 have hc34:s≠([112,111,119]:Bs):=λh=>absurd (beq_iff_eq.2 h) ak5;refine g6 ?_;refine fT (λa=>?_) λa=>?_
 .have a:s=([126]:Bs):=eq_of_beq a;refine g6 ?_;refine fT (λk=>?_) λk=>?_
  .refine g9 ?_;exact rs1 () j1 (he:=by simp[iX, *])
  refine g10 ?_;exact rs1 () j1 (he:=by simp[iX, *])
 have a:s≠([126]:Bs):=λh=>absurd (beq_iff_eq.2 h) (by rw[show(s==([126]:Bs))=false from a];simp);refine g9 ?_;exact rs1 () j1 (he:=by simp[iX, *])
theorem bFl(s:Bs)(t:Bool):cY prog 141 [.string (bs s),.bool t] [] [] (λ(_:Unit)=> .tuple #[l5 (gA s t),.bool (gA s t !=0)]) (λ_=>[]) (λ_=>[]):=by
 have hT:=jI;rw[<-refVerb_eq];refine j8 func141 ntmps141 ?_;intro β hM;refine g10 ?_;refine j5 func164 (rnumber_spec s t) j1 λ_=>?_;refine g10 ?_;refine tL (λhc11=>?_) λhc11=>?_
 .refine g5 ?_;refine bC func137 (bMf _ t) rfl rfl .nil j1 λ_=>?_;refine g2 ?_;refine fT (λhc14=>?_) λhc14=>?_
  .refine g10 ?_;exact rs2 () j1 (he:=v8)
  refine g10 ?_;exact rs2 () j1 (he:=v8)
 refine g15 ?_;refine fT (λg=>?_) λg=>?_
 .have g:s=([114,104,111]:Bs):=eq_of_beq g;refine g10 ?_;refine bF (t':=true) m9 ?_;refine g9 ?_;refine fT (λb=>?_) λb=>?_
  .refine g10 ?_;exact rs2 () j1 (he:=v8)
  refine g10 ?_;exact rs2 () j1 (he:=v8)
 have g:s≠([114,104,111]:Bs):=λh=>absurd (beq_iff_eq.2 h) (by rw[show(s==([114,104,111]:Bs))=false from g];simp);refine g6 ?_;refine fT (λhc19=>?_) λhc19=>?_
 .have hc19:s=([116,97,107,101]:Bs):=eq_of_beq hc19;refine g10 ?_;refine bF (t':=true) m9 ?_;refine g9 ?_;refine fT (λb=>?_) λb=>?_
  .refine g10 ?_;exact rs2 () j1 (he:=v8)
  refine g10 ?_;exact rs2 () j1 (he:=v8)
 have hc19:s≠([116,97,107,101]:Bs):=λh=>absurd (beq_iff_eq.2 h) (by rw[show(s==([116,97,107,101]:Bs))=false from hc19];simp);refine g6 ?_;refine fT (λf=>?_) λf=>?_
 .have f:s=([100,114,111,112]:Bs):=eq_of_beq f;refine g10 ?_;refine bF (t':=true) m9 ?_;refine g9 ?_;refine fT (λb=>?_) λb=>?_
  .refine g10 ?_;exact rs2 () j1 (he:=v8)
  refine g10 ?_;exact rs2 () j1 (he:=v8)
 have f:s≠([100,114,111,112]:Bs):=λh=>absurd (beq_iff_eq.2 h) (by rw[show(s==([100,114,111,112]:Bs))=false from f];simp);refine g6 ?_;refine fT (λe=>?_) λe=>?_
 .have e:s=([99,97,116]:Bs):=eq_of_beq e;refine g10 ?_;refine bF (t':=true) m9 ?_;refine g9 ?_;refine fT (λb=>?_) λb=>?_
  .refine g10 ?_;exact rs2 () j1 (he:=v8)
  refine g10 ?_;exact rs2 () j1 (he:=v8)
 have e:s≠([99,97,116]:Bs):=λh=>absurd (beq_iff_eq.2 h) (by rw[show(s==([99,97,116]:Bs))=false from e];simp);refine g8 ?_;refine bF (t':=false) ((congrArg not (show((iX s t)==0)=true from (by rw[hc11];rfl)):(!_)=_)) ?_;refine g18 ?_;refine fT (λhc30=>?_) λhc30=>?_
 .have hc30:s=([105,111,116,97]:Bs):=eq_of_beq hc30;refine g10 ?_;refine bF (t':=false) m9 ?_;refine g5 ?_;refine fT (λa=>?_) λa=>?_
  .refine g8 ?_;exact rs2 () j1 (he:=v8)
  refine g10 ?_;exact rs2 () j1 (he:=v8)
 have hc30:s≠([105,111,116,97]:Bs):=λh=>absurd (beq_iff_eq.2 h) (by rw[show(s==([105,111,116,97]:Bs))=false from hc30];simp);refine g6 ?_;refine fT (λhc32=>?_) λhc32=>?_
 .have hc32:s=([115,104,97,112,101]:Bs):=eq_of_beq hc32;refine g10 ?_;refine bF (t':=false) m9 ?_;refine g5 ?_;refine fT (λa=>?_) λa=>?_
  .refine g8 ?_;exact rs2 () j1 (he:=v8)
  refine g10 ?_;exact rs2 () j1 (he:=v8)
 have hc32:s≠([115,104,97,112,101]:Bs):=λh=>absurd (beq_iff_eq.2 h) (by rw[show(s==([115,104,97,112,101]:Bs))=false from hc32];simp);refine g6 ?_;refine fT (λhc34=>?_) λhc34=>?_
 .have hc34:s=([114,97,118,101,108]:Bs):=eq_of_beq hc34;refine g10 ?_;refine bF (t':=false) m9 ?_;refine g5 ?_;refine fT (λa=>?_) λa=>?_
  .refine g8 ?_;exact rs2 () j1 (he:=v8)
  refine g10 ?_;exact rs2 () j1 (he:=v8)
 have hc34:s≠([114,97,118,101,108]:Bs):=λh=>absurd (beq_iff_eq.2 h) (by rw[show(s==([114,97,118,101,108]:Bs))=false from hc34];simp);refine g6 ?_;refine fT (λd=>?_) λd=>?_
 .have d:s=([114,101,118]:Bs):=eq_of_beq d;refine g10 ?_;refine bF (t':=false) m9 ?_;refine g5 ?_;refine fT (λa=>?_) λa=>?_
  .refine g8 ?_;exact rs2 () j1 (he:=v8)
  refine g10 ?_;exact rs2 () j1 (he:=v8)
 have d:s≠([114,101,118]:Bs):=λh=>absurd (beq_iff_eq.2 h) (by rw[show(s==([114,101,118]:Bs))=false from d];simp);refine g6 ?_;refine fT (λc=>?_) λc=>?_
 .have c:s=([116,117,114,110]:Bs):=eq_of_beq c;refine g10 ?_;refine bF (t':=false) m9 ?_;refine g5 ?_;refine fT (λa=>?_) λa=>?_
  .refine g8 ?_;exact rs2 () j1 (he:=v8)
  refine g10 ?_;exact rs2 () j1 (he:=v8)
 have c:s≠([116,117,114,110]:Bs):=λh=>absurd (beq_iff_eq.2 h) (by rw[show(s==([116,117,114,110]:Bs))=false from c];simp);refine g8 ?_;refine bF (t':=true) (by rw[hc11];rfl) ?_;refine g14 ?_;exact rs2 () j1 (he:=v8)
theorem rAny_spec(s:Bs):cY prog 105 [.string (bs s)] [] [] (λ(_:Unit)=> .bool (nH s)) (λ_=>[]) (λ_=>[]):=by
 have hT:=jI;refine j8 func105 ntmps105 ?_;intro β hM;refine g8 ?_;refine j5 func141 (bFl s false) j1 λ_=>?_;refine g10 ?_;refine j5 func141 (bFl s true) j1 λ_=>?_;refine g11 ?_;refine cF (λa=>?_) (λa=>?_)
 .refine g6 ?_;exact rs1 () j1 (he:=ah2)
 refine g6 ?_;exact rs1 () j1 (he:=ah2)
theorem rspell0_spec:cY prog 104 [.agg #[k9 1,k9 0,.string (bs []),k9 0]] [] [] (λ(_:Unit)=> .tuple #[.string (bs []),.bool false]) (λ_=>[]) (λ_=>[]):=by have hT:=jI;refine j8 func104 ntmps104 ?_;intro β hM;refine g2 ?_;refine j6 λa=>?_;refine g22 ?_;refine bF (t':=false) m9 ?_;refine g7 ?_;refine bF (t':=false) m9 ?_;refine g12 ?_;refine bJ (z':=((([]:Bs).length:Nat):Int)) rfl ?_;refine one ?_;refine bF (t':=true) (by rfl) ?_;refine g31 ?_;exact rs2 () trivial
theorem yR(s:Bs):cY prog 67 [.string (bs s)] [] [] (λ(_:Unit)=> .bool (dQ s)) (λ_=>[]) (λ_=>[]):=by
 have hT:=jI;rw[<-nameR_eq];refine j8 func67 ntmps67 ?_;intro β hM;refine g6 ?_
 rcases s with _|⟨b,r⟩
 .refine g2 ?_;refine ss (j7 (pJ _ _)) ?_;refine j5 func104 (rspell0_spec) j1 λ_=>?_;refine g32 ?_;exact rs1 () j1 (he:=w6)
 refine g2 ?_;refine ss (j7 (pJ _ _)) ?_;refine j5 func104 (rspellW_spec b r) j1 λ_=>?_;refine g11 ?_;refine cF (λd=>?_) (λd=>?_)
 .refine g3 ?_;refine bF (t':=true) ag4 ?_;refine g3 ?_;refine j5 func105 (rAny_spec (b::r)) j1 λ_=>?_;refine g3 ?_;refine k_nt (λc=>?_) λc=>?_
  .refine g4 ?_;refine cF (λa=>?_) (λa=>?_)
   .have a:(b::r)≠([105,110]:Bs):=λh=>by rw[h]at a;first|(simp at a;done)|exact absurd a m9
    refine g7 ?_;exact rs1 () j1 (he:=w6)
   have a:(b::r)=([105,110]:Bs):=eq_of_beq (mL a);refine g7 ?_;exact rs1 () j1 (he:=w6)
  refine g11 ?_;exact rs1 () j1 (he:=w6)
 refine g21 ?_;exact rs1 () j1 (he:=w6)
def bLl:List (Nat×Value):=verbWords.zipIdx.map λp=>(p.2,.string (bs p.1))
theorem at_words{β:fR}{n:Nat}{Γ:Env}{H:List bL}{F:List Fact}{Q:Exit->Act->World->Prop}{ops:Array Oper}{rest:List Oper}{o:Oper}{d:Nat}{parts:List (Nat×Operand)}(hw:want ops Γ o=some true)(ho:o.op= .buildSlice 46 25 parts.toArray)(hd:o.dst=some d)(hn:Nat.blt d n=true)
  (hp: ∀a:Act,(parts.map λ(i,x)=>(i,a.eval x))=bLl) (k: ∀b,At β n ((d,.slice (some ⟨b,0,none⟩) verbWords.length verbWords.length)::Γ) (lN.row (.slice (some ⟨b,0,none⟩) verbWords.length verbWords.length) 9 verbWords::H) F (wpList prog ops Q rest)):At β n Γ H F (wpList prog ops Q (o::rest)):=by
 obtain⟨i,hi,c,hs,_⟩:=bNk;refine bBg (e:=9) (cs:=lN.all verbWords) hw ho hd hn (λa w f=>?_) λb=>dN (E:=lN) (xs:=verbWords) .head m9 (k b);rw[show(parts.toArray.map λ(i,x)=>(i,a.eval x))=bLl.toArray by rw[<-hp a];simp];refine run_buildSlice w _ _ 25 bLl.toArray _ i _ underlying46 hi c m0 m0 ?_;rw[hs]
 kernel_rfl
section
variable {f : Int} {two : Bool} {i : Nat} {s : Bs}
theorem first_here(h:kO two f (verbWords.drop i)=dP two f)(hs:verbWords[i]?=some s)(hh:(gA s two !=0)=true)(he:gA s two=f):s=dP two f:=by rw[<-h,gX hs,kO,hh,he];simp
theorem bPf(h:kO two f (verbWords.drop i)=dP two f)(hs:verbWords[i]?=some s)(hh:(gA s two !=0)=false\/gA s two≠f):kO two f (verbWords.drop (i+1))=dP two f:=by
 rw[<-h,gX hs,kO,if_neg]
 rcases hh with hh|hh
 .simp[hh]
 .simp[hh]
theorem first_end(h:kO two f (verbWords.drop i)=dP two f)(hi:25<=i):[]=dP two f:=by rw[<-h,K3 af1];rfl
end
section
variable {it : ItemV}
theorem bPr(h:it.fn≠0):operandR it.it=nV:=by rw[operandR,if_pos (show it.it.fn≠0 from h)]
theorem bEx(h:it.fn=0)(h2:it.H=2)(hb:(0:Int)<((it.nums.A.length:Nat):Int)\/dQ it.name=false):operandR it.it=nV:=by
 rw[operandR,if_neg (show ¬it.it.fn≠0 from λk=>k h),if_pos (show it.it.H=2 from h2),if_pos]
 rcases hb with hb|hb
 .exact .inl (fZ hb)
 .exact .inr hb
theorem yT(h:it.fn=0)(h2:it.H=2)(hb:it.nums.A.length=0)(hn:dQ it.name=true):operandR it.it=⟨it.name,true,1,0⟩:=by
 rw[operandR,if_neg (show ¬it.it.fn≠0 from λk=>k h),if_pos (show it.it.H=2 from h2),if_neg]
 .rfl
 .rintro(k|k)
  .exact k (List.eq_nil_of_length_eq_zero hb)
  .have:dQ it.name=false:=k;rw[hn]at this;cases this
theorem bGf(h:it.fn=0)(h2:it.H≠2)(hb:it.name≠[]\/256<it.nums.A.length):operandR it.it=nV:=by rw[operandR,if_neg (show ¬it.it.fn≠0 from λk=>k h),if_neg (show ¬it.it.H=2 from h2),if_pos (show it.it.name≠[]\/256<it.it.nums.length from hb)]
theorem yW(h:it.fn=0)(h2:it.H≠2)(hn:it.name=[])(hl:it.nums.A.length<=256):operandR it.it=⟨joinSp (it.nums.A.map fB),true,it.nums.A.length,0⟩:=by
 rw[operandR,if_neg (show ¬it.it.fn≠0 from λk=>k h),if_neg (show ¬it.it.H=2 from h2),if_neg,bAl]
 .rfl
 .rintro(k|k)
  .exact k hn
  .have:256<it.nums.A.length:=k;omega
end
theorem bRm{l:List Int}{z:Int}(h:l[0]?=some z):fB z=joinSp ((l.take (0+1)).map fB):=by
 cases l with
 |nil=>simp at h
 |cons x r=>simp at h;subst h;rfl
theorem bUv{l:List Int}{i:Nat}{z:Int}(h:l[i]?=some z)(hi:0<i):(joinSp ((l.take i).map fB)++[32])++fB z=joinSp ((l.take (i+1)).map fB):=by
 have a:=(F3.1 h).1
 have h0:(l.take i).map fB≠[]:=by intro k;have:=congrArg Q8 k;rw[O4,K6,O2]at this;omega
 rw[show l.take (i+1)=l.take i++[z] by rw[List.take_add_one,h];rfl,L2,wO _ _ h0 n9];simp[joinSp]
theorem mR:(prog.info? 164).bind (·.zero)=some (.agg #[.string (bs []),.bool false,k9 0,k9 0]):=m7
theorem gF:prog.built 164 []=some #[.string (bs []),.bool false,k9 0,k9 0]:=m7
theorem lI(s0:ByteArray)(b1:Bool)(z2:Int):prog.built 164 [(0,.string s0),(1,.bool b1),(2,k9 z2)]=some #[.string s0,.bool b1,k9 z2,k9 0]:=m7
theorem pV(s0:ByteArray)(z2:Int)(z3:Int):prog.built 164 [(0,.string s0),(2,k9 z2),(3,k9 z3)]=some #[.string s0,.bool false,k9 z2,k9 z3]:=m7
theorem rwords_spec:cY prog 159 [] [] [] (λ(x:Nat)=> .slice (some ⟨x,0,none⟩) verbWords.length verbWords.length) (λ_=>[]) (λ(x:Nat)=>[lN.sl (.slice (some ⟨x,0,none⟩) verbWords.length verbWords.length) verbWords]):=by have hT:=jI;refine j8 func159 ntmps159 ?_;intro β hM;refine sr<|sp hT ?_;refine nn<|sr<|at_words rfl rfl rfl rfl (λ_=>rfl) λa=>?_;refine sp hT ?_;refine nn<|cX<|bS .head ?_;exact jF a rfl (bX rfl) .nil ⟨d7,j1⟩ rfl
theorem tB(f:Int)(two:Bool):cY prog 136 [l5 f,.bool two] [] [] (λ(_:Unit)=> .string (bs (dP two f))) (λ_=>[]) (λ_=>[]):=by
 have hT:=jI;refine j8 func136 ntmps136 ?_;intro β hM;refine sr<|sp hT ?_;refine nn<|sr<|j5 func159 rwords_spec j1 λx1=>?_;refine sp hT ?_;refine nn<|bP<|sr<|sp hT ?_;refine nn<|iE<|cI (ι:=Nat) [(0,_),(1,_),(5,_)] ⟨rfl,rfl,rfl,j1⟩ (λi=>[(6,.int .i64 (i:Nat))]) (λ_=>[]) (λi=>[Fact.pure (i<=25/\kO two f (verbWords.drop i)=dP two f)]) (λi=>25-i) 0 ⟨rfl,j1⟩ .nil ⟨j2 (⟨m0,qG two f⟩),j1⟩ ?_;rintro i;refine bG d7 λa=>?_;refine bP<|sr<|sp3 hT ?_;refine bJ (z':=((25:Nat):Int)) (rfl) ?_;refine sp hT ?_;refine nn<|bW rfl (λb=>?_) (λb=>?_)
 .have b:=of_decide_eq_true b;refine fF<|cZ<|bP<|iE<|sr<|sp2 hT ?_
  obtain⟨e,c⟩: ∃x',verbWords[i]?=some x':=⟨_,F1 af1⟩
  refine ss (cC hT (k:=i) (bE d8) rfl rfl rfl rfl rfl rfl rfl af1) ?_;refine ss (j9 hT (dC.knows (bE d8) (k:=i) (x:=e) c 0)) ?_;refine sp hT ?_;refine j5 func141 (bFl e two) j1 λ_=>?_;refine sp4 hT ?_;refine sp hT ?_;refine nn<|sr<|sp2 hT ?_;refine cF (λd=>?_) (λd=>?_)
  .refine sp4 hT ?_;refine nn<|bW rfl (λhc30=>?_) (λhc30=>?_)
   .have hc30:=eq_of_beq hc30;refine sr<|sp2 hT ?_;refine ss (cC hT (k:=i) (bE d8) rfl rfl rfl rfl rfl rfl rfl af1) ?_;refine ss (j9 hT (dC.knows (bE d8) (k:=i) (x:=e) c 0)) ?_;refine sp hT ?_;refine nn<|cX<|iD<|cH<|cH<|iD<|cH ?_;exact jF () rfl (bX rfl) .nil j1 (congrArg (λs:Bs=>Q5 (bs s)) (first_here a.2 c ‹_› ‹_›))
   have hc30:=beq_eq_false_iff_ne.1 hc30;refine fF<|lW<|cZ<|dE<|sp2 hT ?_;refine bJ (z':=(((i+1):Nat):Int)) (kD m0 m0) ?_;refine sp hT ?_;refine nn ?_;exact dR (i+1) m0 ⟨rfl,j1⟩ ⟨rfl,rfl,rfl,j1⟩ .nil ⟨j2 (⟨m0,bPf a.2 c o5⟩),j1⟩ (bA.drop 1)
  refine sk3 ?_;refine sp hT ?_;refine nn<|jL rfl rfl ?_;refine fF<|lW<|cZ<|dE<|sp2 hT ?_;refine bJ (z':=(((i+1):Nat):Int)) (kD m0 m0) ?_;refine sp hT ?_;refine nn ?_;exact dR (i+1) m0 ⟨rfl,j1⟩ ⟨rfl,rfl,rfl,j1⟩ .nil ⟨j2 (⟨m0,bPf a.2 c o5⟩),j1⟩ (bA.drop 1)
 have b:=Y7.1 (of_decide_eq_false b);refine sV<|nE<|nE<|sY<|cZ<|sr<|sp hT ?_;refine nn<|cX ?_;exact jF () rfl (bX rfl) .nil j1 (congrArg (λs:Bs=>Q5 (bs s)) (first_end a.2 m0))
theorem bEr(n:Int)(h0: -9223372036854775808<=n)(h1:n<=9223372036854775807):cY prog 102 [k9 n] [] [] (λ(_:Unit)=> .string (bs (fB n))) (λ_=>[]) (λ_=>[]):=by have hT:=jI;refine j8 func102 ntmps102 ?_;intro β hM;refine sr<|sp hT ?_;refine nn<|sr<|sp hT ?_;refine ss (j7 (pR _ _)) ?_;refine j5 func104 (rspellN_spec n h0 h1) j1 λ_=>?_;refine sp4 hT ?_;refine sp hT ?_;refine nn<|sr<|sp2 hT ?_;refine nn<|cX ?_;exact jF () rfl (bX rfl) .nil j1 (rfl)
theorem bDw(it:ItemV)(hz: ∀z∈it.nums.A,-9223372036854775808<=z/\z<=9223372036854775807):cY prog 135 [.agg #[k9 it.H,k9 it.at_,l5 it.fn,.string (bs it.name),k7 it.nums]] [] [bNi it] (λ(_:Unit)=> .agg #[.string (bs (operandR it.it).s),.bool (operandR it.it).plain,k9 ((operandR it.it).D:Nat),k9 ((operandR it.it).J:Nat)]) (λ_=>[]) (λ_=>[]):=by
 have hT:=jI;refine j8 func135 ntmps135 ?_;intro β hM;refine sr<|j6 λo=>?_;refine j4 mR λn=>?_;refine nn<|bP<|sr<|sp hT ?_;refine ss (ldO hT (tI kT1)) ?_;refine sp hT ?_;refine nn<|bW rfl (λf=>?_) (λf=>?_)
 .have f:=bne_iff_ne.1 f;refine sr<|ss (j7 (gF)) ?_;refine sto hT .head ?_;refine nn<|cX<|cH ?_;exact jF () rfl (tA hT (gC .head) rfl rfl rfl rfl) .nil j1 o9
 have f:=bne_eq_false_iff_eq.1 f;refine fF<|cZ<|bP<|sr<|sp hT ?_;refine ss (ldO hT (gC kT1)) ?_;refine sp hT ?_;refine nn<|bW rfl (λhc11=>?_) (λhc11=>?_)
 .have hc11:=eq_of_beq hc11;refine bP<|sr<|sp hT ?_;refine ss (ldO hT (bPm kT1)) ?_;refine sp3 hT ?_;refine cF (λb=>?_) (λb=>?_)
  .have b:=of_decide_eq_true b;refine sk4 ?_;refine sp hT ?_;refine nn<|cA rfl rfl ?_;refine sr<|ss (j7 (gF)) ?_;refine sto hT .head ?_;refine nn<|cX<|cH<|cH ?_;exact jF () rfl (tA hT (gC .head) rfl rfl rfl rfl) .nil j1 o9
  have b:=Y7.1 (of_decide_eq_false b);refine sp hT ?_;refine ss (ldO hT (bDt kT1)) ?_;refine bC func67 (yR _) rfl rfl .nil j1 λ_=>?_;refine sp2 hT ?_;refine nn<|bW rfl (λe=>?_) (λe=>?_)
  .have e:=xB e;refine sr<|ss (j7 (gF)) ?_;refine sto hT .head ?_;refine nn<|cX<|cH<|cH ?_;exact jF () rfl (tA hT (gC .head) rfl rfl rfl rfl) .nil j1 o9
  have e:=mL e;refine fF<|cZ<|sr<|sp hT ?_;refine ss (ldO hT (bDt kT1)) ?_;refine ss (j7 (lI _ _ _)) ?_;refine sto hT .head ?_;refine nn<|cX<|cH ?_;exact jF () rfl (tA hT (gC .head) rfl rfl rfl rfl) .nil j1 o9
 have hc11:=beq_eq_false_iff_ne.1 hc11;refine fF<|cZ<|bP<|sr<|sp hT ?_;refine ss (ldO hT (bDt kT1)) ?_;refine sp2 hT ?_;refine cF (λa=>?_) (λa=>?_)
 .have a:it.name≠([]:Bs):=λh=>by rw[h]at a;first|(simp at a;done)|exact absurd a m9
  refine sk4 ?_;refine sp hT ?_;refine nn<|cA rfl rfl ?_;refine sr<|ss (j7 (gF)) ?_;refine sto hT .head ?_;refine nn<|cX<|cH ?_;exact jF () rfl (tA hT (gC .head) rfl rfl rfl rfl) .nil j1 o9
 have a:it.name=([]:Bs):=eq_of_beq (mL a);refine sp hT ?_;refine ss (ldO hT (bPm kT1)) ?_;refine sp3 hT ?_;refine nn<|bW rfl (λhc34=>?_) (λhc34=>?_)
 .have hc34:=of_decide_eq_true hc34;refine sr<|ss (j7 (gF)) ?_;refine sto hT .head ?_;refine nn<|cX<|cH ?_;exact jF () rfl (tA hT (gC .head) rfl rfl rfl rfl) .nil j1 o9
 have hc34:=Y7.1 (of_decide_eq_false hc34);refine fF<|cZ<|sr<|sp hT ?_;refine nn<|bP<|sr<|sp hT ?_;refine nn<|iE<|cI (ι:=Nat×Bs) [(1,_),(2,_)] ⟨rfl,rfl,j1⟩ (λ⟨i,t⟩=>[(3,.string (bs t)),(4,.int .i64 (i:Nat))]) (λ_=>[]) (λ⟨i,t⟩=>[Fact.pure (i<=it.nums.A.length/\t=joinSp ((it.nums.A.take i).map fB)/\t.length<=22*i)]) (λ⟨i,t⟩=>it.nums.A.length-i) (0,[]) ⟨rfl,rfl,j1⟩ .nil ⟨j2 (⟨m0,rfl,n9⟩),j1⟩ ?_;rintro⟨i,t⟩;dsimp only;refine bG d7 λhinv11=>?_;refine bP<|sr<|sp2 hT ?_;refine ss (ldO hT (bPm kT1)) ?_;refine sp2 hT ?_;refine nn<|bW rfl (λd=>?_) (λd=>?_)
 .have d:=of_decide_eq_true d;refine fF<|cZ<|bP<|iE<|bP<|sr<|sp2 hT ?_;refine nn<|bW rfl (λc=>?_) (λc=>?_)
  .have c:=of_decide_eq_true c;refine dE<|sp hT ?_;refine ss (dI rfl rfl rfl q9) ?_;refine sp hT ?_;refine nn<|dE<|sp2 hT ?_;refine ss (ldO hT (bPm kT1)) ?_;refine sp hT ?_
   obtain⟨x3,j⟩: ∃x',it.nums.A[i]?=some x':=⟨_,F1 m0⟩
   refine ss (cC hT (k:=i) (bE d8) rfl rfl rfl rfl rfl rfl rfl m0) ?_;refine ss (j9 hT (dC.knows (bE d8) (k:=i) (x:=x3) j 0)) ?_;have hr:=hz x3 (j3 j);have l:=mA hr.1 hr.2;refine bC func102 (bEr _ hr.1 hr.2) rfl rfl .nil j1 λ_=>?_;refine ss (dI rfl rfl rfl q9) ?_;refine sp hT ?_;refine sJ<|lW<|cZ<|dE<|sp2 hT ?_;refine bJ (z':=(((i+1):Nat):Int)) (kD m0 m0) ?_;refine sp hT ?_;refine nn ?_;exact dR (i+1,_) aa2 ⟨rfl,rfl,j1⟩ ⟨rfl,rfl,j1⟩ (.c0 (.c0 .nil)) ⟨j2 (⟨by dsimp only;omega,by rw[hinv11.2.1];first|exact bUv j m0|(have h0:i=0:=by omega);subst h0;exact bRm j,by simp;omega⟩),j1⟩ (bA.drop 1)
  have c:=Y7.1 (of_decide_eq_false c);refine fF<|cZ<|dE<|sp2 hT ?_;refine ss (ldO hT (bPm kT1)) ?_;refine sp hT ?_
  obtain⟨m,g⟩: ∃x',it.nums.A[i]?=some x':=⟨_,F1 m0⟩
  refine ss (cC hT (k:=i) (bE d8) rfl rfl rfl rfl rfl rfl rfl m0) ?_;refine ss (j9 hT (dC.knows (bE d8) (k:=i) (x:=m) g 0)) ?_;have hr:=hz m (j3 g);have l:=mA hr.1 hr.2;refine bC func102 (bEr _ hr.1 hr.2) rfl rfl .nil j1 λ_=>?_;refine ss (dI rfl rfl rfl q9) ?_;refine sp hT ?_;refine sJ<|lW<|cZ<|dE<|sp2 hT ?_;refine bJ (z':=(((i+1):Nat):Int)) (kD m0 m0) ?_;refine sp hT ?_;refine nn ?_;exact dR (i+1,_) aa2 ⟨rfl,rfl,j1⟩ ⟨rfl,rfl,j1⟩ (.c0 (.c0 .nil)) ⟨j2 (⟨by dsimp only;omega,by rw[hinv11.2.1];first|exact bUv g m0|(have h0:i=0:=by omega);subst h0;exact bRm g,by simp;omega⟩),j1⟩ (bA.drop 1)
 have d:=Y7.1 (of_decide_eq_false d);refine sV<|nE<|nE<|sY<|cZ<|sr<|sp2 hT ?_;refine ss (ldO hT (bPm kT1)) ?_;refine sp hT ?_;refine ss (j7 (lI _ _ _)) ?_;refine sto hT .head ?_;refine nn<|cX ?_;exact jF () rfl (tA hT (gC .head) rfl rfl rfl rfl) .nil j1 o9
theorem bXh(p:Part)(hs:p.s.length<=140737488355000)(ht:p.D<=140737488355000)(hn:p.J<=140737488355000):cY prog 138 [.agg #[.string (bs p.s),.bool p.plain,k9 (p.D:Nat),k9 (p.J:Nat)]] [] [] (λ(_:Unit)=> .agg #[.string (bs (brkR p).s),.bool (brkR p).plain,k9 ((brkR p).D:Nat),k9 ((brkR p).J:Nat)]) (λ_=>[]) (λ_=>[]):=by
 have hT:=jI;refine j8 func138 ntmps138 ?_;intro β hM;refine sr<|j6 λc=>?_;refine j4 mR λb=>?_;refine nn<|bP<|sr<|sp hT ?_;refine ss (ldO hT (bRq kT1)) ?_;refine nn<|bW rfl (λa=>?_) (λa=>?_)
 .refine sr<|ss (ldN hT (gC kT1)) ?_;refine sto hT .head ?_;refine nn<|cX<|cH ?_;exact jF () rfl (tA hT (gC .head) rfl rfl rfl rfl) .nil j1 aj1
 refine fF<|cZ<|sr<|sp hT ?_;refine ss (ldO hT (gC kT1)) ?_;refine ss (dI rfl rfl rfl q9) ?_;refine ss (dI rfl rfl rfl q9) ?_;refine sp hT ?_;refine ss (ldO hT (tI kT1)) ?_;refine sp hT ?_;refine bJ (z':=(((p.D+2):Nat):Int)) (kD m0 m0) ?_;refine sp hT ?_;refine ss (ldO hT (bDt kT1)) ?_;refine sp hT ?_;refine bJ (z':=(((p.J+1):Nat):Int)) (kD m0 m0) ?_;refine ss (j7 (pV _ _ _)) ?_;refine sto hT .head ?_;refine nn<|cX ?_;exact jF () rfl (tA hT (gC .head) rfl rfl rfl rfl) .nil j1 aj1
theorem zP(f:Int):cY prog 137 [l5 f,.bool true] [] [] (λ_:Unit=> .bool (pF f)) (λ_=>[]) (λ_=>[]):=bMf f true
section
variable {x : fE} {l r : List Part} {p q : Part} {b : Bool} {mk : Bs} {k : Nat}
theorem how_cases(_: ¬(x.H=1\/x.H=2)):x.H=3\/x.H=4\/x.H=5\/x.H=6\/x.H=7\/(x.H<3\/7<x.H):=m0
theorem st_op(h:x.H=1\/x.H=2):stepR l x=if 0<(operandR x).D then some (operandR x::l)else none:=by unfold stepR;rw[if_pos h]
theorem st_op_v(h:x.H=1\/x.H=2):decide ((0:Int)<(((operandR x).D:Nat):Int))=(stepR l x).isSome:=by
 rw[st_op h]
 by_cases h0:0<(operandR x).D
 .rw[if_pos h0,decide_eq_true m0];rfl
 .rw[if_neg h0,decide_eq_false m0];rfl
theorem st_op_r(h:x.H=1\/x.H=2)(hr:stepR l x=some r):l.reverse++[operandR x]=r.reverse:=by
 rw[st_op h]at hr;split at hr
 .cases hr;simp
 .cases hr
theorem mI(ho: ¬(x.H=1\/x.H=2))(hb:x.H<3\/7<x.H\/x.nums≠[]\/x.name≠[]):stepR l x=none:=by unfold stepR;rw[if_neg ho,if_pos hb]
theorem wF(ho: ¬(x.H=1\/x.H=2))(hv:(verbR x).1=[]):stepR l x=none:=by
 unfold stepR;rw[if_neg ho];split
 .rfl
 .first|rfl|rw[if_pos hv]
theorem hZ(ho: ¬(x.H=1\/x.H=2))(hl:l.length<1):stepR l x=none:=by
 match l,hl with
 |[],_=>
  unfold stepR;rw[if_neg ho];split
  .rfl
  .split
   .rfl
   .split<;>rfl
theorem hQ(ho: ¬(x.H=1\/x.H=2))(ht:uS x.H=true)(hl:l.length<2):stepR l x=none:=by
 unfold stepR;rw[if_neg ho,ht]
 match l,hl with
 |[],_=>
  split
  .rfl
  .split<;>rfl
 |[_],_=>
  split
  .rfl
  .split<;>rfl
 |_::_::_,hl=>simp at hl;omega
theorem bAh(hb:(x.H !=3)=b)(h:dP b x.fn=[]\/x.H≠3/\x.H≠4/\pF x.fn=false):(verbR x).1=[]:=by subst hb;unfold verbR;rw[qG];dsimp only;rw[if_pos h]
theorem vr_ok(hb:(x.H !=3)=b)(h1:dP b x.fn≠[])(h2:x.H=3\/x.H=4\/pF x.fn=true)(hm:bAj x.H=mk)(hk:(if 5<=x.H then 2 else 1)=k):verbR x=(dP b x.fn++mk,k):=by
 subst hb hm hk;unfold verbR;rw[qG];dsimp only;rw[if_neg];rintro(h|⟨h3,h4,h5⟩)
 .exact h1 h
 .rcases h2 with h|h|h
  .exact h3 h
  .exact h4 h
  .rw[h]at h5;cases h5
theorem vr_ok0(hb:(x.H !=3)=b)(h1:dP b x.fn≠[])(h2:x.H=3\/x.H=4):verbR x=(dP b x.fn,1):=by
 rw[vr_ok (mk:=[]) (k:=1) hb h1 (by rcases h2 with h|h<;>simp[h]) (by rcases h2 with h|h<;>simp[bAj,h]) (by rcases h2 with h|h<;>simp[h]),List.append_nil]
variable {w : Bs}
theorem yS(h3:3<=x.H)(h7:x.H<=7)(hn:x.nums=[])(hm:x.name=[])(hv:verbR x=(w,k))(hw:w≠[])(ht:uS x.H=false):stepR (p::r) x=some (⟨(w++[32])++p.s,false,k+p.D,p.J⟩::r):=by
 unfold stepR;rw[if_neg m0,if_neg,hv,if_neg hw,ht]
 .rfl
 .rintro(h|h|h|h)
  .omega
  .omega
  .exact h hn
  .exact h hm
theorem bLf(h3:3<=x.H)(h7:x.H<=7)(hn:x.nums=[])(hm:x.name=[])(hv:verbR x=(w,k))(hw:w≠[])(ht:uS x.H=true):stepR (p::q::r) x=some (⟨(((brkR q).s++[32])++w++[32])++p.s,false,(brkR q).D+k+p.D,max (brkR q).J p.J⟩::r):=by
 unfold stepR;rw[if_neg m0,if_neg,hv,if_neg hw,ht]
 .rfl
 .rintro(h|h|h|h)
  .omega
  .omega
  .exact h hn
  .exact h hm
end
section
variable {α : Type} {x y : α} {r : List α}
theorem cons1G{l:List α}(h:1<=l.length): ∃p r,l=p::r:=by
 match l,h with
 |p::r,_=>exact⟨p,r,rfl⟩
theorem cons2G{l:List α}(h:2<=l.length): ∃p q r,l=p::q::r:=by
 match l,h with
 |p::q::r,_=>exact⟨p,q,r,rfl⟩
theorem rev1G:(x::r).reverse[(r.length+1)-1]?=some x:=by simp
theorem rev2G:(x::y::r).reverse[(r.length+2)-1]?=some x/\(x::y::r).reverse[(r.length+2)-2]?=some y:=by
 constructor
 .simp
 .simp
end
theorem rcut1{F:List Fact}{B:Option Addr}{e:Nat}{p:Part}{r:List Part}(h:Has F (iG.sl (.slice B (p::r).reverse.length e) (p::r).reverse)):Has F (iG.sl (.slice B r.reverse.length e) r.reverse):=by
 have:=bBy h (k:=r.length) n9;rw[show r.reverse.length=r.length from O8]
 rwa[show(p::r).reverse.take r.length=r.reverse by simp]at this
theorem rcut2{F:List Fact}{B:Option Addr}{e:Nat}{p q:Part}{r:List Part}(h:Has F (iG.sl (.slice B (p::q::r).reverse.length e) (p::q::r).reverse)):Has F (iG.sl (.slice B r.reverse.length e) r.reverse):=by
 have:=bBy h (k:=r.length) n9;rw[show r.reverse.length=r.length from O8]
 rwa[show(p::q::r).reverse.take r.length=r.reverse by simp]at this
theorem brk_len(p:Part):(brkR p).s.length<=p.s.length+2/\(brkR p).D<=p.D+2/\(brkR p).J<=p.J+1:=by
 unfold brkR;split
 .exact⟨m0,m0,m0⟩
 .exact⟨n9,n9,n9⟩
theorem rstep_spec(B:Option Addr)(e:Nat)(st:List Part)(it:ItemV)(hz: ∀z∈it.nums.A,-9223372036854775808<=z/\z<=9223372036854775807)(hl:st.length<=1000000)(hok: ∀p∈st,p.s.length<=1000000000/\p.D<=1000000000/\p.J<=1000000000):cY prog 103 [.slice B st.reverse.length e,.agg #[k9 it.H,k9 it.at_,l5 it.fn,.string (bs it.name),k7 it.nums]] [iG.row (.slice B st.reverse.length e) 164 st.reverse] [bNi it] (λ(x:Option Addr×Nat×List Part)=> .tuple #[.slice x.1 x.2.2.length x.2.1,.bool (stepR st it.it).isSome]) (λ(x:Option Addr×Nat×List Part)=>[iG.row (.slice x.1 x.2.2.length x.2.1) 164 x.2.2]) (λ(x:Option Addr×Nat×List Part)=>[Fact.pure (∀r,stepR st it.it=some r->x.2.2=r.reverse)]):=by
 have hT:=jI;refine j8 func103 ntmps103 ?_;intro β hM;refine sr<|j6 λb1=>?_;refine sp2 hT ?_;refine nn<|bP<|sr<|sp hT ?_;refine ss (ldO hT (gC .head)) ?_;refine sp2 hT ?_;refine cF (λG=>?_) (λG=>?_)
 .have G:=eq_of_beq G;refine sk3 ?_;refine sp hT ?_;refine nn<|cA rfl rfl ?_;refine bP ?_;have J:it.it.H=1\/it.it.H=2:=by first|exact .inl ‹_›|exact .inr ‹_›
  refine dE<|ss (ldN hT (gC .head)) ?_;refine j5 func135 (bDw it hz) ⟨d7,j1⟩ λ_=>?_;refine j4 mR λb2=>?_;refine sto hT .head ?_;refine nn<|bP<|cK _ _ [k8,u0,A00,u6,A02,A05,A06,A01,A03] cN o8 (.c0 (.c0 .nil)) bA.self ?_;refine puM hT ?_;refine stM rfl (ldN hT (gC .head)) ?_;refine puM hT ?_;refine stM rfl (ldO hT (tI .head)) ?_;refine puM hT ?_;refine bEv (o:=_) rfl ?_;refine gW (m:=(operandR it.it)) rfl rfl rfl rfl rfl λb3=>?_;refine fK (.c1 (.c1 .nil)) (bA.drop 0) ?_;refine bEv (o:=_) rfl ?_;refine dM kT3 (bT .head rfl) rfl rfl rfl rfl rfl rfl rfl o0 λA4 c5=>?_;refine fK (.c2 (.c2 .nil)) (bA.drop 0) ?_;refine puM hT ?_;refine puM hT ?_;refine tZ<|cZ<|cX<|cH ?_;exact dD (_,_,(st.reverse++[(operandR it.it)])) rfl (bX rfl) (bX rfl) (.c0 .nil) ⟨j2 (λr hr=>st_op_r J hr),j1⟩ (congrArg (λb:Bool=>Value.tuple #[_,.bool b]) (st_op_v J))
 have G:=beq_eq_false_iff_ne.1 G;refine sp hT ?_;refine ss (ldO hT (gC .head)) ?_;refine sp2 hT ?_;refine nn<|bW rfl (λC=>?_) (λC=>?_)
 .have M:=C;have C:=eq_of_beq C;refine bP ?_;have J:it.it.H=1\/it.it.H=2:=by first|exact .inl ‹_›|exact .inr ‹_›
  refine dE<|ss (ldN hT (gC .head)) ?_;refine j5 func135 (bDw it hz) ⟨d7,j1⟩ λ_=>?_;refine j4 mR λb6=>?_;refine sto hT .head ?_;refine nn<|bP<|cK _ _ [k8,u0,A00,u6,A02,A05,A06,A01,A03] cN o8 (.c0 (.c0 .nil)) bA.self ?_;refine puM hT ?_;refine stM rfl (ldN hT (gC .head)) ?_;refine puM hT ?_;refine stM rfl (ldO hT (tI .head)) ?_;refine puM hT ?_;refine bEv (o:=_) rfl ?_;refine gW (m:=(operandR it.it)) rfl rfl rfl rfl rfl λb7=>?_;refine fK (.c1 (.c1 .nil)) (bA.drop 0) ?_;refine bEv (o:=_) rfl ?_;refine dM kT3 (bT .head rfl) rfl rfl rfl rfl rfl rfl rfl o0 λA8 c9=>?_;refine fK (.c2 (.c2 .nil)) (bA.drop 0) ?_;refine puM hT ?_;refine puM hT ?_;refine tZ<|cZ<|cX<|cH ?_;exact dD (_,_,(st.reverse++[(operandR it.it)])) rfl (bX rfl) (bX rfl) (.c0 .nil) ⟨j2 (λr hr=>st_op_r J hr),j1⟩ (congrArg (λb:Bool=>Value.tuple #[_,.bool b]) (st_op_v J))
 have M:=C;have C:=beq_eq_false_iff_ne.1 C;refine fF<|cZ<|bP ?_;have a: ¬(it.it.H=1\/it.it.H=2):=by(have h1:it.H≠1:=by assumption);(have h2:it.H≠2:=by assumption);exact not_or.2 ⟨h1,h2⟩
 refine fS kT1 λI=>bS kT1 ?_
 rcases how_cases a with hh|hh|hh|hh|hh|hh
 .refine dE<|sp hT ?_;refine ss (ldO hT (gC .head)) ?_;refine bJ (z':=((3:Nat):Int)) hh ?_;refine sp hT ?_;refine bF (t':=false) m9 ?_;refine sp2 hT ?_;refine ss (ldO hT (gC .head)) ?_;refine bJ (z':=((3:Nat):Int)) hh ?_;refine sp hT ?_;refine bF (t':=false) m9 ?_;refine sp2 hT ?_;refine nn<|bP<|sr<|sp hT ?_;refine ss (ldO hT (gC .head)) ?_;refine bJ (z':=((3:Nat):Int)) hh ?_;refine sp hT ?_;refine bF (t':=false) m9 ?_;refine sp2 hT ?_;refine ss (ldO hT (gC .head)) ?_;refine bJ (z':=((3:Nat):Int)) hh ?_;refine sp hT ?_;refine bF (t':=false) m9 ?_;refine sp3 hT ?_;refine ss (ldO hT (bPm .head)) ?_;refine sp4 hT ?_;refine cF (λi=>?_) (λi=>?_)
  .have i:=of_decide_eq_true i;refine sk3 ?_;refine sp2 hT ?_;refine sk3 ?_;refine sp2 hT ?_;refine sk4 ?_;refine sk2 ?_;refine sp hT ?_;refine nn<|cA rfl rfl ?_;refine sr<|sp2 hT ?_;refine nn<|cX<|cH<|bQ (t:=164) iG ?_;have hs:stepR st it.it=none:=by first|exact mI a n0|exact hQ a r8 m0|exact hZ a m0
   exact dD (none,0,[]) rfl (bX rfl) (bX rfl) (.c0 .nil) ⟨j2 (λr hr=>by rw[hs]at hr;cases hr),j1⟩ aa6
  have i:=Y7.1 (of_decide_eq_false i);refine sp hT ?_;refine ss (ldO hT (bDt .head)) ?_;refine sp3 hT ?_;refine cF (λd=>?_) (λd=>?_)
  .have d:it.name≠([]:Bs):=λh=>by rw[h]at d;first|(simp at d;done)|exact absurd d m9
   refine sk3 ?_;refine sp2 hT ?_;refine sk4 ?_;refine sk2 ?_;refine sp hT ?_;refine nn<|cA rfl rfl ?_;refine sr<|sp2 hT ?_;refine nn<|cX<|cH<|bQ (t:=164) iG ?_;have hs:stepR st it.it=none:=by first|exact mI a n0|exact hQ a r8 m0|exact hZ a m0
   exact dD (none,0,[]) rfl (bX rfl) (bX rfl) (.c0 .nil) ⟨j2 (λr hr=>by rw[hs]at hr;cases hr),j1⟩ aa6
  have d:it.name=([]:Bs):=eq_of_beq (mL d);refine sp2 hT ?_;refine bJ (z':=((st.length:Nat):Int)) (congrArg L6 O8) ?_;refine sp3 hT ?_;refine cF (λg=>?_) (λg=>?_)
  .have g:=of_decide_eq_true g;refine sk4 ?_;refine sk2 ?_;refine sp hT ?_;refine nn<|cA rfl rfl ?_;refine sr<|sp2 hT ?_;refine nn<|cX<|cH<|bQ (t:=164) iG ?_;have hs:stepR st it.it=none:=by first|exact mI a n0|exact hQ a r8 m0|exact hZ a m0
   exact dD (none,0,[]) rfl (bX rfl) (bX rfl) (.c0 .nil) ⟨j2 (λr hr=>by rw[hs]at hr;cases hr),j1⟩ aa6
  have g:=Y7.1 (of_decide_eq_false g);refine sp2 hT ?_;refine sk3 ?_;refine sp2 hT ?_;refine nn<|jL rfl rfl ?_;refine fF<|cZ<|bP ?_;obtain⟨c,st,rfl⟩:=cons1G (l:=st) m0;have L:=hok c n9;simp only[F5]at hl;simp only[O8,F5]at I;refine dE<|sp3 hT ?_;refine bJ (z':=(((st.length+1):Nat):Int)) n9 ?_;refine sp hT ?_;refine bJ (z':=((((st.length+1)-1):Nat):Int)) (kD m0 m0) ?_;refine ss (cC hT (k:=((st.length+1)-1)) (bE d7) rfl rfl rfl rfl rfl rfl rfl ab6) ?_;refine ss (fM hT (dC.knows (bE d7) (k:=((st.length+1)-1)) (x:=c) rev1G 0) rfl rfl rfl rfl rfl) ?_;refine j4 mR λb10=>?_;refine sto hT .head ?_;refine nn<|sr<|sp hT ?_;refine ss (ldO hT (tI kT1)) ?_;refine sp hT ?_;refine ss (ldO hT (gC kT1)) ?_;refine bJ (z':=((3:Nat):Int)) hh ?_;refine sp hT ?_;refine bF (t':=false) m9 ?_;refine j5 func136 (tB it.fn false) j1 λ_=>?_;have A:(it.it.H !=3)=false:=by rw[show it.it.H=3 from hh];rfl
  have K:=oU false it.fn;refine sp hT ?_;refine nn<|bP<|sr<|sp3 hT ?_;refine cF (λhg85=>?_) (λhg85=>?_)
  .have hg85:(dP false it.fn)=([]:Bs):=eq_of_beq hg85;refine sk4 ?_;refine sk4 ?_;refine sk4 ?_;refine sk2 ?_;refine sp hT ?_;refine nn<|cA rfl rfl ?_;refine sr<|sp2 hT ?_;refine nn<|cX<|cH<|bQ (t:=164) iG ?_;have hs:stepR (c::st) it.it=none:=wF a (bAh A v7);exact dD (none,0,[]) rfl (bX rfl) (bX rfl) (.c0 .nil) ⟨j2 (λr hr=>by rw[hs]at hr;cases hr),j1⟩ aa6
  have hg85:(dP false it.fn)≠([]:Bs):=λh=>absurd (beq_iff_eq.2 h) (by rw[show((dP false it.fn)==([]:Bs))=false from hg85];simp);refine sp hT ?_;refine ss (ldO hT (gC kT1)) ?_;refine bJ (z':=((3:Nat):Int)) hh ?_;refine sp hT ?_;refine bF (t':=false) m9 ?_;refine sp hT ?_;refine sk3 ?_;refine sp2 hT ?_;refine sk4 ?_;refine sp2 hT ?_;refine nn<|jL rfl rfl ?_;refine fF<|cZ<|sr<|sp hT ?_;refine nn<|bP<|sr<|sp hT ?_;refine ss (ldO hT (gC kT1)) ?_;refine bJ (z':=((3:Nat):Int)) hh ?_;refine nn<|iE<|sr<|sp hT ?_;refine bF (t':=false) m9 ?_;refine sp hT ?_;refine nn<|jL rfl rfl ?_;refine sr<|sp hT ?_;refine bF (t':=false) m9 ?_;refine sp hT ?_;refine nn<|jL rfl rfl ?_;refine sr<|sp hT ?_;refine bF (t':=false) m9 ?_;refine sp hT ?_;refine nn<|jL rfl rfl ?_;refine fF<|lW<|cZ<|bP<|bP ?_;have u:=vr_ok0 A ‹_› (by first|exact .inl hh|exact .inr hh);have n:(dP false it.fn)≠[]:=by first|assumption|simp
  refine dE<|sp2 hT ?_;refine nn<|cA rfl rfl ?_;refine sr<|sp hT ?_;refine ss (dI rfl rfl rfl q9) ?_;refine sp hT ?_;refine ss (ldO hT (gC .head)) ?_;refine ss (dI rfl rfl rfl q9) ?_;refine sp2 hT ?_;refine ss (ldO hT (tI .head)) ?_;refine sp hT ?_;refine bJ (z':=(((1+c.D):Nat):Int)) (kD m0 m0) ?_;refine sp hT ?_;refine ss (ldO hT (bDt .head)) ?_;refine ss (j7 (pV _ _ _)) ?_;refine j4 mR λb11=>?_;refine sto hT .head ?_;refine nn<|bP<|bB (iG.sl (.slice B st.reverse.length e) st.reverse) (rcut1 d7) ?_;refine kP _ _ (.fl 1 (.fl 2 (.fl 3 (.fl 4 (.fl 5 (.fl 7 (.two 0 8 (.two 6 8 (.op 8 (.op 9 (.fl 10 (.fl 11 .nil)))) (.op 6 (.op 9 (.fl 10 (.fl 11 .nil))))) (.op 0 (.op 6 (.op 9 (.fl 10 (.fl 11 .nil)))))))))))) cN o8 (.c0 (.c0 (.c0 .nil))) bA.self ?_;refine pvT hT ?_;refine pvT hT ?_;refine pvT hT ?_;refine bJ (z':=(((st.length+1):Nat):Int)) n9 ?_;refine pvT hT ?_;refine bJ (z':=((((st.length+1)-1):Nat):Int)) (kD m0 m0) ?_;refine sqT rfl (iQ hT (k:=st.reverse.length) rfl rfl rfl rfl rfl n9 s8) ?_;refine sqT rfl (ldN hT (gC .head)) ?_;refine gO (o:=_) (o':=_) rfl rfl ?_ ?_
  .refine kG rfl rfl rfl rfl λb12=>?_;refine dB (.c1 (.c1 (.c1 .nil))) (bA.drop 0) ?_;refine gO (o:=_) (o':=_) rfl rfl ?_ ?_
   .refine dM .head (bE d7) rfl rfl rfl rfl rfl rfl rfl o0 λA13 c14=>?_;refine dB (.c1 (.c1 (.c1 .nil))) (bA.drop 0) ?_;refine iF (o:=_) rfl ?_;refine gW (m:=(⟨(((dP false it.fn)++([32]:Bs))++c.s),false,(1+c.D),c.J⟩:Part)) rfl rfl rfl rfl rfl λb15=>?_;refine dB (.c2 (.c2 (.c2 .nil))) (bA.drop 0) ?_;refine iF (o:=_) rfl ?_;refine dM kT1 (bT .head rfl) rfl rfl rfl rfl rfl rfl rfl o0 λA16 c17=>?_;refine dB (.c2 (.c2 (.c2 .nil))) (bA.drop 0) ?_;refine pvT hT ?_;refine pvT hT ?_;refine mO<|cZ<|cX<|cH ?_;have hs:=yS (p:=c) (r:=st) (x:=it.it) t6 t6 (gY m0) ‹_› u n r8;exact dD (_,_,(([]++st.reverse)++[(⟨(((dP false it.fn)++([32]:Bs))++c.s),false,(1+c.D),c.J⟩:Part)])) rfl (bX rfl) (bX rfl) (.c0 .nil) ⟨j2 (λr hr=>by rw[hs]at hr;cases hr;first|(simp;done)|(simp;rfl)),j1⟩ aa6
   refine gW (m:=(⟨(((dP false it.fn)++([32]:Bs))++c.s),false,(1+c.D),c.J⟩:Part)) rfl rfl rfl rfl rfl λb18=>?_;refine dB (.c2 (.c2 (.c2 .nil))) (bA.drop 0) ?_;refine iF (o:=_) rfl ?_;refine dM kT1 (bE d7) rfl rfl rfl rfl rfl rfl rfl o0 λA19 c20=>?_;refine dB (.c2 (.c2 (.c2 .nil))) (bA.drop 0) ?_;refine iF (o:=_) rfl ?_;refine dM .head (bT kT1 rfl) rfl rfl rfl rfl rfl rfl rfl o0 λA21 c22=>?_;refine dB (.c2 (.c2 (.c2 .nil))) (bA.drop 0) ?_;refine pvT hT ?_;refine pvT hT ?_;refine mO<|cZ<|cX<|cH ?_;have hs:=yS (p:=c) (r:=st) (x:=it.it) t6 t6 (gY m0) ‹_› u n r8;exact dD (_,_,(([]++st.reverse)++[(⟨(((dP false it.fn)++([32]:Bs))++c.s),false,(1+c.D),c.J⟩:Part)])) rfl (bX rfl) (bX rfl) (.c0 .nil) ⟨j2 (λr hr=>by rw[hs]at hr;cases hr;first|(simp;done)|(simp;rfl)),j1⟩ aa6
  refine gW (m:=(⟨(((dP false it.fn)++([32]:Bs))++c.s),false,(1+c.D),c.J⟩:Part)) rfl rfl rfl rfl rfl λb23=>?_;refine dB (.c1 (.c1 (.c1 .nil))) (bA.drop 0) ?_;refine iF (o:=_) rfl ?_;refine kG rfl rfl rfl rfl λb24=>?_;refine dB (.c2 (.c2 (.c2 .nil))) (bA.drop 0) ?_;refine iF (o:=_) rfl ?_;refine dM .head (bE d7) rfl rfl rfl rfl rfl rfl rfl o0 λA25 c26=>?_;refine dB (.c2 (.c2 (.c2 .nil))) (bA.drop 0) ?_;refine iF (o:=_) rfl ?_;refine dM .head (bT kT1 rfl) rfl rfl rfl rfl rfl rfl rfl o0 λA27 c28=>?_;refine dB (.c2 (.c2 (.c2 .nil))) (bA.drop 0) ?_;refine pvT hT ?_;refine pvT hT ?_;refine mO<|cZ<|cX<|cH ?_;have hs:=yS (p:=c) (r:=st) (x:=it.it) t6 t6 (gY m0) ‹_› u n r8;exact dD (_,_,(([]++st.reverse)++[(⟨(((dP false it.fn)++([32]:Bs))++c.s),false,(1+c.D),c.J⟩:Part)])) rfl (bX rfl) (bX rfl) (.c0 .nil) ⟨j2 (λr hr=>by rw[hs]at hr;cases hr;first|(simp;done)|(simp;rfl)),j1⟩ aa6
 .refine dE<|sp hT ?_;refine ss (ldO hT (gC .head)) ?_;refine bJ (z':=((4:Nat):Int)) hh ?_;refine sp hT ?_;refine bF (t':=true) m9 ?_;refine sp hT ?_;refine sk3 ?_;refine sp2 hT ?_;refine nn<|bP<|sr<|sp hT ?_;refine ss (ldO hT (gC .head)) ?_;refine bJ (z':=((4:Nat):Int)) hh ?_;refine sp hT ?_;refine bF (t':=false) m9 ?_;refine sp2 hT ?_;refine ss (ldO hT (gC .head)) ?_;refine bJ (z':=((4:Nat):Int)) hh ?_;refine sp hT ?_;refine bF (t':=false) m9 ?_;refine sp3 hT ?_;refine ss (ldO hT (bPm .head)) ?_;refine sp4 hT ?_;refine cF (λi=>?_) (λi=>?_)
  .have i:=of_decide_eq_true i;refine sk3 ?_;refine sp2 hT ?_;refine sk3 ?_;refine sp2 hT ?_;refine sk4 ?_;refine sk2 ?_;refine sp hT ?_;refine nn<|cA rfl rfl ?_;refine sr<|sp2 hT ?_;refine nn<|cX<|cH<|bQ (t:=164) iG ?_;have hs:stepR st it.it=none:=by first|exact mI a n0|exact hQ a r8 m0|exact hZ a m0
   exact dD (none,0,[]) rfl (bX rfl) (bX rfl) (.c0 .nil) ⟨j2 (λr hr=>by rw[hs]at hr;cases hr),j1⟩ aa6
  have i:=Y7.1 (of_decide_eq_false i);refine sp hT ?_;refine ss (ldO hT (bDt .head)) ?_;refine sp3 hT ?_;refine cF (λd=>?_) (λd=>?_)
  .have d:it.name≠([]:Bs):=λh=>by rw[h]at d;first|(simp at d;done)|exact absurd d m9
   refine sk3 ?_;refine sp2 hT ?_;refine sk4 ?_;refine sk2 ?_;refine sp hT ?_;refine nn<|cA rfl rfl ?_;refine sr<|sp2 hT ?_;refine nn<|cX<|cH<|bQ (t:=164) iG ?_;have hs:stepR st it.it=none:=by first|exact mI a n0|exact hQ a r8 m0|exact hZ a m0
   exact dD (none,0,[]) rfl (bX rfl) (bX rfl) (.c0 .nil) ⟨j2 (λr hr=>by rw[hs]at hr;cases hr),j1⟩ aa6
  have d:it.name=([]:Bs):=eq_of_beq (mL d);refine sp2 hT ?_;refine bJ (z':=((st.length:Nat):Int)) (congrArg L6 O8) ?_;refine sp3 hT ?_;refine cF (λg=>?_) (λg=>?_)
  .have g:=of_decide_eq_true g;refine sk4 ?_;refine sk2 ?_;refine sp hT ?_;refine nn<|cA rfl rfl ?_;refine sr<|sp2 hT ?_;refine nn<|cX<|cH<|bQ (t:=164) iG ?_;have hs:stepR st it.it=none:=by first|exact mI a n0|exact hQ a r8 m0|exact hZ a m0
   exact dD (none,0,[]) rfl (bX rfl) (bX rfl) (.c0 .nil) ⟨j2 (λr hr=>by rw[hs]at hr;cases hr),j1⟩ aa6
  have g:=Y7.1 (of_decide_eq_false g);refine sp4 hT ?_;refine bJ (z':=((st.length:Nat):Int)) (congrArg L6 O8) ?_;refine sp3 hT ?_;refine nn<|bW rfl (λj=>?_) (λj=>?_)
  .have D:=j;have j:=of_decide_eq_true j;refine sr<|sp2 hT ?_;refine nn<|cX<|cH<|bQ (t:=164) iG ?_;have hs:stepR st it.it=none:=by first|exact mI a n0|exact hQ a r8 m0|exact hZ a m0
   exact dD (none,0,[]) rfl (bX rfl) (bX rfl) (.c0 .nil) ⟨j2 (λr hr=>by rw[hs]at hr;cases hr),j1⟩ aa6
  have D:=j;have j:=Y7.1 (of_decide_eq_false j);refine fF<|cZ<|bP ?_;obtain⟨c,q1,st,rfl⟩:=cons2G (l:=st) m0;have N:=hok q1 n9;have L:=hok c n9;simp only[F5]at hl;simp only[O8,F5]at I;refine dE<|sp3 hT ?_;refine bJ (z':=(((st.length+2):Nat):Int)) n9 ?_;refine sp hT ?_;refine bJ (z':=((((st.length+2)-1):Nat):Int)) (kD m0 m0) ?_;refine ss (cC hT (k:=((st.length+2)-1)) (bE d7) rfl rfl rfl rfl rfl rfl rfl ab6) ?_;refine ss (fM hT (dC.knows (bE d7) (k:=((st.length+2)-1)) (x:=c) rev2G.1 0) rfl rfl rfl rfl rfl) ?_;refine j4 mR λb29=>?_;refine sto hT .head ?_;refine nn<|sr<|sp hT ?_;refine ss (ldO hT (tI kT1)) ?_;refine sp hT ?_;refine ss (ldO hT (gC kT1)) ?_;refine bJ (z':=((4:Nat):Int)) hh ?_;refine sp hT ?_;refine bF (t':=true) m9 ?_;refine j5 func136 (tB it.fn true) j1 λ_=>?_;have A:(it.it.H !=3)=true:=by rw[show it.it.H=4 from hh];rfl
  have K:=oU true it.fn;refine sp hT ?_;refine nn<|bP<|sr<|sp3 hT ?_;refine cF (λhg85=>?_) (λhg85=>?_)
  .have hg85:(dP true it.fn)=([]:Bs):=eq_of_beq hg85;refine sk4 ?_;refine sk4 ?_;refine sk4 ?_;refine sk2 ?_;refine sp hT ?_;refine nn<|cA rfl rfl ?_;refine sr<|sp2 hT ?_;refine nn<|cX<|cH<|bQ (t:=164) iG ?_;have hs:stepR (c::q1::st) it.it=none:=wF a (bAh A v7);exact dD (none,0,[]) rfl (bX rfl) (bX rfl) (.c0 .nil) ⟨j2 (λr hr=>by rw[hs]at hr;cases hr),j1⟩ aa6
  have hg85:(dP true it.fn)≠([]:Bs):=λh=>absurd (beq_iff_eq.2 h) af0;refine sp hT ?_;refine ss (ldO hT (gC kT1)) ?_;refine bJ (z':=((4:Nat):Int)) hh ?_;refine sp hT ?_;refine bF (t':=true) m9 ?_;refine sp2 hT ?_;refine ss (ldO hT (gC kT1)) ?_;refine bJ (z':=((4:Nat):Int)) hh ?_;refine sp hT ?_;refine bF (t':=false) m9 ?_;refine sp2 hT ?_;refine sk4 ?_;refine sp2 hT ?_;refine nn<|jL rfl rfl ?_;refine fF<|cZ<|sr<|sp hT ?_;refine nn<|bP<|sr<|sp hT ?_;refine ss (ldO hT (gC kT1)) ?_;refine bJ (z':=((4:Nat):Int)) hh ?_;refine nn<|iE<|sr<|sp hT ?_;refine bF (t':=false) m9 ?_;refine sp hT ?_;refine nn<|jL rfl rfl ?_;refine sr<|sp hT ?_;refine bF (t':=false) m9 ?_;refine sp hT ?_;refine nn<|jL rfl rfl ?_;refine sr<|sp hT ?_;refine bF (t':=false) m9 ?_;refine sp hT ?_;refine nn<|jL rfl rfl ?_;refine fF<|lW<|cZ<|bP<|bP ?_;have u:=vr_ok0 A ‹_› (by first|exact .inl hh|exact .inr hh);have n:(dP true it.fn)≠[]:=by first|assumption|simp
  refine dE<|sp2 hT ?_;refine nn<|jL rfl rfl ?_;refine fF<|cZ<|sr<|sp3 hT ?_;refine bJ (z':=(((st.length+2):Nat):Int)) n9 ?_;refine sp hT ?_;refine bJ (z':=((((st.length+2)-2):Nat):Int)) (kD m0 m0) ?_;refine ss (cC hT (k:=((st.length+2)-2)) (bE d7) rfl rfl rfl rfl rfl rfl rfl ab6) ?_;refine ss (fM hT (dC.knows (bE d7) (k:=((st.length+2)-2)) (x:=q1) rev2G.2 0) rfl rfl rfl rfl rfl) ?_;refine j5 func138 (bXh q1 m0 m0 m0) j1 λ_=>?_;have O:=brk_len q1;refine j4 mR λb30=>?_;refine sto hT .head ?_;refine nn<|sr<|sp hT ?_;refine ss (ldO hT (gC .head)) ?_;refine ss (dI rfl rfl rfl q9) ?_;refine sp hT ?_;refine ss (dI rfl rfl rfl q9) ?_;refine ss (dI rfl rfl rfl q9) ?_;refine sp hT ?_;refine ss (ldO hT (gC kT1)) ?_;refine ss (dI rfl rfl rfl q9) ?_;refine sp hT ?_;refine ss (ldO hT (tI .head)) ?_;refine sp2 hT ?_;refine bJ (z':=((((brkR q1).D+1):Nat):Int)) (kD m0 m0) ?_;refine sp hT ?_;refine ss (ldO hT (tI kT1)) ?_;refine sp hT ?_;refine bJ (z':=(((((brkR q1).D+1)+c.D):Nat):Int)) (kD m0 m0) ?_;refine sp hT ?_;refine ss (ldO hT (bDt .head)) ?_;refine sp hT ?_;refine ss (ldO hT (bDt kT1)) ?_;refine sp hT ?_;refine bJ (z':=(((max (brkR q1).J c.J):Nat):Int)) (maxN _ _) ?_;refine ss (j7 (pV _ _ _)) ?_;refine j4 mR λb31=>?_;refine sto hT .head ?_;refine nn<|bP<|bB (iG.sl (.slice B st.reverse.length e) st.reverse) (rcut2 d7) ?_;refine kP _ _ (.fl 1 (.fl 2 (.fl 3 (.fl 4 (.fl 5 (.fl 7 (.two 0 8 (.two 6 8 (.op 8 (.op 9 (.fl 10 (.fl 11 .nil)))) (.op 6 (.op 9 (.fl 10 (.fl 11 .nil))))) (.op 0 (.op 6 (.op 9 (.fl 10 (.fl 11 .nil)))))))))))) cN o8 (.c0 (.c0 (.c0 (.c0 .nil)))) bA.self ?_;refine pvT hT ?_;refine pvT hT ?_;refine pvT hT ?_;refine bJ (z':=(((st.length+2):Nat):Int)) n9 ?_;refine pvT hT ?_;refine bJ (z':=((((st.length+2)-2):Nat):Int)) (kD m0 m0) ?_;refine sqT rfl (iQ hT (k:=st.reverse.length) rfl rfl rfl rfl rfl n9 s8) ?_;refine sqT rfl (ldN hT (gC .head)) ?_;refine gO (o:=_) (o':=_) rfl rfl ?_ ?_
  .refine kG rfl rfl rfl rfl λb32=>?_;refine dB (.c1 (.c1 (.c1 (.c1 .nil)))) (bA.drop 0) ?_;refine gO (o:=_) (o':=_) rfl rfl ?_ ?_
   .refine dM .head (bE d7) rfl rfl rfl rfl rfl rfl rfl o0 λA33 c34=>?_;refine dB (.c1 (.c1 (.c1 (.c1 .nil)))) (bA.drop 0) ?_;refine iF (o:=_) rfl ?_;refine gW (m:=(⟨(((((brkR q1).s++([32]:Bs))++(dP true it.fn))++([32]:Bs))++c.s),false,(((brkR q1).D+1)+c.D),(max (brkR q1).J c.J)⟩:Part)) rfl rfl rfl rfl rfl λb35=>?_;refine dB (.c2 (.c2 (.c2 (.c2 .nil)))) (bA.drop 0) ?_;refine iF (o:=_) rfl ?_;refine dM kT1 (bT .head rfl) rfl rfl rfl rfl rfl rfl rfl o0 λA36 c37=>?_;refine dB (.c2 (.c2 (.c2 (.c2 .nil)))) (bA.drop 0) ?_;refine pvT hT ?_;refine pvT hT ?_;refine mO<|cZ<|cX ?_;have hs:=bLf (p:=c) (q:=q1) (r:=st) (x:=it.it) t6 t6 (gY m0) ‹_› u n r8;exact dD (_,_,(([]++st.reverse)++[(⟨(((((brkR q1).s++([32]:Bs))++(dP true it.fn))++([32]:Bs))++c.s),false,(((brkR q1).D+1)+c.D),(max (brkR q1).J c.J)⟩:Part)])) rfl (bX rfl) (bX rfl) (.c0 .nil) ⟨j2 (λr hr=>by rw[hs]at hr;cases hr;first|(simp;done)|(simp;rfl)),j1⟩ aa6
   refine gW (m:=(⟨(((((brkR q1).s++([32]:Bs))++(dP true it.fn))++([32]:Bs))++c.s),false,(((brkR q1).D+1)+c.D),(max (brkR q1).J c.J)⟩:Part)) rfl rfl rfl rfl rfl λb38=>?_;refine dB (.c2 (.c2 (.c2 (.c2 .nil)))) (bA.drop 0) ?_;refine iF (o:=_) rfl ?_;refine dM kT1 (bE d7) rfl rfl rfl rfl rfl rfl rfl o0 λA39 c40=>?_;refine dB (.c2 (.c2 (.c2 (.c2 .nil)))) (bA.drop 0) ?_;refine iF (o:=_) rfl ?_;refine dM .head (bT kT1 rfl) rfl rfl rfl rfl rfl rfl rfl o0 λA41 c42=>?_;refine dB (.c2 (.c2 (.c2 (.c2 .nil)))) (bA.drop 0) ?_;refine pvT hT ?_;refine pvT hT ?_;refine mO<|cZ<|cX ?_;have hs:=bLf (p:=c) (q:=q1) (r:=st) (x:=it.it) t6 t6 (gY m0) ‹_› u n r8;exact dD (_,_,(([]++st.reverse)++[(⟨(((((brkR q1).s++([32]:Bs))++(dP true it.fn))++([32]:Bs))++c.s),false,(((brkR q1).D+1)+c.D),(max (brkR q1).J c.J)⟩:Part)])) rfl (bX rfl) (bX rfl) (.c0 .nil) ⟨j2 (λr hr=>by rw[hs]at hr;cases hr;first|(simp;done)|(simp;rfl)),j1⟩ aa6
  refine gW (m:=(⟨(((((brkR q1).s++([32]:Bs))++(dP true it.fn))++([32]:Bs))++c.s),false,(((brkR q1).D+1)+c.D),(max (brkR q1).J c.J)⟩:Part)) rfl rfl rfl rfl rfl λb43=>?_;refine dB (.c1 (.c1 (.c1 (.c1 .nil)))) (bA.drop 0) ?_;refine iF (o:=_) rfl ?_;refine kG rfl rfl rfl rfl λb44=>?_;refine dB (.c2 (.c2 (.c2 (.c2 .nil)))) (bA.drop 0) ?_;refine iF (o:=_) rfl ?_;refine dM .head (bE d7) rfl rfl rfl rfl rfl rfl rfl o0 λA45 c46=>?_;refine dB (.c2 (.c2 (.c2 (.c2 .nil)))) (bA.drop 0) ?_;refine iF (o:=_) rfl ?_;refine dM .head (bT kT1 rfl) rfl rfl rfl rfl rfl rfl rfl o0 λA47 c48=>?_;refine dB (.c2 (.c2 (.c2 (.c2 .nil)))) (bA.drop 0) ?_;refine pvT hT ?_;refine pvT hT ?_;refine mO<|cZ<|cX ?_;have hs:=bLf (p:=c) (q:=q1) (r:=st) (x:=it.it) t6 t6 (gY m0) ‹_› u n r8;exact dD (_,_,(([]++st.reverse)++[(⟨(((((brkR q1).s++([32]:Bs))++(dP true it.fn))++([32]:Bs))++c.s),false,(((brkR q1).D+1)+c.D),(max (brkR q1).J c.J)⟩:Part)])) rfl (bX rfl) (bX rfl) (.c0 .nil) ⟨j2 (λr hr=>by rw[hs]at hr;cases hr;first|(simp;done)|(simp;rfl)),j1⟩ aa6
 .refine dE<|sp hT ?_;refine ss (ldO hT (gC .head)) ?_;refine bJ (z':=((5:Nat):Int)) hh ?_;refine sp hT ?_;refine bF (t':=false) m9 ?_;refine sp2 hT ?_;refine ss (ldO hT (gC .head)) ?_;refine bJ (z':=((5:Nat):Int)) hh ?_;refine sp hT ?_;refine bF (t':=false) m9 ?_;refine sp2 hT ?_;refine nn<|bP<|sr<|sp hT ?_;refine ss (ldO hT (gC .head)) ?_;refine bJ (z':=((5:Nat):Int)) hh ?_;refine sp hT ?_;refine bF (t':=false) m9 ?_;refine sp2 hT ?_;refine ss (ldO hT (gC .head)) ?_;refine bJ (z':=((5:Nat):Int)) hh ?_;refine sp hT ?_;refine bF (t':=false) m9 ?_;refine sp3 hT ?_;refine ss (ldO hT (bPm .head)) ?_;refine sp4 hT ?_;refine cF (λi=>?_) (λi=>?_)
  .have i:=of_decide_eq_true i;refine sk3 ?_;refine sp2 hT ?_;refine sk3 ?_;refine sp2 hT ?_;refine sk4 ?_;refine sk2 ?_;refine sp hT ?_;refine nn<|cA rfl rfl ?_;refine sr<|sp2 hT ?_;refine nn<|cX<|cH<|bQ (t:=164) iG ?_;have hs:stepR st it.it=none:=by first|exact mI a n0|exact hQ a r8 m0|exact hZ a m0
   exact dD (none,0,[]) rfl (bX rfl) (bX rfl) (.c0 .nil) ⟨j2 (λr hr=>by rw[hs]at hr;cases hr),j1⟩ aa6
  have i:=Y7.1 (of_decide_eq_false i);refine sp hT ?_;refine ss (ldO hT (bDt .head)) ?_;refine sp3 hT ?_;refine cF (λd=>?_) (λd=>?_)
  .have d:it.name≠([]:Bs):=λh=>by rw[h]at d;first|(simp at d;done)|exact absurd d m9
   refine sk3 ?_;refine sp2 hT ?_;refine sk4 ?_;refine sk2 ?_;refine sp hT ?_;refine nn<|cA rfl rfl ?_;refine sr<|sp2 hT ?_;refine nn<|cX<|cH<|bQ (t:=164) iG ?_;have hs:stepR st it.it=none:=by first|exact mI a n0|exact hQ a r8 m0|exact hZ a m0
   exact dD (none,0,[]) rfl (bX rfl) (bX rfl) (.c0 .nil) ⟨j2 (λr hr=>by rw[hs]at hr;cases hr),j1⟩ aa6
  have d:it.name=([]:Bs):=eq_of_beq (mL d);refine sp2 hT ?_;refine bJ (z':=((st.length:Nat):Int)) (congrArg L6 O8) ?_;refine sp3 hT ?_;refine cF (λg=>?_) (λg=>?_)
  .have g:=of_decide_eq_true g;refine sk4 ?_;refine sk2 ?_;refine sp hT ?_;refine nn<|cA rfl rfl ?_;refine sr<|sp2 hT ?_;refine nn<|cX<|cH<|bQ (t:=164) iG ?_;have hs:stepR st it.it=none:=by first|exact mI a n0|exact hQ a r8 m0|exact hZ a m0
   exact dD (none,0,[]) rfl (bX rfl) (bX rfl) (.c0 .nil) ⟨j2 (λr hr=>by rw[hs]at hr;cases hr),j1⟩ aa6
  have g:=Y7.1 (of_decide_eq_false g);refine sp2 hT ?_;refine sk3 ?_;refine sp2 hT ?_;refine nn<|jL rfl rfl ?_;refine fF<|cZ<|bP ?_;obtain⟨c,st,rfl⟩:=cons1G (l:=st) m0;have L:=hok c n9;simp only[F5]at hl;simp only[O8,F5]at I;refine dE<|sp3 hT ?_;refine bJ (z':=(((st.length+1):Nat):Int)) n9 ?_;refine sp hT ?_;refine bJ (z':=((((st.length+1)-1):Nat):Int)) (kD m0 m0) ?_;refine ss (cC hT (k:=((st.length+1)-1)) (bE d7) rfl rfl rfl rfl rfl rfl rfl ab6) ?_;refine ss (fM hT (dC.knows (bE d7) (k:=((st.length+1)-1)) (x:=c) rev1G 0) rfl rfl rfl rfl rfl) ?_;refine j4 mR λb49=>?_;refine sto hT .head ?_;refine nn<|sr<|sp hT ?_;refine ss (ldO hT (tI kT1)) ?_;refine sp hT ?_;refine ss (ldO hT (gC kT1)) ?_;refine bJ (z':=((5:Nat):Int)) hh ?_;refine sp hT ?_;refine bF (t':=true) m9 ?_;refine j5 func136 (tB it.fn true) j1 λ_=>?_;have A:(it.it.H !=3)=true:=by rw[show it.it.H=5 from hh];rfl
  have K:=oU true it.fn;refine sp hT ?_;refine nn<|bP<|sr<|sp3 hT ?_;refine cF (λhg85=>?_) (λhg85=>?_)
  .have hg85:(dP true it.fn)=([]:Bs):=eq_of_beq hg85;refine sk4 ?_;refine sk4 ?_;refine sk4 ?_;refine sk2 ?_;refine sp hT ?_;refine nn<|cA rfl rfl ?_;refine sr<|sp2 hT ?_;refine nn<|cX<|cH<|bQ (t:=164) iG ?_;have hs:stepR (c::st) it.it=none:=wF a (bAh A v7);exact dD (none,0,[]) rfl (bX rfl) (bX rfl) (.c0 .nil) ⟨j2 (λr hr=>by rw[hs]at hr;cases hr),j1⟩ aa6
  have hg85:(dP true it.fn)≠([]:Bs):=λh=>absurd (beq_iff_eq.2 h) af0;refine sp hT ?_;refine ss (ldO hT (gC kT1)) ?_;refine bJ (z':=((5:Nat):Int)) hh ?_;refine sp hT ?_;refine bF (t':=true) m9 ?_;refine sp2 hT ?_;refine ss (ldO hT (gC kT1)) ?_;refine bJ (z':=((5:Nat):Int)) hh ?_;refine sp hT ?_;refine bF (t':=true) m9 ?_;refine sp3 hT ?_;refine ss (ldO hT (tI kT1)) ?_;refine bC func137 (zP _) rfl rfl .nil j1 λ_=>?_;refine sp3 hT ?_;refine nn<|bW rfl (λf=>?_) (λf=>?_)
  .have y:=f;have f:=xB f;refine sr<|sp2 hT ?_;refine nn<|cX<|cH<|bQ (t:=164) iG ?_;have hs:stepR (c::st) it.it=none:=wF a (bAh A v7);exact dD (none,0,[]) rfl (bX rfl) (bX rfl) (.c0 .nil) ⟨j2 (λr hr=>by rw[hs]at hr;cases hr),j1⟩ aa6
  have y:=f;have f:=mL f;refine fF<|cZ<|sr<|sp hT ?_;refine nn<|bP<|sr<|sp hT ?_;refine ss (ldO hT (gC kT1)) ?_;refine bJ (z':=((5:Nat):Int)) hh ?_;refine nn<|iE<|sr<|sp hT ?_;refine bF (t':=true) m9 ?_;refine sp hT ?_;refine nn<|cA rfl rfl ?_;refine sr<|sp hT ?_;refine ss (dI rfl rfl rfl q9) ?_;refine sp hT ?_;refine nn<|dE<|sp hT ?_;refine sJ<|lW<|cZ<|bP<|bP ?_;have u:=vr_ok (mk:=[47]) (k:=2) A ‹_› (.inr (.inr ‹_›)) (by rw[show it.it.H=5 from hh];rfl) (by rw[show it.it.H=5 from hh];rfl);have n:((dP true it.fn)++([47]:Bs))≠[]:=by first|assumption|simp
  refine dE<|sp2 hT ?_;refine nn<|cA rfl rfl ?_;refine sr<|sp hT ?_;refine ss (dI rfl rfl rfl q9) ?_;refine sp hT ?_;refine ss (ldO hT (gC .head)) ?_;refine ss (dI rfl rfl rfl q9) ?_;refine sp2 hT ?_;refine ss (ldO hT (tI .head)) ?_;refine sp hT ?_;refine bJ (z':=(((2+c.D):Nat):Int)) (kD m0 m0) ?_;refine sp hT ?_;refine ss (ldO hT (bDt .head)) ?_;refine ss (j7 (pV _ _ _)) ?_;refine j4 mR λb50=>?_;refine sto hT .head ?_;refine nn<|bP<|bB (iG.sl (.slice B st.reverse.length e) st.reverse) (rcut1 d7) ?_;refine kP _ _ (.fl 1 (.fl 2 (.fl 3 (.fl 4 (.fl 5 (.fl 7 (.two 0 8 (.two 6 8 (.op 8 (.op 9 (.fl 10 (.fl 11 .nil)))) (.op 6 (.op 9 (.fl 10 (.fl 11 .nil))))) (.op 0 (.op 6 (.op 9 (.fl 10 (.fl 11 .nil)))))))))))) cN o8 (.c0 (.c0 (.c0 .nil))) bA.self ?_;refine pvT hT ?_;refine pvT hT ?_;refine pvT hT ?_;refine bJ (z':=(((st.length+1):Nat):Int)) n9 ?_;refine pvT hT ?_;refine bJ (z':=((((st.length+1)-1):Nat):Int)) (kD m0 m0) ?_;refine sqT rfl (iQ hT (k:=st.reverse.length) rfl rfl rfl rfl rfl n9 s8) ?_;refine sqT rfl (ldN hT (gC .head)) ?_;refine gO (o:=_) (o':=_) rfl rfl ?_ ?_
  .refine kG rfl rfl rfl rfl λb51=>?_;refine dB (.c1 (.c1 (.c1 .nil))) (bA.drop 0) ?_;refine gO (o:=_) (o':=_) rfl rfl ?_ ?_
   .refine dM .head (bE d7) rfl rfl rfl rfl rfl rfl rfl o0 λA52 c53=>?_;refine dB (.c1 (.c1 (.c1 .nil))) (bA.drop 0) ?_;refine iF (o:=_) rfl ?_;refine gW (m:=(⟨((((dP true it.fn)++([47]:Bs))++([32]:Bs))++c.s),false,(2+c.D),c.J⟩:Part)) rfl rfl rfl rfl rfl λb54=>?_;refine dB (.c2 (.c2 (.c2 .nil))) (bA.drop 0) ?_;refine iF (o:=_) rfl ?_;refine dM kT1 (bT .head rfl) rfl rfl rfl rfl rfl rfl rfl o0 λA55 c56=>?_;refine dB (.c2 (.c2 (.c2 .nil))) (bA.drop 0) ?_;refine pvT hT ?_;refine pvT hT ?_;refine mO<|cZ<|cX<|cH ?_;have hs:=yS (p:=c) (r:=st) (x:=it.it) t6 t6 (gY m0) ‹_› u n r8;exact dD (_,_,(([]++st.reverse)++[(⟨((((dP true it.fn)++([47]:Bs))++([32]:Bs))++c.s),false,(2+c.D),c.J⟩:Part)])) rfl (bX rfl) (bX rfl) (.c0 .nil) ⟨j2 (λr hr=>by rw[hs]at hr;cases hr;first|(simp;done)|(simp;rfl)),j1⟩ aa6
   refine gW (m:=(⟨((((dP true it.fn)++([47]:Bs))++([32]:Bs))++c.s),false,(2+c.D),c.J⟩:Part)) rfl rfl rfl rfl rfl λb57=>?_;refine dB (.c2 (.c2 (.c2 .nil))) (bA.drop 0) ?_;refine iF (o:=_) rfl ?_;refine dM kT1 (bE d7) rfl rfl rfl rfl rfl rfl rfl o0 λA58 c59=>?_;refine dB (.c2 (.c2 (.c2 .nil))) (bA.drop 0) ?_;refine iF (o:=_) rfl ?_;refine dM .head (bT kT1 rfl) rfl rfl rfl rfl rfl rfl rfl o0 λA60 c61=>?_;refine dB (.c2 (.c2 (.c2 .nil))) (bA.drop 0) ?_;refine pvT hT ?_;refine pvT hT ?_;refine mO<|cZ<|cX<|cH ?_;have hs:=yS (p:=c) (r:=st) (x:=it.it) t6 t6 (gY m0) ‹_› u n r8;exact dD (_,_,(([]++st.reverse)++[(⟨((((dP true it.fn)++([47]:Bs))++([32]:Bs))++c.s),false,(2+c.D),c.J⟩:Part)])) rfl (bX rfl) (bX rfl) (.c0 .nil) ⟨j2 (λr hr=>by rw[hs]at hr;cases hr;first|(simp;done)|(simp;rfl)),j1⟩ aa6
  refine gW (m:=(⟨((((dP true it.fn)++([47]:Bs))++([32]:Bs))++c.s),false,(2+c.D),c.J⟩:Part)) rfl rfl rfl rfl rfl λb62=>?_;refine dB (.c1 (.c1 (.c1 .nil))) (bA.drop 0) ?_;refine iF (o:=_) rfl ?_;refine kG rfl rfl rfl rfl λb63=>?_;refine dB (.c2 (.c2 (.c2 .nil))) (bA.drop 0) ?_;refine iF (o:=_) rfl ?_;refine dM .head (bE d7) rfl rfl rfl rfl rfl rfl rfl o0 λA64 c65=>?_;refine dB (.c2 (.c2 (.c2 .nil))) (bA.drop 0) ?_;refine iF (o:=_) rfl ?_;refine dM .head (bT kT1 rfl) rfl rfl rfl rfl rfl rfl rfl o0 λA66 c67=>?_;refine dB (.c2 (.c2 (.c2 .nil))) (bA.drop 0) ?_;refine pvT hT ?_;refine pvT hT ?_;refine mO<|cZ<|cX<|cH ?_;have hs:=yS (p:=c) (r:=st) (x:=it.it) t6 t6 (gY m0) ‹_› u n r8;exact dD (_,_,(([]++st.reverse)++[(⟨((((dP true it.fn)++([47]:Bs))++([32]:Bs))++c.s),false,(2+c.D),c.J⟩:Part)])) rfl (bX rfl) (bX rfl) (.c0 .nil) ⟨j2 (λr hr=>by rw[hs]at hr;cases hr;first|(simp;done)|(simp;rfl)),j1⟩ aa6
 .refine dE<|sp hT ?_;refine ss (ldO hT (gC .head)) ?_;refine bJ (z':=((6:Nat):Int)) hh ?_;refine sp hT ?_;refine bF (t':=false) m9 ?_;refine sp2 hT ?_;refine ss (ldO hT (gC .head)) ?_;refine bJ (z':=((6:Nat):Int)) hh ?_;refine sp hT ?_;refine bF (t':=false) m9 ?_;refine sp2 hT ?_;refine nn<|bP<|sr<|sp hT ?_;refine ss (ldO hT (gC .head)) ?_;refine bJ (z':=((6:Nat):Int)) hh ?_;refine sp hT ?_;refine bF (t':=false) m9 ?_;refine sp2 hT ?_;refine ss (ldO hT (gC .head)) ?_;refine bJ (z':=((6:Nat):Int)) hh ?_;refine sp hT ?_;refine bF (t':=false) m9 ?_;refine sp3 hT ?_;refine ss (ldO hT (bPm .head)) ?_;refine sp4 hT ?_;refine cF (λi=>?_) (λi=>?_)
  .have i:=of_decide_eq_true i;refine sk3 ?_;refine sp2 hT ?_;refine sk3 ?_;refine sp2 hT ?_;refine sk4 ?_;refine sk2 ?_;refine sp hT ?_;refine nn<|cA rfl rfl ?_;refine sr<|sp2 hT ?_;refine nn<|cX<|cH<|bQ (t:=164) iG ?_;have hs:stepR st it.it=none:=by first|exact mI a n0|exact hQ a r8 m0|exact hZ a m0
   exact dD (none,0,[]) rfl (bX rfl) (bX rfl) (.c0 .nil) ⟨j2 (λr hr=>by rw[hs]at hr;cases hr),j1⟩ aa6
  have i:=Y7.1 (of_decide_eq_false i);refine sp hT ?_;refine ss (ldO hT (bDt .head)) ?_;refine sp3 hT ?_;refine cF (λd=>?_) (λd=>?_)
  .have d:it.name≠([]:Bs):=λh=>by rw[h]at d;first|(simp at d;done)|exact absurd d m9
   refine sk3 ?_;refine sp2 hT ?_;refine sk4 ?_;refine sk2 ?_;refine sp hT ?_;refine nn<|cA rfl rfl ?_;refine sr<|sp2 hT ?_;refine nn<|cX<|cH<|bQ (t:=164) iG ?_;have hs:stepR st it.it=none:=by first|exact mI a n0|exact hQ a r8 m0|exact hZ a m0
   exact dD (none,0,[]) rfl (bX rfl) (bX rfl) (.c0 .nil) ⟨j2 (λr hr=>by rw[hs]at hr;cases hr),j1⟩ aa6
  have d:it.name=([]:Bs):=eq_of_beq (mL d);refine sp2 hT ?_;refine bJ (z':=((st.length:Nat):Int)) (congrArg L6 O8) ?_;refine sp3 hT ?_;refine cF (λg=>?_) (λg=>?_)
  .have g:=of_decide_eq_true g;refine sk4 ?_;refine sk2 ?_;refine sp hT ?_;refine nn<|cA rfl rfl ?_;refine sr<|sp2 hT ?_;refine nn<|cX<|cH<|bQ (t:=164) iG ?_;have hs:stepR st it.it=none:=by first|exact mI a n0|exact hQ a r8 m0|exact hZ a m0
   exact dD (none,0,[]) rfl (bX rfl) (bX rfl) (.c0 .nil) ⟨j2 (λr hr=>by rw[hs]at hr;cases hr),j1⟩ aa6
  have g:=Y7.1 (of_decide_eq_false g);refine sp2 hT ?_;refine sk3 ?_;refine sp2 hT ?_;refine nn<|jL rfl rfl ?_;refine fF<|cZ<|bP ?_;obtain⟨c,st,rfl⟩:=cons1G (l:=st) m0;have L:=hok c n9;simp only[F5]at hl;simp only[O8,F5]at I;refine dE<|sp3 hT ?_;refine bJ (z':=(((st.length+1):Nat):Int)) n9 ?_;refine sp hT ?_;refine bJ (z':=((((st.length+1)-1):Nat):Int)) (kD m0 m0) ?_;refine ss (cC hT (k:=((st.length+1)-1)) (bE d7) rfl rfl rfl rfl rfl rfl rfl ab6) ?_;refine ss (fM hT (dC.knows (bE d7) (k:=((st.length+1)-1)) (x:=c) rev1G 0) rfl rfl rfl rfl rfl) ?_;refine j4 mR λb68=>?_;refine sto hT .head ?_;refine nn<|sr<|sp hT ?_;refine ss (ldO hT (tI kT1)) ?_;refine sp hT ?_;refine ss (ldO hT (gC kT1)) ?_;refine bJ (z':=((6:Nat):Int)) hh ?_;refine sp hT ?_;refine bF (t':=true) m9 ?_;refine j5 func136 (tB it.fn true) j1 λ_=>?_;have A:(it.it.H !=3)=true:=by rw[show it.it.H=6 from hh];rfl
  have K:=oU true it.fn;refine sp hT ?_;refine nn<|bP<|sr<|sp3 hT ?_;refine cF (λhg85=>?_) (λhg85=>?_)
  .have hg85:(dP true it.fn)=([]:Bs):=eq_of_beq hg85;refine sk4 ?_;refine sk4 ?_;refine sk4 ?_;refine sk2 ?_;refine sp hT ?_;refine nn<|cA rfl rfl ?_;refine sr<|sp2 hT ?_;refine nn<|cX<|cH<|bQ (t:=164) iG ?_;have hs:stepR (c::st) it.it=none:=wF a (bAh A v7);exact dD (none,0,[]) rfl (bX rfl) (bX rfl) (.c0 .nil) ⟨j2 (λr hr=>by rw[hs]at hr;cases hr),j1⟩ aa6
  have hg85:(dP true it.fn)≠([]:Bs):=λh=>absurd (beq_iff_eq.2 h) af0;refine sp hT ?_;refine ss (ldO hT (gC kT1)) ?_;refine bJ (z':=((6:Nat):Int)) hh ?_;refine sp hT ?_;refine bF (t':=true) m9 ?_;refine sp2 hT ?_;refine ss (ldO hT (gC kT1)) ?_;refine bJ (z':=((6:Nat):Int)) hh ?_;refine sp hT ?_;refine bF (t':=true) m9 ?_;refine sp3 hT ?_;refine ss (ldO hT (tI kT1)) ?_;refine bC func137 (zP _) rfl rfl .nil j1 λ_=>?_;refine sp3 hT ?_;refine nn<|bW rfl (λf=>?_) (λf=>?_)
  .have y:=f;have f:=xB f;refine sr<|sp2 hT ?_;refine nn<|cX<|cH<|bQ (t:=164) iG ?_;have hs:stepR (c::st) it.it=none:=wF a (bAh A v7);exact dD (none,0,[]) rfl (bX rfl) (bX rfl) (.c0 .nil) ⟨j2 (λr hr=>by rw[hs]at hr;cases hr),j1⟩ aa6
  have y:=f;have f:=mL f;refine fF<|cZ<|sr<|sp hT ?_;refine nn<|bP<|sr<|sp hT ?_;refine ss (ldO hT (gC kT1)) ?_;refine bJ (z':=((6:Nat):Int)) hh ?_;refine nn<|iE<|sr<|sp hT ?_;refine bF (t':=false) m9 ?_;refine sp hT ?_;refine nn<|jL rfl rfl ?_;refine sr<|sp hT ?_;refine bF (t':=true) m9 ?_;refine sp hT ?_;refine nn<|cA rfl rfl ?_;refine sr<|sp hT ?_;refine ss (dI rfl rfl rfl q9) ?_;refine sp hT ?_;refine nn<|dE<|sp hT ?_;refine sJ<|lW<|cZ<|bP<|bP ?_;have u:=vr_ok (mk:=[92]) (k:=2) A ‹_› (.inr (.inr ‹_›)) (by rw[show it.it.H=6 from hh];rfl) (by rw[show it.it.H=6 from hh];rfl);have n:((dP true it.fn)++([92]:Bs))≠[]:=by first|assumption|simp
  refine dE<|sp2 hT ?_;refine nn<|cA rfl rfl ?_;refine sr<|sp hT ?_;refine ss (dI rfl rfl rfl q9) ?_;refine sp hT ?_;refine ss (ldO hT (gC .head)) ?_;refine ss (dI rfl rfl rfl q9) ?_;refine sp2 hT ?_;refine ss (ldO hT (tI .head)) ?_;refine sp hT ?_;refine bJ (z':=(((2+c.D):Nat):Int)) (kD m0 m0) ?_;refine sp hT ?_;refine ss (ldO hT (bDt .head)) ?_;refine ss (j7 (pV _ _ _)) ?_;refine j4 mR λb69=>?_;refine sto hT .head ?_;refine nn<|bP<|bB (iG.sl (.slice B st.reverse.length e) st.reverse) (rcut1 d7) ?_;refine kP _ _ (.fl 1 (.fl 2 (.fl 3 (.fl 4 (.fl 5 (.fl 7 (.two 0 8 (.two 6 8 (.op 8 (.op 9 (.fl 10 (.fl 11 .nil)))) (.op 6 (.op 9 (.fl 10 (.fl 11 .nil))))) (.op 0 (.op 6 (.op 9 (.fl 10 (.fl 11 .nil)))))))))))) cN o8 (.c0 (.c0 (.c0 .nil))) bA.self ?_;refine pvT hT ?_;refine pvT hT ?_;refine pvT hT ?_;refine bJ (z':=(((st.length+1):Nat):Int)) n9 ?_;refine pvT hT ?_;refine bJ (z':=((((st.length+1)-1):Nat):Int)) (kD m0 m0) ?_;refine sqT rfl (iQ hT (k:=st.reverse.length) rfl rfl rfl rfl rfl n9 s8) ?_;refine sqT rfl (ldN hT (gC .head)) ?_;refine gO (o:=_) (o':=_) rfl rfl ?_ ?_
  .refine kG rfl rfl rfl rfl λb70=>?_;refine dB (.c1 (.c1 (.c1 .nil))) (bA.drop 0) ?_;refine gO (o:=_) (o':=_) rfl rfl ?_ ?_
   .refine dM .head (bE d7) rfl rfl rfl rfl rfl rfl rfl o0 λA71 c72=>?_;refine dB (.c1 (.c1 (.c1 .nil))) (bA.drop 0) ?_;refine iF (o:=_) rfl ?_;refine gW (m:=(⟨((((dP true it.fn)++([92]:Bs))++([32]:Bs))++c.s),false,(2+c.D),c.J⟩:Part)) rfl rfl rfl rfl rfl λb73=>?_;refine dB (.c2 (.c2 (.c2 .nil))) (bA.drop 0) ?_;refine iF (o:=_) rfl ?_;refine dM kT1 (bT .head rfl) rfl rfl rfl rfl rfl rfl rfl o0 λA74 c75=>?_;refine dB (.c2 (.c2 (.c2 .nil))) (bA.drop 0) ?_;refine pvT hT ?_;refine pvT hT ?_;refine mO<|cZ<|cX<|cH ?_;have hs:=yS (p:=c) (r:=st) (x:=it.it) t6 t6 (gY m0) ‹_› u n r8;exact dD (_,_,(([]++st.reverse)++[(⟨((((dP true it.fn)++([92]:Bs))++([32]:Bs))++c.s),false,(2+c.D),c.J⟩:Part)])) rfl (bX rfl) (bX rfl) (.c0 .nil) ⟨j2 (λr hr=>by rw[hs]at hr;cases hr;first|(simp;done)|(simp;rfl)),j1⟩ aa6
   refine gW (m:=(⟨((((dP true it.fn)++([92]:Bs))++([32]:Bs))++c.s),false,(2+c.D),c.J⟩:Part)) rfl rfl rfl rfl rfl λb76=>?_;refine dB (.c2 (.c2 (.c2 .nil))) (bA.drop 0) ?_;refine iF (o:=_) rfl ?_;refine dM kT1 (bE d7) rfl rfl rfl rfl rfl rfl rfl o0 λA77 c78=>?_;refine dB (.c2 (.c2 (.c2 .nil))) (bA.drop 0) ?_;refine iF (o:=_) rfl ?_;refine dM .head (bT kT1 rfl) rfl rfl rfl rfl rfl rfl rfl o0 λA79 c80=>?_;refine dB (.c2 (.c2 (.c2 .nil))) (bA.drop 0) ?_;refine pvT hT ?_;refine pvT hT ?_;refine mO<|cZ<|cX<|cH ?_;have hs:=yS (p:=c) (r:=st) (x:=it.it) t6 t6 (gY m0) ‹_› u n r8;exact dD (_,_,(([]++st.reverse)++[(⟨((((dP true it.fn)++([92]:Bs))++([32]:Bs))++c.s),false,(2+c.D),c.J⟩:Part)])) rfl (bX rfl) (bX rfl) (.c0 .nil) ⟨j2 (λr hr=>by rw[hs]at hr;cases hr;first|(simp;done)|(simp;rfl)),j1⟩ aa6
  refine gW (m:=(⟨((((dP true it.fn)++([92]:Bs))++([32]:Bs))++c.s),false,(2+c.D),c.J⟩:Part)) rfl rfl rfl rfl rfl λb81=>?_;refine dB (.c1 (.c1 (.c1 .nil))) (bA.drop 0) ?_;refine iF (o:=_) rfl ?_;refine kG rfl rfl rfl rfl λb82=>?_;refine dB (.c2 (.c2 (.c2 .nil))) (bA.drop 0) ?_;refine iF (o:=_) rfl ?_;refine dM .head (bE d7) rfl rfl rfl rfl rfl rfl rfl o0 λA83 c84=>?_;refine dB (.c2 (.c2 (.c2 .nil))) (bA.drop 0) ?_;refine iF (o:=_) rfl ?_;refine dM .head (bT kT1 rfl) rfl rfl rfl rfl rfl rfl rfl o0 λA85 c86=>?_;refine dB (.c2 (.c2 (.c2 .nil))) (bA.drop 0) ?_;refine pvT hT ?_;refine pvT hT ?_;refine mO<|cZ<|cX<|cH ?_;have hs:=yS (p:=c) (r:=st) (x:=it.it) t6 t6 (gY m0) ‹_› u n r8;exact dD (_,_,(([]++st.reverse)++[(⟨((((dP true it.fn)++([92]:Bs))++([32]:Bs))++c.s),false,(2+c.D),c.J⟩:Part)])) rfl (bX rfl) (bX rfl) (.c0 .nil) ⟨j2 (λr hr=>by rw[hs]at hr;cases hr;first|(simp;done)|(simp;rfl)),j1⟩ aa6
 .refine dE<|sp hT ?_;refine ss (ldO hT (gC .head)) ?_;refine bJ (z':=((7:Nat):Int)) hh ?_;refine sp hT ?_;refine bF (t':=false) m9 ?_;refine sp2 hT ?_;refine ss (ldO hT (gC .head)) ?_;refine bJ (z':=((7:Nat):Int)) hh ?_;refine sp hT ?_;refine bF (t':=true) m9 ?_;refine sp2 hT ?_;refine nn<|bP<|sr<|sp hT ?_;refine ss (ldO hT (gC .head)) ?_;refine bJ (z':=((7:Nat):Int)) hh ?_;refine sp hT ?_;refine bF (t':=false) m9 ?_;refine sp2 hT ?_;refine ss (ldO hT (gC .head)) ?_;refine bJ (z':=((7:Nat):Int)) hh ?_;refine sp hT ?_;refine bF (t':=false) m9 ?_;refine sp3 hT ?_;refine ss (ldO hT (bPm .head)) ?_;refine sp4 hT ?_;refine cF (λi=>?_) (λi=>?_)
  .have i:=of_decide_eq_true i;refine sk3 ?_;refine sp2 hT ?_;refine sk3 ?_;refine sp2 hT ?_;refine sk4 ?_;refine sk2 ?_;refine sp hT ?_;refine nn<|cA rfl rfl ?_;refine sr<|sp2 hT ?_;refine nn<|cX<|cH<|bQ (t:=164) iG ?_;have hs:stepR st it.it=none:=by first|exact mI a n0|exact hQ a r8 m0|exact hZ a m0
   exact dD (none,0,[]) rfl (bX rfl) (bX rfl) (.c0 .nil) ⟨j2 (λr hr=>by rw[hs]at hr;cases hr),j1⟩ aa6
  have i:=Y7.1 (of_decide_eq_false i);refine sp hT ?_;refine ss (ldO hT (bDt .head)) ?_;refine sp3 hT ?_;refine cF (λd=>?_) (λd=>?_)
  .have d:it.name≠([]:Bs):=λh=>by rw[h]at d;first|(simp at d;done)|exact absurd d m9
   refine sk3 ?_;refine sp2 hT ?_;refine sk4 ?_;refine sk2 ?_;refine sp hT ?_;refine nn<|cA rfl rfl ?_;refine sr<|sp2 hT ?_;refine nn<|cX<|cH<|bQ (t:=164) iG ?_;have hs:stepR st it.it=none:=by first|exact mI a n0|exact hQ a r8 m0|exact hZ a m0
   exact dD (none,0,[]) rfl (bX rfl) (bX rfl) (.c0 .nil) ⟨j2 (λr hr=>by rw[hs]at hr;cases hr),j1⟩ aa6
  have d:it.name=([]:Bs):=eq_of_beq (mL d);refine sp2 hT ?_;refine bJ (z':=((st.length:Nat):Int)) (congrArg L6 O8) ?_;refine sp3 hT ?_;refine cF (λg=>?_) (λg=>?_)
  .have g:=of_decide_eq_true g;refine sk4 ?_;refine sk2 ?_;refine sp hT ?_;refine nn<|cA rfl rfl ?_;refine sr<|sp2 hT ?_;refine nn<|cX<|cH<|bQ (t:=164) iG ?_;have hs:stepR st it.it=none:=by first|exact mI a n0|exact hQ a r8 m0|exact hZ a m0
   exact dD (none,0,[]) rfl (bX rfl) (bX rfl) (.c0 .nil) ⟨j2 (λr hr=>by rw[hs]at hr;cases hr),j1⟩ aa6
  have g:=Y7.1 (of_decide_eq_false g);refine sp4 hT ?_;refine bJ (z':=((st.length:Nat):Int)) (congrArg L6 O8) ?_;refine sp3 hT ?_;refine nn<|bW rfl (λj=>?_) (λj=>?_)
  .have D:=j;have j:=of_decide_eq_true j;refine sr<|sp2 hT ?_;refine nn<|cX<|cH<|bQ (t:=164) iG ?_;have hs:stepR st it.it=none:=by first|exact mI a n0|exact hQ a r8 m0|exact hZ a m0
   exact dD (none,0,[]) rfl (bX rfl) (bX rfl) (.c0 .nil) ⟨j2 (λr hr=>by rw[hs]at hr;cases hr),j1⟩ aa6
  have D:=j;have j:=Y7.1 (of_decide_eq_false j);refine fF<|cZ<|bP ?_;obtain⟨c,q1,st,rfl⟩:=cons2G (l:=st) m0;have N:=hok q1 n9;have L:=hok c n9;simp only[F5]at hl;simp only[O8,F5]at I;refine dE<|sp3 hT ?_;refine bJ (z':=(((st.length+2):Nat):Int)) n9 ?_;refine sp hT ?_;refine bJ (z':=((((st.length+2)-1):Nat):Int)) (kD m0 m0) ?_;refine ss (cC hT (k:=((st.length+2)-1)) (bE d7) rfl rfl rfl rfl rfl rfl rfl ab6) ?_;refine ss (fM hT (dC.knows (bE d7) (k:=((st.length+2)-1)) (x:=c) rev2G.1 0) rfl rfl rfl rfl rfl) ?_;refine j4 mR λb87=>?_;refine sto hT .head ?_;refine nn<|sr<|sp hT ?_;refine ss (ldO hT (tI kT1)) ?_;refine sp hT ?_;refine ss (ldO hT (gC kT1)) ?_;refine bJ (z':=((7:Nat):Int)) hh ?_;refine sp hT ?_;refine bF (t':=true) m9 ?_;refine j5 func136 (tB it.fn true) j1 λ_=>?_;have A:(it.it.H !=3)=true:=by rw[show it.it.H=7 from hh];rfl
  have K:=oU true it.fn;refine sp hT ?_;refine nn<|bP<|sr<|sp3 hT ?_;refine cF (λhg85=>?_) (λhg85=>?_)
  .have hg85:(dP true it.fn)=([]:Bs):=eq_of_beq hg85;refine sk4 ?_;refine sk4 ?_;refine sk4 ?_;refine sk2 ?_;refine sp hT ?_;refine nn<|cA rfl rfl ?_;refine sr<|sp2 hT ?_;refine nn<|cX<|cH<|bQ (t:=164) iG ?_;have hs:stepR (c::q1::st) it.it=none:=wF a (bAh A v7);exact dD (none,0,[]) rfl (bX rfl) (bX rfl) (.c0 .nil) ⟨j2 (λr hr=>by rw[hs]at hr;cases hr),j1⟩ aa6
  have hg85:(dP true it.fn)≠([]:Bs):=λh=>absurd (beq_iff_eq.2 h) af0;refine sp hT ?_;refine ss (ldO hT (gC kT1)) ?_;refine bJ (z':=((7:Nat):Int)) hh ?_;refine sp hT ?_;refine bF (t':=true) m9 ?_;refine sp2 hT ?_;refine ss (ldO hT (gC kT1)) ?_;refine bJ (z':=((7:Nat):Int)) hh ?_;refine sp hT ?_;refine bF (t':=true) m9 ?_;refine sp3 hT ?_;refine ss (ldO hT (tI kT1)) ?_;refine bC func137 (zP _) rfl rfl .nil j1 λ_=>?_;refine sp3 hT ?_;refine nn<|bW rfl (λf=>?_) (λf=>?_)
  .have y:=f;have f:=xB f;refine sr<|sp2 hT ?_;refine nn<|cX<|cH<|bQ (t:=164) iG ?_;have hs:stepR (c::q1::st) it.it=none:=wF a (bAh A v7);exact dD (none,0,[]) rfl (bX rfl) (bX rfl) (.c0 .nil) ⟨j2 (λr hr=>by rw[hs]at hr;cases hr),j1⟩ aa6
  have y:=f;have f:=mL f;refine fF<|cZ<|sr<|sp hT ?_;refine nn<|bP<|sr<|sp hT ?_;refine ss (ldO hT (gC kT1)) ?_;refine bJ (z':=((7:Nat):Int)) hh ?_;refine nn<|iE<|sr<|sp hT ?_;refine bF (t':=false) m9 ?_;refine sp hT ?_;refine nn<|jL rfl rfl ?_;refine sr<|sp hT ?_;refine bF (t':=false) m9 ?_;refine sp hT ?_;refine nn<|jL rfl rfl ?_;refine sr<|sp hT ?_;refine bF (t':=true) m9 ?_;refine sp hT ?_;refine nn<|cA rfl rfl ?_;refine sr<|sp hT ?_;refine ss (dI rfl rfl rfl q9) ?_;refine sp hT ?_;refine nn<|dE<|sp hT ?_;refine sJ<|lW<|cZ<|bP<|bP ?_;have u:=vr_ok (mk:=[46]) (k:=2) A ‹_› (.inr (.inr ‹_›)) (by rw[show it.it.H=7 from hh];rfl) (by rw[show it.it.H=7 from hh];rfl);have n:((dP true it.fn)++([46]:Bs))≠[]:=by first|assumption|simp
  refine dE<|sp2 hT ?_;refine nn<|jL rfl rfl ?_;refine fF<|cZ<|sr<|sp3 hT ?_;refine bJ (z':=(((st.length+2):Nat):Int)) n9 ?_;refine sp hT ?_;refine bJ (z':=((((st.length+2)-2):Nat):Int)) (kD m0 m0) ?_;refine ss (cC hT (k:=((st.length+2)-2)) (bE d7) rfl rfl rfl rfl rfl rfl rfl ab6) ?_;refine ss (fM hT (dC.knows (bE d7) (k:=((st.length+2)-2)) (x:=q1) rev2G.2 0) rfl rfl rfl rfl rfl) ?_;refine j5 func138 (bXh q1 m0 m0 m0) j1 λ_=>?_;have O:=brk_len q1;refine j4 mR λb88=>?_;refine sto hT .head ?_;refine nn<|sr<|sp hT ?_;refine ss (ldO hT (gC .head)) ?_;refine ss (dI rfl rfl rfl q9) ?_;refine sp hT ?_;refine ss (dI rfl rfl rfl q9) ?_;refine ss (dI rfl rfl rfl q9) ?_;refine sp hT ?_;refine ss (ldO hT (gC kT1)) ?_;refine ss (dI rfl rfl rfl q9) ?_;refine sp hT ?_;refine ss (ldO hT (tI .head)) ?_;refine sp2 hT ?_;refine bJ (z':=((((brkR q1).D+2):Nat):Int)) (kD m0 m0) ?_;refine sp hT ?_;refine ss (ldO hT (tI kT1)) ?_;refine sp hT ?_;refine bJ (z':=(((((brkR q1).D+2)+c.D):Nat):Int)) (kD m0 m0) ?_;refine sp hT ?_;refine ss (ldO hT (bDt .head)) ?_;refine sp hT ?_;refine ss (ldO hT (bDt kT1)) ?_;refine sp hT ?_;refine bJ (z':=(((max (brkR q1).J c.J):Nat):Int)) (maxN _ _) ?_;refine ss (j7 (pV _ _ _)) ?_;refine j4 mR λb89=>?_;refine sto hT .head ?_;refine nn<|bP<|bB (iG.sl (.slice B st.reverse.length e) st.reverse) (rcut2 d7) ?_;refine kP _ _ (.fl 1 (.fl 2 (.fl 3 (.fl 4 (.fl 5 (.fl 7 (.two 0 8 (.two 6 8 (.op 8 (.op 9 (.fl 10 (.fl 11 .nil)))) (.op 6 (.op 9 (.fl 10 (.fl 11 .nil))))) (.op 0 (.op 6 (.op 9 (.fl 10 (.fl 11 .nil)))))))))))) cN o8 (.c0 (.c0 (.c0 (.c0 .nil)))) bA.self ?_;refine pvT hT ?_;refine pvT hT ?_;refine pvT hT ?_;refine bJ (z':=(((st.length+2):Nat):Int)) n9 ?_;refine pvT hT ?_;refine bJ (z':=((((st.length+2)-2):Nat):Int)) (kD m0 m0) ?_;refine sqT rfl (iQ hT (k:=st.reverse.length) rfl rfl rfl rfl rfl n9 s8) ?_;refine sqT rfl (ldN hT (gC .head)) ?_;refine gO (o:=_) (o':=_) rfl rfl ?_ ?_
  .refine kG rfl rfl rfl rfl λb90=>?_;refine dB (.c1 (.c1 (.c1 (.c1 .nil)))) (bA.drop 0) ?_;refine gO (o:=_) (o':=_) rfl rfl ?_ ?_
   .refine dM .head (bE d7) rfl rfl rfl rfl rfl rfl rfl o0 λA91 c92=>?_;refine dB (.c1 (.c1 (.c1 (.c1 .nil)))) (bA.drop 0) ?_;refine iF (o:=_) rfl ?_;refine gW (m:=(⟨(((((brkR q1).s++([32]:Bs))++((dP true it.fn)++([46]:Bs)))++([32]:Bs))++c.s),false,(((brkR q1).D+2)+c.D),(max (brkR q1).J c.J)⟩:Part)) rfl rfl rfl rfl rfl λb93=>?_;refine dB (.c2 (.c2 (.c2 (.c2 .nil)))) (bA.drop 0) ?_;refine iF (o:=_) rfl ?_;refine dM kT1 (bT .head rfl) rfl rfl rfl rfl rfl rfl rfl o0 λA94 c95=>?_;refine dB (.c2 (.c2 (.c2 (.c2 .nil)))) (bA.drop 0) ?_;refine pvT hT ?_;refine pvT hT ?_;refine mO<|cZ<|cX ?_;have hs:=bLf (p:=c) (q:=q1) (r:=st) (x:=it.it) t6 t6 (gY m0) ‹_› u n r8;exact dD (_,_,(([]++st.reverse)++[(⟨(((((brkR q1).s++([32]:Bs))++((dP true it.fn)++([46]:Bs)))++([32]:Bs))++c.s),false,(((brkR q1).D+2)+c.D),(max (brkR q1).J c.J)⟩:Part)])) rfl (bX rfl) (bX rfl) (.c0 .nil) ⟨j2 (λr hr=>by rw[hs]at hr;cases hr;first|(simp;done)|(simp;rfl)),j1⟩ aa6
   refine gW (m:=(⟨(((((brkR q1).s++([32]:Bs))++((dP true it.fn)++([46]:Bs)))++([32]:Bs))++c.s),false,(((brkR q1).D+2)+c.D),(max (brkR q1).J c.J)⟩:Part)) rfl rfl rfl rfl rfl λb96=>?_;refine dB (.c2 (.c2 (.c2 (.c2 .nil)))) (bA.drop 0) ?_;refine iF (o:=_) rfl ?_;refine dM kT1 (bE d7) rfl rfl rfl rfl rfl rfl rfl o0 λA97 Z=>?_;refine dB (.c2 (.c2 (.c2 (.c2 .nil)))) (bA.drop 0) ?_;refine iF (o:=_) rfl ?_;refine dM .head (bT kT1 rfl) rfl rfl rfl rfl rfl rfl rfl o0 λA99 R=>?_;refine dB (.c2 (.c2 (.c2 (.c2 .nil)))) (bA.drop 0) ?_;refine pvT hT ?_;refine pvT hT ?_;refine mO<|cZ<|cX ?_;have hs:=bLf (p:=c) (q:=q1) (r:=st) (x:=it.it) t6 t6 (gY m0) ‹_› u n r8;exact dD (_,_,(([]++st.reverse)++[(⟨(((((brkR q1).s++([32]:Bs))++((dP true it.fn)++([46]:Bs)))++([32]:Bs))++c.s),false,(((brkR q1).D+2)+c.D),(max (brkR q1).J c.J)⟩:Part)])) rfl (bX rfl) (bX rfl) (.c0 .nil) ⟨j2 (λr hr=>by rw[hs]at hr;cases hr;first|(simp;done)|(simp;rfl)),j1⟩ aa6
  refine gW (m:=(⟨(((((brkR q1).s++([32]:Bs))++((dP true it.fn)++([46]:Bs)))++([32]:Bs))++c.s),false,(((brkR q1).D+2)+c.D),(max (brkR q1).J c.J)⟩:Part)) rfl rfl rfl rfl rfl λV=>?_;refine dB (.c1 (.c1 (.c1 (.c1 .nil)))) (bA.drop 0) ?_;refine iF (o:=_) rfl ?_;refine kG rfl rfl rfl rfl λU=>?_;refine dB (.c2 (.c2 (.c2 (.c2 .nil)))) (bA.drop 0) ?_;refine iF (o:=_) rfl ?_;refine dM .head (bE d7) rfl rfl rfl rfl rfl rfl rfl o0 λX Q=>?_;refine dB (.c2 (.c2 (.c2 (.c2 .nil)))) (bA.drop 0) ?_;refine iF (o:=_) rfl ?_;refine dM .head (bT kT1 rfl) rfl rfl rfl rfl rfl rfl rfl o0 λW P=>?_;refine dB (.c2 (.c2 (.c2 (.c2 .nil)))) (bA.drop 0) ?_;refine pvT hT ?_;refine pvT hT ?_;refine mO<|cZ<|cX ?_;have hs:=bLf (p:=c) (q:=q1) (r:=st) (x:=it.it) t6 t6 (gY m0) ‹_› u n r8;exact dD (_,_,(([]++st.reverse)++[(⟨(((((brkR q1).s++([32]:Bs))++((dP true it.fn)++([46]:Bs)))++([32]:Bs))++c.s),false,(((brkR q1).D+2)+c.D),(max (brkR q1).J c.J)⟩:Part)])) rfl (bX rfl) (bX rfl) (.c0 .nil) ⟨j2 (λr hr=>by rw[hs]at hr;cases hr;first|(simp;done)|(simp;rfl)),j1⟩ aa6
 have Y:it.H<3\/7<it.H:=hh;refine dE<|sp hT ?_;refine ss (ldO hT (gC .head)) ?_;refine sp2 hT ?_;refine cF (λE=>?_) (λE=>?_)
 .have E:=eq_of_beq E;refine sk3 ?_;refine sp2 hT ?_;refine nn<|bP<|sr<|sp hT ?_;refine ss (ldO hT (gC .head)) ?_;refine sp2 hT ?_;refine cF (λw=>?_) (λw=>?_)
  .have w:=of_decide_eq_true w;refine sk3 ?_;refine sp2 hT ?_;refine sk4 ?_;refine sp2 hT ?_;refine sk3 ?_;refine sp2 hT ?_;refine sk3 ?_;refine sp2 hT ?_;refine sk4 ?_;refine sk2 ?_;refine sp hT ?_;refine nn<|cA rfl rfl ?_;refine sr<|sp2 hT ?_;refine nn<|cX<|cH<|bQ (t:=164) iG ?_;have hs:stepR st it.it=none:=by first|exact mI a n0|exact hQ a r8 m0|exact hZ a m0
   exact dD (none,0,[]) rfl (bX rfl) (bX rfl) (.c0 .nil) ⟨j2 (λr hr=>by rw[hs]at hr;cases hr),j1⟩ aa6
  have w:=Y7.1 (of_decide_eq_false w);refine sp hT ?_;refine ss (ldO hT (gC .head)) ?_;refine sp3 hT ?_;refine cF (λv=>?_) (λv=>?_)
  .have v:=of_decide_eq_true v;refine sk4 ?_;refine sp2 hT ?_;refine sk3 ?_;refine sp2 hT ?_;refine sk3 ?_;refine sp2 hT ?_;refine sk4 ?_;refine sk2 ?_;refine sp hT ?_;refine nn<|cA rfl rfl ?_;refine sr<|sp2 hT ?_;refine nn<|cX<|cH<|bQ (t:=164) iG ?_;have hs:stepR st it.it=none:=by first|exact mI a n0|exact hQ a r8 m0|exact hZ a m0
   exact dD (none,0,[]) rfl (bX rfl) (bX rfl) (.c0 .nil) ⟨j2 (λr hr=>by rw[hs]at hr;cases hr),j1⟩ aa6
  have v:=Y7.1 (of_decide_eq_false v);omega
 have E:=beq_eq_false_iff_ne.1 E;refine sp hT ?_;refine ss (ldO hT (gC .head)) ?_;refine sp3 hT ?_;refine nn<|bP<|sr<|sp hT ?_;refine ss (ldO hT (gC .head)) ?_;refine sp2 hT ?_;refine cF (λw=>?_) (λw=>?_)
 .have w:=of_decide_eq_true w;refine sk3 ?_;refine sp2 hT ?_;refine sk4 ?_;refine sp2 hT ?_;refine sk3 ?_;refine sp2 hT ?_;refine sk3 ?_;refine sp2 hT ?_;refine sk4 ?_;refine sk2 ?_;refine sp hT ?_;refine nn<|cA rfl rfl ?_;refine sr<|sp2 hT ?_;refine nn<|cX<|cH<|bQ (t:=164) iG ?_;have hs:stepR st it.it=none:=by first|exact mI a n0|exact hQ a r8 m0|exact hZ a m0
  exact dD (none,0,[]) rfl (bX rfl) (bX rfl) (.c0 .nil) ⟨j2 (λr hr=>by rw[hs]at hr;cases hr),j1⟩ aa6
 have w:=Y7.1 (of_decide_eq_false w);refine sp hT ?_;refine ss (ldO hT (gC .head)) ?_;refine sp3 hT ?_;refine cF (λv=>?_) (λv=>?_)
 .have v:=of_decide_eq_true v;refine sk4 ?_;refine sp2 hT ?_;refine sk3 ?_;refine sp2 hT ?_;refine sk3 ?_;refine sp2 hT ?_;refine sk4 ?_;refine sk2 ?_;refine sp hT ?_;refine nn<|cA rfl rfl ?_;refine sr<|sp2 hT ?_;refine nn<|cX<|cH<|bQ (t:=164) iG ?_;have hs:stepR st it.it=none:=by first|exact mI a n0|exact hQ a r8 m0|exact hZ a m0
  exact dD (none,0,[]) rfl (bX rfl) (bX rfl) (.c0 .nil) ⟨j2 (λr hr=>by rw[hs]at hr;cases hr),j1⟩ aa6
 have v:=Y7.1 (of_decide_eq_false v);omega
structure bJv (l:List fE) (st:List Part) (i:Nat):Prop where
 steps:rZ (l.drop i) st=rZ l []
 le:i<=l.length
 len:st.length<=i
 sum:(st.map (·.D)).sum<=300*i
 J: ∀p∈st,p.J<=i
 ok: ∀p∈st,p.s.length<=40*p.D
section
variable {l : List fE} {st r : List Part} {i k : Nat} {x : fE} {p q : Part}
theorem bJv.start(l:List fE):bJv l [] 0:=⟨rfl,m0,n9,n9,λp a=>by simp at a,λp a=>by simp at a⟩
theorem bJv.fail(h:bJv l st i)(hx:l[i]?=some x)(hs:stepR st x=none):bHz l k=none:=by have:=h.steps;rw[gX hx,rZ,hs]at this;unfold bHz;rw[<-this];split<;>rfl
def finR (k:Nat):List Part->Option Bs
 |[p]=>if 256<p.D+k\/32<p.J then none else some p.s
 |_=>none
theorem bJv.done(h:bJv l st i)(hi:l.length<=i)(hm: ¬256<l.length):bHz l k=finR k st:=by
 have:=h.steps;rw[K3 hi,rZ]at this;unfold bHz;rw[if_neg hm,<-this]
 match st with
 |[]=>rfl
 |[_]=>rfl
 |_::_::_=>rfl
theorem xr_long(h:256<l.length):bHz l k=none:=by rw[bHz,if_pos h]
theorem not_oneR(h:st.length≠1):finR k st=none:=by
 match st,h with
 |[],_=>rfl
 |[_],h=>exact absurd rfl h
 |_::_::_,_=>rfl
theorem finR_one(h: ¬(256<p.D+k\/32<p.J)):finR k [p]=some p.s:=if_neg h
theorem finR_bad(h:256<p.D+k\/32<p.J):finR k [p]=none:=if_pos h
theorem operandR_ok(hz: ∀z∈x.nums,-9223372036854775808<=z/\z<=9223372036854775807):(operandR x).s.length<=40*(operandR x).D/\(operandR x).D<=256/\(operandR x).J=0:=by
 unfold operandR;split
 .exact⟨by simp[nV],by simp[nV],rfl⟩
 .split
  .split
   .exact⟨by simp[nV],by simp[nV],rfl⟩
   .rename_i h
    have hn:dQ x.name=true:=by
     cases hn:dQ x.name with
     |true=>rfl
     |false=>exact absurd (.inr hn) h
    have:=mX hn;exact⟨by simp;omega,n9,rfl⟩
  .split
   .exact⟨by simp[nV],by simp[nV],rfl⟩
   .rename_i h;have h1: ¬256<x.nums.length:=λe=>h (.inr e);have h2:=bHx (x.nums.map fB);have a:=bVc hz;refine⟨?_,by simp;omega,rfl⟩;rw[bAl];simp only;omega
theorem verbR_ok(h:(verbR x).1≠[]):(verbR x).1.length<=6/\1<=(verbR x).2/\(verbR x).2<=2:=by
 unfold verbR at h⊢;rw[qG]at h⊢;have h1:=oU (x.H !=3) x.fn;have b:=bKy x.H;dsimp only at h⊢;split
 .rename_i a;rw[if_pos a]at h;exact absurd rfl h
 .refine⟨by simp;omega,?_,?_⟩
  .simp only;split<;>omega
  .simp only;split<;>omega
theorem brk_ok(h:p.s.length<=40*p.D):(brkR p).s.length<=40*(brkR p).D:=by
 unfold brkR;split
 .exact h
 .simp;omega
theorem bJv.next(h:bJv l st i)(hx:l[i]?=some x)(hz: ∀z∈x.nums,-9223372036854775808<=z/\z<=9223372036854775807)(hs:stepR st x=some r):bJv l r (i+1):=by
 have k:=(F3.1 hx).1
 have d:rZ (l.drop (i+1)) r=rZ l []:=by have:=h.steps;rw[gX hx,rZ,hs]at this;exact this
 obtain⟨_,_,f,e,a,b⟩:=h
 suffices hh:r.length<=st.length+1/\(r.map (·.D)).sum<=(st.map (·.D)).sum+300/\(∀p∈r,p.J<=i+1)/\ ∀p∈r,p.s.length<=40*p.D from
  ⟨d,k,m0,m0,hh.2.2.1,hh.2.2.2⟩
 unfold stepR at hs;split at hs
 .split at hs
  .cases hs;obtain⟨h1,h2,v⟩:=operandR_ok hz;refine⟨n9,by simp only[N7,N8];omega,λp c=>?_,λp c=>?_⟩
   .rcases E2.1 c with rfl|c
    .omega
    .have:=a p c;omega
   .rcases E2.1 c with rfl|c
    .exact h1
    .exact b p c
  .cases hs
 .split at hs
  .cases hs
  .split at hs
   .cases hs
   .rename_i j;obtain⟨t,o,n⟩:=verbR_ok j;split at hs
    .rcases st with _|⟨p,_|⟨q,st⟩⟩
     .cases hs
     .cases hs
     .cases hs;obtain⟨C,B,A⟩:=brk_len q;have w:=brk_ok (b q n9);have m:=b p n9;have g:=a p n9;have u:=a q n9;refine⟨n9,by simp only[N7,N8];omega,λy hy=>?_,λy hy=>?_⟩
      .rcases E2.1 hy with rfl|hy
       .dsimp only;omega
       .have:=a y ae5;omega
      .rcases E2.1 hy with rfl|hy
       .simp only[F4,F5,O2];omega
       .exact b y ae5
    .rcases st with _|⟨p,st⟩
     .cases hs
     .cases hs;have m:=b p n9;have g:=a p n9;refine⟨n9,by simp only[N7,N8];omega,λy hy=>?_,λy hy=>?_⟩
      .rcases E2.1 hy with rfl|hy
       .dsimp only;omega
       .have:=a y ae5;omega
      .rcases E2.1 hy with rfl|hy
       .simp only[F4,F5,O2];omega
       .exact b y ae5
theorem bJv.bound(h:bJv l st i)(hi:i<=256): ∀p∈st,p.s.length<=1000000000/\p.D<=1000000000/\p.J<=1000000000:=λp a=>by
 have key: ∀st:List Part,p∈st->p.D<=(st.map (·.D)).sum:=by
  intro st
  induction st with
  |nil=>intro h;simp at h
  |cons q r ih=>
   intro h;simp only[N7,N8]
   rcases E2.1 h with rfl|h
   .omega
   .have:=ih h;omega
 have h1:=key st a;have h2:=h.sum;have b:=h.ok p a;have h4:=h.J p a;exact⟨m0,m0,m0⟩
theorem oneG{α:Type}{l:List α}(h:l.length=1): ∃p,l=[p]:=by
 match l,h with
 |[p],_=>exact⟨p,rfl⟩
end
def inpT:Option Bs->Bs
 |some t=>[105,110,32]++t
 |none=>[]
theorem bEu: ∀{l:List oH} {t r:Bs},(∀d∈l,-9223372036854775808<=d.n/\d.n<=9223372036854775807)->lS l t=some r->r.length<=t.length+30*l.length
 |[],t,r,_,h=>by cases h;simp
 |d::l,t,r,hd,h=>by
  have h1:=hd d n9;have h2:=mA h1.1 h1.2;rw[lS]at h;split at h
  .have:=bEu (λy hy=>hd y ae5) h;simp at this⊢;omega
  .split at h
   .rename_i hn;have a:=mX hn.2;have:=bEu (λy hy=>hd y ae5) h;simp at this⊢;omega
   .cases h
theorem inp_len{x:InputV}(hd: ∀d∈x.B.A,d.name.length<=140737488355328/\ -9223372036854775808<=d.n/\d.n<=9223372036854775807):(inpT (inputS x.inp)).length<=200:=by
 unfold inpT;split
 .rename_i t h;unfold inputS at h;split at h
  .cases h
  .rename_i b;have h1: ¬4<x.inp.B.length:=λe=>b (.inr e)
   have h2:dQ x.inp.name=true:=by
    cases hn:dQ x.inp.name with
    |true=>rfl
    |false=>exact absurd (.inl hn) b
   have c:=mX h2
   have:=bEu (λd a=>by
    obtain⟨y,hy,rfl⟩:=List.mem_map.1 a
    exact(hd y hy).2) h
   simp;omega
 .simp
theorem bSo{l:List fE}{most:Nat}(hz: ∀x∈l,∀z∈x.nums,-9223372036854775808<=z/\z<=9223372036854775807):((gT l most).getD []).length<=40*most:=by
 cases h:gT l most with
 |none=>simp
 |some t=>exact bKc hz h
theorem bPd(A:Option Addr)(ci:Nat)(items:List ItemV)(k:Nat)(hk:k<=256)(hit: ∀it∈items,it.name.length<=140737488355328/\ ∀z∈it.nums.A,-9223372036854775808<=z/\z<=9223372036854775807):cY prog 66 [.slice A items.length ci,k9 (k:Nat)] [] [mM.sl (.slice A items.length ci) items,nN items] (λ(_:Unit)=> .tuple #[.string (bs ((gT (items.map ItemV.it) (256-k)).getD [])),.bool (gT (items.map ItemV.it) (256-k)).isSome]) (λ_=>[]) (λ_=>[]):=by
 have hT:=jI;rw[<-expr_like _ _ hk];generalize j:bHz (items.map ItemV.it) k=r;refine j8 func66 ntmps66 ?_;intro β hM;refine sr<|sp2 hT ?_;refine nn<|bP<|sr<|sp3 hT ?_;refine nn<|bW rfl (λg=>?_) (λg=>?_)
 .have g:=of_decide_eq_true g;refine sr<|sp2 hT ?_;refine nn<|cX<|cH ?_;have hr:=j.symm.trans (xr_long ab2);subst hr;exact dD () rfl (bX rfl) (bX rfl) .nil j1 rfl
 have g:=Y7.1 (of_decide_eq_false g);refine fF<|cZ<|sr<|sp hT ?_;refine nn<|bP<|sr<|sp hT ?_;refine nn<|iE<|bQ (t:=164) iG ?_;refine cI (ι:=Nat×List Part×Option Addr×Nat) [(0,_),(1,_)] ⟨rfl,rfl,j1⟩ (λ⟨i,st,B,e⟩=>[(6,.slice B st.reverse.length e),(7,.int .i64 (i:Nat))]) (λ⟨i,st,B,e⟩=>[iG.row (.slice B st.reverse.length e) 164 st.reverse]) (λ⟨i,st,B,e⟩=>[Fact.pure (bJv (items.map ItemV.it) st i)]) (λ⟨i,st,B,e⟩=>items.length-i) (0,[],none,0) ⟨rfl,rfl,j1⟩ (.c0 .nil) ⟨j2 (bJv.start _),j1⟩ ?_;rintro⟨i,st,B,e⟩;dsimp only;refine bG d7 λa=>?_;have q:=a.le;simp only[O4]at q;have s:=a.len;have o:=a.bound m0;refine bP<|sr<|sp4 hT ?_;refine nn<|bW rfl (λf=>?_) (λf=>?_)
 .have f:=of_decide_eq_true f;refine fF<|cZ<|bP<|iE<|sr<|sp3 hT ?_
  obtain⟨x1,h⟩: ∃x',items[i]?=some x':=⟨_,F1 m0⟩
  refine ss (cC hT (k:=i) (bE d8) rfl rfl rfl rfl rfl rfl rfl m0) ?_;refine ss (fM hT (dC.knows (bE d8) (k:=i) (x:=x1) h 0) rfl rfl rfl rfl rfl) ?_;have hx0:(items.map ItemV.it)[i]?=some x1.it:=by rw[K1,h];rfl
  have m:=hit x1 (j3 h);refine bB (bNi x1) (Has.each d9 (j3 h)) ?_;refine bC func103 (rstep_spec B e st x1 m.2 m0 o) rfl rfl (.c0 .nil) ⟨d7,j1⟩ λ⟨A3,c4,L5⟩=>?_;refine bG d7 λn=>?_;dsimp only at n;refine sp4 hT ?_;refine sp hT ?_;refine nn<|bP<|sr<|sp2 hT ?_;refine nn<|bW rfl (λd=>?_) (λd=>?_)
  .have d:=xB d;refine sr<|sp2 hT ?_;refine nn<|cX<|cH<|iD<|cH<|cH<|iD<|cH ?_;obtain rfl:=j.symm.trans (a.fail hx0 (nL ‹_›));exact dD () rfl (bX rfl) (bX rfl) .nil j1 rfl
  have d:=mL d;refine fF<|cZ ?_;obtain⟨r,hr⟩: ∃r,stepR st x1.it=some r:=Option.isSome_iff_exists.1 ‹_›;have v:=n r hr;subst v;refine dE<|sp2 hT ?_;refine sJ<|lW<|cZ<|dE<|sp2 hT ?_;refine bJ (z':=(((i+1):Nat):Int)) (kD m0 m0) ?_;refine sp hT ?_;refine nn ?_;exact dR (i+1,r,_,_) aa2 ⟨rfl,rfl,j1⟩ ⟨rfl,rfl,j1⟩ (.c0 .nil) ⟨j2 (a.next hx0 m.2 hr),j1⟩ (bA.drop 3)
 have f:=Y7.1 (of_decide_eq_false f);refine sV<|nE<|nE<|sY<|cZ<|bP<|sr<|sp2 hT ?_;refine bJ (z':=((st.length:Nat):Int)) (congrArg L6 O8) ?_;refine sp2 hT ?_;refine cF (λb=>?_) (λb=>?_)
 .have b:=bne_iff_ne.1 b;refine sk4 ?_;refine sk3 ?_;refine sp2 hT ?_;refine sk4 ?_;refine sk ?_;refine sp hT ?_;refine nn<|cA rfl rfl ?_;refine sr<|sp2 hT ?_;refine nn<|cX<|cH ?_;have hr:=j.symm.trans ((a.done ab2 ab2).trans (not_oneR m0));subst hr;exact dD () rfl (bX rfl) (bX rfl) .nil j1 rfl
 have b:=bne_eq_false_iff_eq.1 b;obtain⟨p,rfl⟩:=oneG (l:=st) m0;have u:=o p n9;refine sp hT ?_;refine ss (cC hT (k:=0) (cM .head) rfl rfl rfl rfl rfl rfl rfl n9) ?_;refine sp hT ?_;refine ss (j9 hT (dC.knows (cM .head) (k:=0) (x:=p) rfl 2)) ?_;refine sp2 hT ?_;refine bJ (z':=(((p.D+k):Nat):Int)) (kD m0 m0) ?_;refine sp3 hT ?_;refine cF (λhg43=>?_) (λhg43=>?_)
 .have hg43:=of_decide_eq_true hg43;refine sk4 ?_;refine sk ?_;refine sp hT ?_;refine nn<|cA rfl rfl ?_;refine sr<|sp2 hT ?_;refine nn<|cX<|cH ?_;have hr:=j.symm.trans ((a.done ab2 ab2).trans (finR_bad m0));subst hr;exact dD () rfl (bX rfl) (bX rfl) .nil j1 rfl
 have hg43:=Y7.1 (of_decide_eq_false hg43);refine sp hT ?_;refine ss (cC hT (k:=0) (cM .head) rfl rfl rfl rfl rfl rfl rfl n9) ?_;refine sp hT ?_;refine ss (j9 hT (dC.knows (cM .head) (k:=0) (x:=p) rfl 3)) ?_;refine sp2 hT ?_;refine nn<|bW rfl (λc=>?_) (λc=>?_)
 .have c:=of_decide_eq_true c;refine sr<|sp2 hT ?_;refine nn<|cX<|cH ?_;have hr:=j.symm.trans ((a.done ab2 ab2).trans (finR_bad m0));subst hr;exact dD () rfl (bX rfl) (bX rfl) .nil j1 rfl
 have c:=Y7.1 (of_decide_eq_false c);refine fF<|cZ<|sr<|sp hT ?_;refine ss (cC hT (k:=0) (cM .head) rfl rfl rfl rfl rfl rfl rfl n9) ?_;refine sp hT ?_;refine ss (j9 hT (dC.knows (cM .head) (k:=0) (x:=p) rfl 0)) ?_;refine sp2 hT ?_;refine nn<|cX ?_;have hr:=j.symm.trans ((a.done ab2 ab2).trans (finR_one m0));subst hr;exact dD () rfl (bX rfl) (bX rfl) .nil j1 rfl
theorem rinput_spec(y:InputV)(hn:y.name.length<=140737488355328)(hd: ∀d∈y.B.A,d.name.length<=140737488355328/\ -9223372036854775808<=d.n/\d.n<=9223372036854775807):cY prog 65 [.agg #[.string (bs y.name),k9 y.at_,k7 y.B]] [] [nG y] (λ(_:Unit)=> .tuple #[.string (bs (inpT (inputS y.inp))),.bool (inputS y.inp).isSome]) (λ_=>[]) (λ_=>[]):=by
 have hT:=jI;generalize l:inputS y.inp=r;refine j8 func65 ntmps65 ?_;intro β hM;refine sr<|j6 λp=>?_;refine sp2 hT ?_;refine nn<|bP<|sr<|sp hT ?_;refine ss (ldO hT (gC .head)) ?_;refine bC func67 (yR _) rfl rfl .nil j1 λ_=>?_;refine sp2 hT ?_;refine cF (λhg11=>?_) (λhg11=>?_)
 .have hg11:=xB hg11;refine sk4 ?_;refine sp hT ?_;refine nn<|cA rfl rfl ?_;refine sr<|sp2 hT ?_;refine nn<|cX<|cH ?_;have hr:=l.symm.trans (bDr aa1);subst hr;exact dD () rfl (bX rfl) (bX rfl) .nil j1 rfl
 have hg11:=mL hg11;refine sp hT ?_;refine ss (ldO hT (tI .head)) ?_;refine sp3 hT ?_;refine nn<|bW rfl (λc=>?_) (λc=>?_)
 .have c:=of_decide_eq_true c;refine sr<|sp2 hT ?_;refine nn<|cX<|cH ?_;have hr:=l.symm.trans (bDr aa1);subst hr;exact dD () rfl (bX rfl) (bX rfl) .nil j1 rfl
 have c:=Y7.1 (of_decide_eq_false c);refine fF<|cZ<|sr<|sp hT ?_;refine ss (ldO hT (gC .head)) ?_;refine ss (dI rfl rfl rfl q9) ?_;refine sp hT ?_;refine nn<|bP<|sr<|sp hT ?_;refine nn<|iE<|cI (ι:=Nat×Bs) [(1,_)] ⟨rfl,j1⟩ (λ⟨j,text⟩=>[(4,.string (bs ([105,110,32]++text))),(5,.int .i64 (j:Nat))]) (λ_=>[]) (λ⟨j,text⟩=>[Fact.pure (j<=y.B.A.length/\lS ((y.B.A.map kF.sd).drop j) text=r/\text.length<=16+30*j)]) (λ⟨j,text⟩=>y.B.A.length-j) (0,y.name) ⟨rfl,rfl,j1⟩ .nil ⟨j2 (⟨m0,l▸(bLv ‹_› m0).symm,by have:=mX ‹dQ y.name=true›;omega⟩),j1⟩ ?_;rintro⟨j,text⟩;dsimp only;refine bG d7 λa=>?_;refine bP<|sr<|sp2 hT ?_;refine ss (ldO hT (tI .head)) ?_;refine sp2 hT ?_;refine nn<|bW rfl (λhc24=>?_) (λhc24=>?_)
 .have hc24:=of_decide_eq_true hc24;refine fF<|cZ<|bP<|iE<|sr<|sp hT ?_;refine ss (ldO hT (tI .head)) ?_;refine sp hT ?_
  obtain⟨g,e⟩: ∃x',y.B.A[j]?=some x':=⟨_,F1 m0⟩
  refine ss (cC hT (k:=j) (bE d8) rfl rfl rfl rfl rfl rfl rfl m0) ?_;refine ss (fM hT (dC.knows (bE d8) (k:=j) (x:=g) e 0) rfl rfl rfl rfl rfl) ?_;refine j4 zE λo=>?_;refine sto hT .head ?_;refine nn<|bP ?_;have f:=hd g (j3 e);refine dE<|sp hT ?_;refine ss (ldO hT (gC .head)) ?_;refine sp hT ?_;refine nn<|bW rfl (λhc34=>?_) (λhc34=>?_)
  .have hc34:g.name=([]:Bs):=eq_of_beq hc34;refine dE<|sp hT ?_;refine ss (dI rfl rfl rfl q9) ?_;refine sp hT ?_;refine ss (ldO hT (bRq .head)) ?_;have m:=mA f.2.1 f.2.2;refine bC func102 (bEr _ f.2.1 f.2.2) rfl rfl .nil j1 λ_=>?_;refine ss (dI rfl rfl rfl q9) ?_;refine iC (v':= .string (bs ([105,110,32]++(text++([32]++fB g.n))))) (congrArg (λs:Bs=>Q5 (bs s)) n9) ?_;refine sp hT ?_;refine sJ<|lW<|cZ<|dE<|sp2 hT ?_;refine bJ (z':=(((j+1):Nat):Int)) (kD m0 m0) ?_;refine sp hT ?_;refine nn ?_;exact dR (j+1,_) aa2 ⟨rfl,rfl,j1⟩ ⟨rfl,j1⟩ (.c1 .nil) ⟨j2 (⟨by dsimp only;omega,a.2.1▸(side_num e ‹_›).symm,by simp;omega⟩),j1⟩ (bA.drop 1)
  have hc34:g.name≠([]:Bs):=λh=>absurd (beq_iff_eq.2 h) (by rw[show(g.name==([]:Bs))=false from hc34];simp);refine sr<|sp hT ?_;refine ss (ldO hT (bRq .head)) ?_;refine sp2 hT ?_;refine cF (λb=>?_) (λb=>?_)
  .have b:=eq_of_beq b;refine sp hT ?_;refine ss (ldO hT (gC .head)) ?_;refine bC func67 (yR _) rfl rfl .nil j1 λ_=>?_;refine sp hT ?_;refine nn<|bW rfl (λi=>?_) (λi=>?_)
   .refine dE<|sp hT ?_;refine ss (dI rfl rfl rfl q9) ?_;refine sp hT ?_;refine ss (ldO hT (gC .head)) ?_;refine ss (dI rfl rfl rfl q9) ?_;refine iC (v':= .string (bs ([105,110,32]++(text++([32]++g.name))))) (congrArg (λs:Bs=>Q5 (bs s)) n9) ?_;refine sp hT ?_;refine sJ<|lW<|cZ<|dE<|sp2 hT ?_;refine bJ (z':=(((j+1):Nat):Int)) (kD m0 m0) ?_;refine sp hT ?_;refine nn ?_;exact dR (j+1,_) aa2 ⟨rfl,rfl,j1⟩ ⟨rfl,j1⟩ (.c1 .nil) ⟨j2 (⟨by dsimp only;omega,a.2.1▸(bVj e ‹_› ‹_› ‹_›).symm,by have:=mX ‹dQ g.name=true›;simp;omega⟩),j1⟩ (bA.drop 1)
   refine sr<|sp2 hT ?_;refine nn<|cX<|iD<|cH<|cH<|iD<|cH ?_;have hr:=a.2.1.symm.trans (bJf e ‹_› o5);subst hr;exact dD () rfl (bX rfl) (bX rfl) .nil j1 rfl
  have b:=beq_eq_false_iff_ne.1 b;refine sk3 ?_;refine sp hT ?_;refine nn<|jL rfl rfl ?_;refine sr<|sp2 hT ?_;refine nn<|cX<|iD<|cH<|cH<|iD<|cH ?_;have hr:=a.2.1.symm.trans (bJf e ‹_› o5);subst hr;exact dD () rfl (bX rfl) (bX rfl) .nil j1 rfl
 have hc24:=Y7.1 (of_decide_eq_false hc24);refine sV<|nE<|nE<|sY<|cZ<|sr<|sp3 hT ?_;refine nn<|cX ?_;have hr:=a.2.1.symm.trans (bPn m0);subst hr;exact dD () rfl (bX rfl) (bX rfl) .nil j1 rfl
theorem rText_spec(P:ProgV)(hP:sN P)(hl1:P.C.A.length<=140737488355328)(hl2:P.G.A.length<=140737488355328):cY prog 40 [.agg #[k7 P.C,k7 P.G]] [] [jN.sl (k7 P.C) P.C.A,iY P.C.A,nW.sl (k7 P.G) P.G.A,lZ P.G.A] (λ(x:Bs)=> .tuple #[.string (bs x),.bool (dT P.pr).2]) (λ_=>[]) (λ(x:Bs)=>[Fact.pure ((dT P.pr).2=true->x=(dT P.pr).1)]):=by
 have hT:=jI;have hpl:P.pr.G.length=P.G.A.length:=O4 _;have K:P.pr.C.length=P.C.A.length:=O4 _;refine j8 func40 ntmps40 ?_;intro β hM;refine sr<|j6 λO=>?_;refine sp2 hT ?_;refine nn<|bP<|sr<|sp hT ?_;refine ss (ldO hT (gC .head)) ?_;refine sp3 hT ?_;refine cF (λg=>?_) (λg=>?_)
 .have g:=of_decide_eq_true g;refine sk4 ?_;refine sp2 hT ?_;refine sk4 ?_;refine sk4 ?_;refine sp2 hT ?_;refine sk4 ?_;refine sp hT ?_;refine nn<|cA rfl rfl ?_;refine sr<|sp2 hT ?_;refine nn<|cX<|cH ?_;have hr:=qO (p:=P.pr) z8;exact dD ([]:Bs) rfl (bX rfl) (bX rfl) .nil ⟨j2 (λh=>by rw[hr]at h;cases h),j1⟩ ak9
 have g:=Y7.1 (of_decide_eq_false g);refine sp hT ?_;refine ss (ldO hT (bRq .head)) ?_;refine sp4 hT ?_;refine cF (λf=>?_) (λf=>?_)
 .have f:=of_decide_eq_true f;refine sk4 ?_;refine sk4 ?_;refine sp2 hT ?_;refine sk4 ?_;refine sp hT ?_;refine nn<|cA rfl rfl ?_;refine sr<|sp2 hT ?_;refine nn<|cX<|cH ?_;have hr:=qO (p:=P.pr) z8;exact dD ([]:Bs) rfl (bX rfl) (bX rfl) .nil ⟨j2 (λh=>by rw[hr]at h;cases h),j1⟩ ak9
 have f:=Y7.1 (of_decide_eq_false f);refine sp hT ?_;refine ss (ldO hT (gC .head)) ?_;refine sp2 hT ?_;refine ss (ldO hT (bRq .head)) ?_;refine sp2 hT ?_;refine bJ (z':=(((P.C.A.length+P.G.A.length):Nat):Int)) (kD m0 m0) ?_;refine sp3 hT ?_;refine cF (λe=>?_) (λe=>?_)
 .have e:=of_decide_eq_true e;refine sk4 ?_;refine sp hT ?_;refine nn<|cA rfl rfl ?_;refine sr<|sp2 hT ?_;refine nn<|cX<|cH ?_;have hr:=qO (p:=P.pr) z8;exact dD ([]:Bs) rfl (bX rfl) (bX rfl) .nil ⟨j2 (λh=>by rw[hr]at h;cases h),j1⟩ ak9
 have e:=Y7.1 (of_decide_eq_false e);refine sp hT ?_;refine ss (ldO hT (bRq .head)) ?_;refine sp3 hT ?_;refine nn<|bW rfl (λq=>?_) (λq=>?_)
 .have q:=eq_of_beq q;refine sr<|sp2 hT ?_;refine nn<|cX<|cH ?_;have hr:=qO (p:=P.pr) z8;exact dD ([]:Bs) rfl (bX rfl) (bX rfl) .nil ⟨j2 (λh=>by rw[hr]at h;cases h),j1⟩ ak9
 have q:=beq_eq_false_iff_ne.1 q;refine fF<|cZ<|sr<|sp hT ?_;refine nn<|bP<|sr<|sp hT ?_;refine nn<|iE<|cI (ι:=Nat×Bs) [(1,_)] ⟨rfl,j1⟩ (λ⟨i,out⟩=>[(4,.string (bs out)),(5,.int .i64 (i:Nat))]) (λ_=>[]) (λ⟨i,out⟩=>[Fact.pure (i<=P.C.A.length/\dT P.pr=pU P.pr i out/\out.length<=1000*i)]) (λ⟨i,out⟩=>P.C.A.length-i) (0,[]) ⟨rfl,rfl,j1⟩ .nil ⟨j2 (⟨m0,bQq ag7,n9⟩),j1⟩ ?_;rintro⟨i,out⟩;dsimp only;refine bG d7 λr=>?_;refine bP<|sr<|sp2 hT ?_;refine ss (ldO hT (gC .head)) ?_;refine sp2 hT ?_;refine nn<|bW rfl (λo=>?_) (λo=>?_)
 .have o:=of_decide_eq_true o;refine fF<|cZ<|bP<|iE<|sr<|sp hT ?_;refine ss (ldO hT (gC .head)) ?_;refine sp hT ?_
  obtain⟨w,v⟩: ∃x',P.C.A[i]?=some x':=⟨_,F1 m0⟩
  refine ss (cC hT (k:=i) (bE d8) rfl rfl rfl rfl rfl rfl rfl m0) ?_;refine ss (fM hT (dC.knows (bE d8) (k:=i) (x:=w) v 0) rfl rfl rfl rfl rfl) ?_;have A:=hP.input w (j3 v);have hx0:P.pr.C[i]?=some w.inp:=mK v;refine bB (nG w) (Has.each d9 (j3 v)) ?_;refine j5 func65 (rinput_spec w A.1 A.2) ⟨d7,j1⟩ λ_=>?_;have M:=inp_len A.2;refine sp4 hT ?_;refine sp hT ?_;refine nn<|bP<|sr<|sp2 hT ?_;refine nn<|bW rfl (λn=>?_) (λn=>?_)
  .have n:=xB n;refine sr<|sp2 hT ?_;refine nn<|cX<|cH<|iD<|cH<|cH<|iD<|cH ?_;have hr:=r.2.1.trans (xI hx0 (nL ‹_›));exact dD ([]:Bs) rfl (bX rfl) (bX rfl) .nil ⟨j2 (λh=>by rw[hr]at h;cases h),j1⟩ ak9
  have n:=mL n;refine fF<|cZ ?_;obtain⟨t,hin⟩: ∃t,inputS w.inp=some t:=Option.isSome_iff_exists.1 ‹_›;have D:inpT (inputS w.inp)=[105,110,32]++t:=by rw[hin];rfl
  have C:=congrArg Q8 D;rw[F4,show Q8 ([105,110,32]:Bs)=3 from rfl]at C;refine dE<|sp2 hT ?_;refine ss (dI rfl rfl rfl q9) ?_;refine ss (dI rfl rfl rfl q9) ?_;refine iC (v':= .string (bs (out++(([105,110,32]++t)++[10])))) (congrArg (λs:Bs=>Q5 (bs s)) (by rw[D];simp)) ?_;refine sp hT ?_;refine sJ<|lW<|cZ<|dE<|sp2 hT ?_;refine bJ (z':=(((i+1):Nat):Int)) (kD m0 m0) ?_;refine sp hT ?_;refine nn ?_;exact dR (i+1,_) aa2 ⟨rfl,rfl,j1⟩ ⟨rfl,j1⟩ (.c0 .nil) ⟨j2 (⟨by dsimp only;omega,r.2.1.trans (bXb hx0 hin),by simp;omega⟩),j1⟩ (bA.drop 2)
 have o:=Y7.1 (of_decide_eq_false o);refine sV<|nE<|nE<|sY<|cZ<|bP<|sr<|sp hT ?_;refine nn<|iE<|cI (ι:=Nat×Bs) [(1,_)] ⟨rfl,j1⟩ (λ⟨i,out⟩=>[(4,.string (bs out)),(8,.int .i64 (i:Nat))]) (λ_=>[]) (λ⟨i,out⟩=>[Fact.pure (i<P.G.A.length/\dT P.pr=gN (P.pr.G.drop i) out/\out.length<=1000*64+20000*i)]) (λ⟨i,out⟩=>P.G.A.length-i) (0,out) ⟨rfl,rfl,j1⟩ .nil ⟨j2 (⟨m0,r.2.1.trans (bRj m0),m0⟩),j1⟩ ?_;rintro⟨i,out⟩;dsimp only;refine bG d7 λa=>?_;refine bP<|sr<|sp2 hT ?_;refine ss (ldO hT (bRq .head)) ?_;refine sp2 hT ?_;refine nn<|bW rfl (λm=>?_) (λm=>?_)
 .have m:=of_decide_eq_true m;refine fF<|cZ<|bP<|iE<|sr<|sp hT ?_;refine ss (ldO hT (bRq .head)) ?_;refine sp hT ?_
  obtain⟨x4,u⟩: ∃x',P.G.A[i]?=some x':=⟨_,F1 m0⟩
  refine ss (cC hT (k:=i) (bE e7) rfl rfl rfl rfl rfl rfl rfl m0) ?_;refine ss (fM hT (dC.knows (bE e7) (k:=i) (x:=x4) u 0) rfl rfl rfl rfl rfl) ?_;refine j4 tP λN=>?_;refine sto hT .head ?_;refine nn<|bP<|bP ?_;have B:=hP.line x4 (j3 u);have hx0:P.pr.G[i]?=some x4.ln:=mK u;refine bB (bGr x4) (Has.each e8 (j3 u))<|bB (mM.sl (.slice x4.K.I x4.K.A.length x4.K.cap) x4.K.A) (Has.left d7)<|bB (nN x4.K.A) (Has.right d8) ?_;have J: ∀y∈(x4.K.A.map ItemV.it),∀z∈y.nums,-9223372036854775808<=z/\z<=9223372036854775807:=λy hy z I=>by obtain⟨it,h1,rfl⟩:=List.mem_map.1 hy;exact(B.2 it h1).2 z I
  refine dE<|sp2 hT ?_;refine ss (ldO hT (bRq kT1)) ?_;refine sp2 hT ?_;refine bJ (z':=(((P.G.A.length:Nat):Int)-1)) (xF m0 m0) ?_;refine sp hT ?_;refine nn<|bW rfl (λj=>?_) (λj=>?_)
  .have j:=eq_of_beq j;refine sr<|sp hT ?_;refine ss (ldO hT (tI .head)) ?_;refine bC func66 (bPd _ _ x4.K.A 1 m0 B.2) rfl rfl .nil ⟨d8,d7,j1⟩ λ_=>?_;have G:=bSo (l:=(x4.K.A.map ItemV.it)) (most:=255) J;refine sp4 hT ?_;refine sp hT ?_;refine nn<|bP<|cK _ _ [k8,u0,u5,u9,A00,u6,A02,A01,A03,A04,A08,A07,A09] cN o8 (.c0 (.c0 .nil)) bA.self ?_;refine puM hT ?_;refine stM rfl (dI rfl rfl rfl q9) ?_;refine puM hT ?_;refine stM rfl (dI rfl rfl rfl q9) ?_;refine stM rfl (dI rfl rfl rfl q9) ?_;refine puM hT ?_;refine puM hT ?_;refine cF (λE=>?_) (λE=>?_)
   .have hex:=bCq (by assumption:(gT (x4.K.A.map ItemV.it) 255).isSome=true);refine puM hT ?_;refine stM rfl (ldO hT (gC .head)) ?_;refine puM hT ?_;refine cF (λd=>?_) (λd=>?_)
    .have d:x4.name=([]:Bs):=eq_of_beq d;refine puM hT ?_;refine puM hT ?_;refine puM hT ?_;refine tZ<|cZ<|cX<|cH<|iD<|cH<|cH<|iD<|cH ?_;have hr:=(a.2.1.trans (bYb hx0 m0 ‹_› hex)).trans (bJm m0);exact dD ((((out++([111,117,116,32]:Bs))++((gT (x4.K.A.map ItemV.it) 255).getD []))++([10]:Bs)):Bs) rfl (bX rfl) (bX rfl) .nil ⟨j2 (λ_=>by rw[hr];simp),j1⟩ al9
    have d:x4.name≠([]:Bs):=λh=>absurd (beq_iff_eq.2 h) (by rw[show(x4.name==([]:Bs))=false from d];simp);refine puM hT ?_;refine puM hT ?_;refine puM hT ?_;refine tZ<|cZ<|cX<|cH<|iD<|cH<|cH<|iD<|cH ?_;have hr:=a.2.1.trans (qV hx0 m0 ‹_› hex);exact dD ((((out++([111,117,116,32]:Bs))++((gT (x4.K.A.map ItemV.it) 255).getD []))++([10]:Bs)):Bs) rfl (bX rfl) (bX rfl) .nil ⟨j2 (λh=>by rw[hr]at h;cases h),j1⟩ al9
   refine wE rfl rfl rfl rfl ?_;refine wE rfl rfl rfl rfl ?_;refine wE rfl rfl rfl rfl ?_;refine puM hT ?_;refine puM hT ?_;refine puM hT ?_;refine tZ<|cZ<|cX<|cH<|iD<|cH<|cH<|iD<|cH ?_;have hr:=a.2.1.trans (oO hx0 ak0);exact dD ((((out++([111,117,116,32]:Bs))++((gT (x4.K.A.map ItemV.it) 255).getD []))++([10]:Bs)):Bs) rfl (bX rfl) (bX rfl) .nil ⟨j2 (λh=>by rw[hr]at h;cases h),j1⟩ al9
  have j:=beq_eq_false_iff_ne.1 j;refine fF<|cZ<|sr<|sp hT ?_;refine ss (ldO hT (tI .head)) ?_;refine bC func66 (bPd _ _ x4.K.A 2 m0 B.2) rfl rfl .nil ⟨d8,d7,j1⟩ λ_=>?_;have G:=bSo (l:=(x4.K.A.map ItemV.it)) (most:=254) J;refine sp4 hT ?_;refine sp hT ?_;refine nn<|bP<|sr<|sp3 hT ?_;refine cF (λb=>?_) (λb=>?_)
  .have b:=xB b;refine sk4 ?_;refine sp hT ?_;refine nn<|cA rfl rfl ?_;refine sr<|sp2 hT ?_;refine nn<|cX<|cH<|iD<|cH<|cH<|iD<|cH ?_;have hr:=a.2.1.trans ag2;exact dD ([]:Bs) rfl (bX rfl) (bX rfl) .nil ⟨j2 (λh=>by rw[hr]at h;cases h),j1⟩ ak9
  have b:=mL b;have hex:=bCq (by assumption:(gT (x4.K.A.map ItemV.it) 254).isSome=true);refine sp hT ?_;refine ss (ldO hT (gC .head)) ?_;refine bC func67 (yR _) rfl rfl .nil j1 λ_=>?_;refine sp2 hT ?_;refine nn<|bW rfl (λc=>?_) (λc=>?_)
  .have c:=xB c;refine sr<|sp2 hT ?_;refine nn<|cX<|cH<|iD<|cH<|cH<|iD<|cH ?_;have hr:=a.2.1.trans ag2;exact dD ([]:Bs) rfl (bX rfl) (bX rfl) .nil ⟨j2 (λh=>by rw[hr]at h;cases h),j1⟩ ak9
  have c:=mL c;refine fF<|cZ ?_;have L:=mX (by assumption:dQ x4.name=true);refine dE<|sp2 hT ?_;refine ss (ldO hT (gC .head)) ?_;refine ss (dI rfl rfl rfl q9) ?_;refine ss (dI rfl rfl rfl q9) ?_;refine sp hT ?_;refine ss (dI rfl rfl rfl q9) ?_;refine ss (dI rfl rfl rfl q9) ?_;refine iC (v':= .string (bs (out++(((x4.name++[58,32])++(gT (x4.K.A.map ItemV.it) 254).getD [])++[10])))) (congrArg (λs:Bs=>Q5 (bs s)) n9) ?_;refine sp hT ?_;refine sJ<|lW<|cZ<|dE<|sp2 hT ?_;refine bJ (z':=(((i+1):Nat):Int)) (kD m0 m0) ?_;refine sp hT ?_;refine nn ?_;exact dR (i+1,_) aa2 ⟨rfl,rfl,j1⟩ ⟨rfl,j1⟩ (.c1 .nil) ⟨j2 (⟨by dsimp only;omega,a.2.1.trans (bPx hx0 m0 ‹_› hex),by simp;omega⟩),j1⟩ (bA.drop 4)
 have m:=Y7.1 (of_decide_eq_false m);refine sV<|nE<|nE<|sY<|cZ<|sr<|sp2 hT ?_;refine nn<|cX ?_;omega
theorem rRight_spec(P:ProgV)(hP:sN P)(hl1:P.C.A.length<=140737488355328)(hl2:P.G.A.length<=140737488355328):cY prog 18 [.agg #[k7 P.C,k7 P.G]] [] [jN.sl (k7 P.C) P.C.A,iY P.C.A,nW.sl (k7 P.G) P.G.A,lZ P.G.A] (λ(_:Unit)=> .bool (dT P.pr).2) (λ_=>[]) (λ_=>[]):=by have hT:=jI;refine j8 func18 ntmps18 ?_;intro β hM;refine sr<|j6 λc=>?_;refine sp hT ?_;refine nn<|sr<|ss (ldN hT (gC .head)) ?_;refine j5 func40 (rText_spec P hP hl1 hl2) ⟨d7,d8,d9,e6,j1⟩ λb=>?_;refine bG d7 λa=>?_;refine sp4 hT ?_;refine sp hT ?_;refine nn<|sr<|sp2 hT ?_;refine nn<|cX ?_;exact jF () rfl (bX rfl) .nil j1 (rfl)
inductive Tr3 where
 |nil
 |fl (k:Nat) (r:Tr3)
 |op (k:Nat) (r:Tr3)
 |two (k l:Nat) (r s:Tr3)
 |three (k l m:Nat) (r s t:Tr3)
def Tr3.len:Tr3->Nat
 |.nil=>0
 |.fl _ r=>r.len+1
 |.op _ r=>r.len+1
 |.two _ _ r _=>r.len+1
 |.three _ _ _ r _ _=>r.len+1
section
variable {P : Program} {ops : Array Oper} {md : Region.Mode} {C : World -> Prop} {Q : Exit -> Act -> World -> Prop}
def lT (P:Program)(ops:Array Oper)(C:World->Prop)(Q:Exit->Act->World->Prop):Tr3->Act->World->Prop
 |.nil,a,w=>Q .normal a w
 |.fl k r,a,w=> ∃o v,ops[k]?=some o/\Fl P ops C o v a/\lT P ops C Q r (a.put o.dst v) w
 |.op k r,a,w=>fOp P ops k (λa w=>C w/\lT P ops C Q r a w) a w
 |.two k l r s,a,w=>fOp P ops k (λa w=>C w/\lT P ops C Q r a w) a w/\fOp P ops l (λa w=>C w/\lT P ops C Q s a w) a w
 |.three k l m r s t,a,w=>fOp P ops k (λa w=>C w/\lT P ops C Q r a w) a w/\fOp P ops l (λa w=>C w/\lT P ops C Q s a w) a w/\fOp P ops m (λa w=>C w/\lT P ops C Q t a w) a w
def vW (md:Region.Mode)(ops:Array Oper):Tr3->Array Bool->Bool
 |.nil,listed=>(G1 md ops listed).isEmpty
 |.fl k r,listed=>(G1 md ops listed).contains k&&Region.free md ops listed k&&vW md ops r (listed.setIfInBounds k true)
 |.op k r,listed=>(G1 md ops listed==[k])&&vW md ops r (listed.setIfInBounds k true)
 |.two k l r s,listed=>(G1 md ops listed==[k,l])&&l7 r.len s.len&&vW md ops r (listed.setIfInBounds k true)&&vW md ops s (listed.setIfInBounds l true)
 |.three k l m r s t,listed=>(G1 md ops listed==[k,l,m])&&l7 r.len s.len&&l7 r.len t.len&&vW md ops r (listed.setIfInBounds k true)&&vW md ops s (listed.setIfInBounds l true)&&vW md ops t (listed.setIfInBounds m true)
theorem nB(hs:G4 ops=true): ∀(l:Tr3) (listed:Array Bool) (a:Act) (w:World),vW md ops l listed=true->C w->lT P ops C Q l a w->bEp P md ops C Q l.len listed a w
 |.nil,listed,a,w,hB,hC,h=>⟨hC,by simpa[vW]using hB,h⟩
 |.fl k r,listed,a,w,hB,hC,h=>by
  simp only[vW,J3]at hB;obtain⟨o,v,ho,hy,g⟩:=h;exact xW ho (Region.noSelect_spec hs) r.len listed a w (Region.free_spec ho hB.1.2) (by simpa using hB.1.1) hy (nB hs r _ _ _ hB.2 hC g)
 |.op k r,listed,a,w,hB,hC,h=>by
  simp only[vW,J3,beq_iff_eq]at hB;refine⟨hC,λh0=>ak4,λi hi=>?_⟩;rw[hB.1]at hi;have:i=k:=by simpa using hi
  subst this;exact mT (λd c b=>nB hs r _ _ _ hB.2 b.1 b.2) h
 |.two k l r s,listed,a,w,hB,hC,h=>by
  simp only[vW,J3,beq_iff_eq]at hB;obtain⟨⟨⟨h1,h2⟩,f⟩,h4⟩:=hB;refine⟨hC,λh0=>am6,λi hi=>?_⟩;rw[h1]at hi;have hi:i=k\/i=l:=by simpa using hi
  rcases hi with rfl|rfl
  .exact mT (λd c b=>nB hs r _ _ _ f b.1 b.2) h.1
  .have e:Tr3.len (.two k i r s)=s.len+1:=by simp only[Tr3.len,A0 h2]
   have u:r.len=s.len:=A0 h2;rw[u];exact mT (λd c b=>nB hs s _ _ _ h4 b.1 b.2) h.2
 |.three k l m r s t,listed,a,w,hB,hC,h=>by
  simp only[vW,J3,beq_iff_eq]at hB;obtain⟨⟨⟨⟨⟨h1,h2⟩,f⟩,h4⟩,n⟩,j⟩:=hB;have q:r.len=s.len:=A0 h2;have p:r.len=t.len:=A0 f;refine⟨hC,λh0=>am6,λi hi=>?_⟩;rw[h1]at hi;have hi:i=k\/i=l\/i=m:=by simpa using hi
  rcases hi with rfl|rfl|rfl
  .exact mT (λd c b=>nB hs r _ _ _ h4 b.1 b.2) h.1
  .rw[q];exact mT (λd c b=>nB hs s _ _ _ n b.1 b.2) h.2.1
  .rw[p];exact mT (λd c b=>nB hs t _ _ _ j b.1 b.2) h.2.2
def mixUOk(l:Tr3)(ops:Array Oper):Bool:=G4 ops&&l7 l.len ops.size&&vW .any ops l (Array.replicate ops.size false)
end
section
variable {P : Program} {β : fR} {n : Nat} {Γ : Env} {H : List bL} {F : List Fact} {Q : Exit -> Act -> World -> Prop} {Hk : List bL} {F0 : List Fact} {ops : Array Oper}
theorem at_mixU{id:Nat}{l:List Oper}(Hk:List bL)(F0:List Fact)(od:Tr3)(hm:P.follows .mixedOrders=true)(hB:mixUOk od l.toArray=true)(hH:Sel H Hk)(hF:bA F F0)
  (h:At β n Γ H F (lT P l.toArray (StF β Hk F0) Q od)):At β n Γ H F ((Code.region id l.toArray true).wp P Q):=λa w S f s k=>by
 simp only[mixUOk,J3]at hB;have e:=StF.drew ⟨S,s,k⟩;obtain⟨d,b,c⟩:=e;refine wp_region_any hm (sD (C:=StF β Hk F0) _ _ _ _ ?_);have:=nB (P:=P) (md:= .any) (C:=StF β Hk F0) (Q:=Q) hB.1.1 od (Array.replicate l.toArray.size false) a _ hB.2 (StF.sel hH hF ⟨d,b,c⟩) (h a _ d f b c)
 rwa[A0 hB.1.2]at this
theorem wD{C:World->Prop}(h:At β n Γ H F (Q .normal)):At β n Γ H F (lT P ops C Q .nil):=h
theorem nX{r:Tr3}{o:Oper}{k d:Nat}{v:Value}(hk:ops[k]?=some o)(hw:want ops Γ o=some true)(hd:o.dst=some d)(hn:Nat.blt d n=true)(h:Sti P β n Γ Hk F0 o v)
  (K:At β n ((d,v)::Γ) H F (lT P ops (StF β Hk F0) Q r)):At β n Γ H F (lT P ops (StF β Hk F0) Q (.fl k r)):=λa w S f s g=>by refine⟨o,v,hk,.inl ⟨f.want hw,λb ⟨i,c,e⟩=>h a b i f c e⟩,?_⟩;rw[hd];exact K _ _ S (f.put w9 v) s g
theorem mQ{r:Tr3}{o:Oper}{k:Nat}{C:World->Prop}(hk:ops[k]?=some o)(h:At β n Γ H F (wpList P ops (Nm λa w=>C w/\lT P ops C Q r a w) [o])):At β n Γ H F (lT P ops C Q (.op k r)):=zH hk h
theorem bJh{r s:Tr3}{o o':Oper}{k l:Nat}{C:World->Prop}(hk:ops[k]?=some o)(hl:ops[l]?=some o')(h:At β n Γ H F (wpList P ops (Nm λa w=>C w/\lT P ops C Q r a w) [o]))(h':At β n Γ H F (wpList P ops (Nm λa w=>C w/\lT P ops C Q s a w) [o'])):
  At β n Γ H F (lT P ops C Q (.two k l r s)):=λa w S f st b=>⟨zH hk h a w S f st b,zH hl h' a w S f st b⟩
theorem atu_three{r s t:Tr3}{o o' o2:Oper}{k l m:Nat}{C:World->Prop}(hk:ops[k]?=some o)(hl:ops[l]?=some o')(hm:ops[m]?=some o2)(h:At β n Γ H F (wpList P ops (Nm λa w=>C w/\lT P ops C Q r a w) [o]))(h':At β n Γ H F (wpList P ops (Nm λa w=>C w/\lT P ops C Q s a w) [o']))(h2:At β n Γ H F (wpList P ops (Nm λa w=>C w/\lT P ops C Q t a w) [o2])):
  At β n Γ H F (lT P ops C Q (.three k l m r s t)):=λa w S f st b=>⟨zH hk h a w S f st b,zH hl h' a w S f st b,zH hm h2 a w S f st b⟩
theorem iV{r:Tr3}(hH:Sel H Hk)(hF:bA F F0)(h:At β n Γ H F (lT P ops (StF β Hk F0) Q r)):At β n Γ H F (wpList P ops (Nm λa w=>StF β Hk F0 w/\lT P ops (StF β Hk F0) Q r a w) []):=λa w S f s k=>
 ⟨rfl,StF.sel hH hF ⟨S,s,k⟩,h a w S f s k⟩
end
theorem env_built(a1 a2 a3:Option Addr)(l1 c1 l2 c2 l3 c3:Nat):prog.built 72 [(0,.agg #[.slice a1 l1 c1,.slice a2 l2 c2]),(1,.slice a3 l3 c3)]=some #[.slice a1 l1 c1,.slice a2 l2 c2,.slice a3 l3 c3,.slice none 0 0]:=m7
section
variable {V : List Bs} {ls : List iH} {z : Int}
theorem fz_pos(h:FewZ V ls z)(hz:0<=z): ∃(k:Nat) (x:iH),z=(k:Int)/\ls[k]?=some x/\ls.find? (bAf V)=some x:=h.resolve_left λh=>by have:=h.1;omega
theorem fz_neg(h:FewZ V ls z)(hz: ¬0<=z):ls.find? (bAf V)=none:=by
 rcases h with h|⟨k,x,a,_⟩
 .exact h.2
 .omega
end
def xE (p:jB)(i:Nat)(L:List TyV)(xs:List (Sl TyV))(r:List (List TyP)×Flt):Prop:=pD (iW p (L.map TyV.t))/\r=sF (iW p (L.map TyV.t)) (p.G.drop i) (xs.map vJ)/\xs.length=i/\L.length=i
section
variable {p : jB} {i : Nat} {L : List TyV} {xs : List (Sl TyV)} {r : List (List TyP) × Flt} {l : nC} {a : TyV} {s : Sl TyV} {f : Flt}
theorem bPg:iW p []=sI p:=bOf _ _
theorem lsR_start(h:r=gU p)(hr:(dT p).2=true)(hf:p.C.find? (bAf (dO p))=none):xE p 0 [] [] r:=by
 refine⟨?_,?_,rfl,rfl⟩
 .rw[List.map_nil,bPg];exact bPw hr
 .rw[List.map_nil,bPg,h,ty_go hr hf];rfl
theorem lsR_err(h:xE p i L xs r)(hx:p.G[i]?=some l)(hl:uP (iW p (L.map TyV.t)) l.K [] []= .error f):r=([],f):=by rw[h.2.1,kR hx,sF,hl]
theorem bRu(h:xE p i L xs r)(hx:p.G[i]?=some l)(hl:uP (iW p (L.map TyV.t)) l.K [] []= .ok ([a.t],s.A.map TyV.t))(ha:WfT a.t):xE p (i+1) (L++[a]) (xs++[s]) r:=by
 have e:iW p ((L++[a]).map TyV.t)=(lU++l.name,a.t)::iW p (L.map TyV.t):=by rw[L2];exact lnsN_add (by rw[O4,h.2.2.2];exact hx)
 refine⟨λq hq=>?_,?_,by rw[F4,h.2.2.1];rfl,by rw[F4,h.2.2.2];rfl⟩
 .rw[e]at hq
  rcases E2.1 hq with rfl|hq
  .exact ha
  .exact h.1 q hq
 .rw[e,h.2.1,kR hx,sF,hl,L2];rfl
theorem lsR_end(h:xE p i L xs r)(hi:p.G.length<=i):r=(xs.map vJ,(0,0)):=by rw[h.2.1,pK hi];rfl
end
theorem types9_spec(P:ProgV)(hP:sN P)(hl1:P.C.A.length<=140737488355328)(hl2:P.G.A.length<=140737488355328)(hcp:P.C.A.length<=P.C.cap):cY prog 7 [.agg #[k7 P.C,k7 P.G]] [] [jN.sl (k7 P.C) P.C.A,iY P.C.A,nW.sl (k7 P.G) P.G.A,lZ P.G.A] (λ(x:Option Addr×Nat×List (Sl TyV))=> .tuple #[.slice x.1 x.2.2.length x.2.1,.agg #[k9 (gU P.pr).2.1,k9 (gU P.pr).2.2]]) (λ_=>[]) (λ(x:Option Addr×Nat×List (Sl TyV))=>[tR.sl (.slice x.1 x.2.2.length x.2.1) x.2.2,Fact.each x.2.2 xZ,Fact.pure (x.2.2.map vJ=(gU P.pr).1/\x.2.2.length<=x.2.1)]):=by
 have hT:=dL;generalize hR:gU P.pr=r;refine j8 func7 ntmps7 ?_;intro β hM;refine g2 ?_;refine j6 λb1=>?_;refine one ?_;refine j4 bEm λb2=>?_;refine g6 ?_;refine j5 func18 (rRight_spec P hP hl1 hl2) ⟨d7,d8,d9,e6,j1⟩ λ_=>?_;refine g3 ?_;refine iK (λY=>?_) λY=>?_
 .refine g2 ?_;refine ss (j7 (bAc _)) ?_;refine g6 ?_;obtain rfl:=hR.symm.trans (ty_no ‹_›);exact rs2 (none,0,[]) ⟨rJ,Has.each_nil,j2 ⟨rfl,B0 0⟩,j1⟩
 refine g3 ?_;have n:(dT P.pr).2=true:=by assumption
 have g:=wC n;have hs: ∀x∈P.C.A,x.B.A.length<=4:=λx hx=>by have h1:=(g.input x.inp (bCz hx)).2.1;have h2:x.inp.B.length=x.B.A.length:=O4 _;omega
 have hTT:=yC n;have J:=right_names n;refine g2 ?_;refine j5 func19 (few8_spec P hl1 (λx hx=>B1 (hs x hx) m9) m0 hcp) ⟨d7,d8,j1⟩ λz=>?_;refine bG d7 λM=>?_;refine g10 ?_;refine bKs (λW=>?_) λW=>?_
 .refine bP ?_;obtain⟨k,X,hzk,hX,hfx⟩:=fz_pos M m0;subst hzk;obtain⟨x,hx,hxX⟩: ∃x,P.C.A[k]?=some x/\x.inp=X:=by have h:(P.C.A.map InputV.inp)[k]?=some X:=hX;rw[K1]at h;simpa using h
  subst hxX;have hkl:k<P.C.A.length:=(F3.1 hx).1;refine cK _ _ [k8,u0,u5,u9,A00,u6,A02,A01,A68] cN o8 (.c1 .nil) bA.self ?_;refine g3 ?_;refine stM rfl (ixs k) ?_;refine one ?_;refine stM rfl (gI hx 1) ?_;refine stM rfl (j7 (yL _ _)) ?_;refine g8 ?_;obtain rfl:=hR.symm.trans (bQl n hfx);exact rs2 (none,0,[]) ⟨rJ,Has.each_nil,j2 ⟨rfl,B0 0⟩,j1⟩
 refine g3 ?_;have hfn:=fz_neg M m0;refine cK _ _ [k8,u0,A05,u9,A42,u6] cN o8 (.c0 (.c0 .nil)) bA.self ?_;refine g3 ?_;refine j5 func20 (bPz P hl1 (λx hx=>B1 (hs x hx) m9) m0) ⟨d8,d9,j1⟩ λ⟨V,cv⟩=>?_;have hvl:(dO P.pr).length<=256:=B1 (vars_le P.pr) hTT;refine one ?_;refine stM rfl (j7 (env_built _ _ _ _ _ _ _ _ _)) ?_;refine one ?_;refine j6 λb3=>?_;refine g5 ?_;have hbg:=lsR_start (r:=r) hR.symm n hfn;have N:=bBq n;have K:P.pr.G.length=P.G.A.length:=O4 _;refine bQ (t:=35) tR<|bB (Fact.each ([]:List (Sl TyV)) xZ) (Has.each_nil)<|bQ (t:=38) tyE<|bB (Fact.each ([]:List TyV) tyF) (Has.each_nil) ?_;refine g11 ?_;refine cI (ι:=Nat×List TyV×Option Addr×Nat×List (Sl TyV)×Option Addr×Nat) [(1,_),(3,_),(5,_)] ⟨rfl,rfl,rfl,j1⟩ (λ⟨i,L,A5,c5,xs,A1,c1⟩=>[(6,.slice A1 xs.length c1),(7,.int .i64 (i:Nat))]) (λ⟨i,L,A5,c5,xs,A1,c1⟩=>[envO b3 ⟨P,⟨V,cv,dO P.pr⟩,⟨A5,c5,L⟩⟩,tyE.row (.slice A5 L.length c5) 38 L,tR.row (.slice A1 xs.length c1) 35 xs]) (λ⟨i,L,A5,c5,xs,A1,c1⟩=>[Fact.pure (i<=P.G.A.length/\xE P.pr i L xs r),Fact.each L tyF,Fact.each xs xZ]) (λ⟨i,L,A5,c5,xs,A1,c1⟩=>P.G.A.length-i) (0,[],none,0,[],none,0) ⟨rfl,rfl,j1⟩ (.c2 (.c0 (.c0 .nil))) ⟨j2 (⟨m0,hbg⟩),d7,d8,j1⟩ ?_;rintro⟨i,L,A5,c5,xs,A1,c1⟩;dsimp only;refine bG d7 λd=>?_;have hLi:=d.2.2.2.2;have hXi:=d.2.2.2.1;refine g10 ?_;refine fA (λU=>?_) λU=>?_
 .refine g5 ?_;obtain⟨l,p⟩:=gx P.G.A i;have hx0:P.pr.G[i]?=some l.ln:=mK p;have hdp:=N l.ln (j3 hx0);have hfl:=g.line l.ln (j3 hx0);have hil:=hfl.2.1;have hie:l.ln.K.length=l.K.A.length:=O4 _;refine bB (mM.sl (.slice l.K.I l.K.A.length l.K.cap) l.K.A) (Has.left (Has.each f9 (j3 p)))<|bB (nN l.K.A) (Has.right (Has.each i6 (j3 p)))<|bQ (t:=38) tyE<|bB (Fact.each ([]:List TyV) tyF) (Has.each_nil)<|bQ (t:=38) tyE<|bB (Fact.each ([]:List TyV) tyF) (Has.each_nil) ?_;refine g16 ?_;refine cI (ι:=Nat×List TyV×Option Addr×Nat×List TyV×Option Addr×Nat) [(1,_),(3,_),(5,_),(6,_),(7,_)] ⟨rfl,rfl,rfl,rfl,rfl,j1⟩ (λ⟨j,hv,A2,c2,ow,A4,c4⟩=>[(8,.slice A4 ow.length c4),(9,.slice A2 hv.length c2),(10,.int .i64 (j:Nat))]) (λ⟨j,hv,A2,c2,ow,A4,c4⟩=>[envO b3 ⟨P,⟨V,cv,dO P.pr⟩,⟨A5,c5,L⟩⟩,tyE.row (.slice A5 L.length c5) 38 L,tyE.row (.slice A2 hv.length c2) 38 hv,tyE.row (.slice A4 ow.length c4) 38 ow]) (λ⟨j,hv,A2,c2,ow,A4,c4⟩=>[Fact.pure (j<=l.K.A.length/\rN (iW P.pr (L.map TyV.t)) l.ln.K j hv ow),Fact.each hv tyF,Fact.each ow tyF]) (λ⟨j,hv,A2,c2,ow,A4,c4⟩=>l.K.A.length-j) (0,[],none,0,[],none,0) ⟨rfl,rfl,rfl,j1⟩ (.c2 (.c2 (.c1 (.c0 .nil)))) ⟨j2 (⟨m0,bVy hdp⟩),d8,d7,j1⟩ ?_;rintro⟨j,hv,A2,c2,ow,A4,c4⟩;dsimp only;refine bG d7 λb=>?_;have hvj:=b.2.2.2.2.1;have hwj:=b.2.2.2.2.2;refine g7 ?_;refine ss (ixs i) ?_;refine one ?_;refine ss (gI p 2) ?_;refine g4 ?_;refine fA (λR=>?_) λR=>?_
  .refine g5 ?_;obtain⟨w,Z⟩:=gx l.K.A j;have e:l.ln.K[j]?=some w.it:=mK Z;have q:=(bNx b.2 e).1;have htk0:=q.1;refine bB (bNi w) (Has.each e8 (j3 Z)) ?_;refine g5 ?_;refine ss (ixs i) ?_;refine one ?_;refine ss (gI p 2) ?_;refine one ?_;refine ss (ixs j) ?_;refine ss (oZ Z 0) ?_;refine one ?_;refine bC func21 (item9_spec b3 ⟨P,⟨V,cv,dO P.pr⟩,⟨A5,c5,L⟩⟩ (by show L.length<=P.G.A.length;omega) rfl (by show(dO P.pr).length<=_;omega) hl1 hl2 hs J.2 w A2 c2 hv b.2.2.2.1 m0 q.1 ⟨q.2.1,q.2.2.1⟩ (λh=>(q.2.2.2 h).2) (J.1 l.ln (j3 hx0) w.it (j3 e))) rfl rfl (.c0 (.c0 (.c0 .nil))) ⟨j0,(Has.of (u8 mT7)),(Has.of (u8 (u8 mT0))),(Has.of (u8 (u8 mT1))),(Has.of (u8 (u8 mT2))),f7,d7,d9,j1⟩ λc=>?_;refine iC (v':= .tuple #[tyC c,.int .i64 (iO (iW P.pr (L.map TyV.t)) w.it (stT hv)).2,.int .i64 (fI w.it:Nat)]) rfl<|bG d8 λy=>?_;have y:(iO (iW P.pr (L.map TyV.t)) w.it (stT hv)).2=0->c.t=(iO (iW P.pr (L.map TyV.t)) w.it (stT hv)).1:=y;refine g4 ?_;refine j4 rW λb5=>?_;refine g12 ?_;refine tL (λQ=>?_) λQ=>?_
   .refine bP<|cK _ _ [k8,u0,u5,u9,A00,u6,A02,A01,A03,A04,A08,A07,A09,(false,13)] cN o8 (.c0 (.c0 (.c0 (.c0 (.c0 (.c0 (.c1 .nil))))))) bA.self ?_;refine g3 ?_;refine stM rfl (ixs i) ?_;refine one ?_;refine stM rfl (gI p 2) ?_;refine one ?_;refine stM rfl (ixs j) ?_;refine one ?_;refine stM rfl (gI Z 1) ?_;refine one ?_;refine stM rfl (j7 (yL _ _)) ?_;refine g18 ?_;obtain rfl:=lsR_err d.2 hx0 (tsT_err b.2 e ‹_›);exact rs2 (none,0,[]) ⟨rJ,Has.each_nil,j2 ⟨rfl,B0 0⟩,j1⟩
   refine g3 ?_;have hy:=y m0;have f:=tsT_wf d.2.1 b.2 e m0 hy;refine g3 ?_;refine kQ (m:=c) rfl rfl rfl rfl rfl λb6=>?_;refine gR kT5 (bT .head rfl) rfl rfl rfl rfl rfl rfl rfl p6 λv u=>?_;refine bB (Fact.each (ow++[c]) tyF) (Has.each_snoc e8 d7) ?_;refine g3 ?_;refine at_mixU _ _ (.fl 1 (.fl 2 (.fl 3 (.fl 4 (.fl 5 (.fl 8 (.three 0 6 9 (.two 6 9 (.two 7 9 (.op 9 (.op 10 (.fl 11 .nil))) (.op 7 (.op 10 (.fl 11 .nil)))) (.op 6 (.op 7 (.op 10 (.fl 11 .nil))))) (.two 0 9 (.two 7 9 (.op 9 (.op 10 (.fl 11 .nil))) (.op 7 (.op 10 (.fl 11 .nil)))) (.op 0 (.op 7 (.op 10 (.fl 11 .nil))))) (.two 0 6 (.op 6 (.op 7 (.op 10 (.fl 11 .nil)))) (.op 0 (.op 7 (.op 10 (.fl 11 .nil)))))))))))) cN o8 (.c0 (.c0 (.c0 (.c0 (.c0 (.c1 (.c1 (.c1 .nil)))))))) bA.self ?_;refine nX rfl rfl rfl rfl (jP hT rfl) ?_;refine nX rfl rfl rfl rfl (jP hT rfl) ?_;refine nX rfl rfl rfl rfl (jP hT rfl) ?_;refine nX rfl rfl rfl rfl (jP hT rfl) ?_;refine nX rfl rfl rfl rfl (jP hT rfl) ?_;refine inc (hv.length-(fI w.it)) ?_;refine nX rfl rfl rfl rfl (ldN hT (gC kT2)) ?_;refine atu_three (o:=_) (o':=_) (o2:=_) rfl rfl rfl ?_ ?_ ?_
   .refine vE rfl rfl rfl rfl λb9=>?_;refine iV (.c1 (.c1 (.c1 (.c1 (.c1 (.c2 (.c2 (.c2 .nil)))))))) (bA.drop 0) ?_;refine bJh (o:=_) (o':=_) rfl rfl ?_ ?_
    .refine jA hT (k:=(hv.length-fI w.it)) kT6 rfl rfl rfl rfl rfl rfl rfl rfl rfl m0 ?_;refine iV (.c2 (.c2 (.c2 (.c2 (.c2 (.c2 (.c2 (.c2 .nil)))))))) (bA.drop 0) ?_;refine bJh (o:=_) (o':=_) rfl rfl ?_ ?_
     .refine gR kT1 (cM .head) rfl rfl rfl rfl rfl rfl s9 p6 λA10 c11=>?_;refine iV (.c2 (.c2 (.c2 (.c2 (.c2 (.c2 (.c2 (.c2 .nil)))))))) (bA.drop 0) ?_;refine mQ (o:=_) rfl ?_;refine kQ (m:=c) rfl rfl rfl rfl rfl λb12=>?_;refine iV (.c3 (.c3 (.c3 (.c3 (.c3 (.c3 (.c3 (.c3 .nil)))))))) (bA.drop 0) ?_;refine mQ (o:=_) rfl ?_;refine gR kT1 (bT .head rfl) rfl rfl rfl rfl rfl rfl rfl p6 λA13 c14=>?_;refine bB (Fact.each (hv.take (hv.length-fI w.it)++[c]) tyF) (Has.each_snoc (mY e8 _) d8) ?_;refine iV (.c3 (.c3 (.c3 (.c3 (.c3 (.c3 (.c3 (.c3 .nil)))))))) (bA.drop 1) ?_;refine nX rfl rfl rfl rfl (jP hT rfl) ?_;refine wD ?_;refine g5 ?_;refine inc (j+1) ?_;refine g3 ?_;exact bk2 (j+1,hv.take (hv.length-fI w.it)++[c],A13,c14,ow++[c],v,u) ⟨j2 (⟨by dsimp only;omega,qA b.2 e m0 hy f rfl⟩),d7,d8,j1⟩
     refine kQ (m:=c) rfl rfl rfl rfl rfl λb15=>?_;refine iV (.c3 (.c3 (.c3 (.c3 (.c3 (.c3 (.c3 (.c3 .nil)))))))) (bA.drop 0) ?_;refine mQ (o:=_) rfl ?_;refine gR kT2 (cM kT1) rfl rfl rfl rfl rfl rfl s9 p6 λA16 c17=>?_;refine iV (.c3 (.c3 (.c3 (.c3 (.c3 (.c3 (.c3 (.c3 .nil)))))))) (bA.drop 0) ?_;refine mQ (o:=_) rfl ?_;refine gR .head (bT kT1 rfl) rfl rfl rfl rfl rfl rfl rfl p6 λA18 c19=>?_;refine bB (Fact.each (hv.take (hv.length-fI w.it)++[c]) tyF) (Has.each_snoc (mY e8 _) d8) ?_;refine iV (.c3 (.c3 (.c3 (.c3 (.c3 (.c3 (.c3 (.c3 .nil)))))))) (bA.drop 1) ?_;refine nX rfl rfl rfl rfl (jP hT rfl) ?_;refine wD ?_;refine g5 ?_;refine inc (j+1) ?_;refine g3 ?_;exact bk2 (j+1,hv.take (hv.length-fI w.it)++[c],A18,c19,ow++[c],v,u) ⟨j2 (⟨by dsimp only;omega,qA b.2 e m0 hy f rfl⟩),d7,d8,j1⟩
    refine kQ (m:=c) rfl rfl rfl rfl rfl λb20=>?_;refine iV (.c2 (.c2 (.c2 (.c2 (.c2 (.c3 (.c3 (.c3 .nil)))))))) (bA.drop 0) ?_;refine mQ (o:=_) rfl ?_;refine jA hT (k:=(hv.length-fI w.it)) kT7 rfl rfl rfl rfl rfl rfl rfl rfl rfl m0 ?_;refine iV (.c3 (.c3 (.c3 (.c3 (.c3 (.c3 (.c3 (.c3 .nil)))))))) (bA.drop 0) ?_;refine mQ (o:=_) rfl ?_;refine gR kT2 (cM .head) rfl rfl rfl rfl rfl rfl s9 p6 λA21 c22=>?_;refine iV (.c3 (.c3 (.c3 (.c3 (.c3 (.c3 (.c3 (.c3 .nil)))))))) (bA.drop 0) ?_;refine mQ (o:=_) rfl ?_;refine gR .head (bT kT2 rfl) rfl rfl rfl rfl rfl rfl rfl p6 λA23 c24=>?_;refine bB (Fact.each (hv.take (hv.length-fI w.it)++[c]) tyF) (Has.each_snoc (mY e8 _) d8) ?_;refine iV (.c3 (.c3 (.c3 (.c3 (.c3 (.c3 (.c3 (.c3 .nil)))))))) (bA.drop 1) ?_;refine nX rfl rfl rfl rfl (jP hT rfl) ?_;refine wD ?_;refine g5 ?_;refine inc (j+1) ?_;refine g3 ?_;exact bk2 (j+1,hv.take (hv.length-fI w.it)++[c],A23,c24,ow++[c],v,u) ⟨j2 (⟨by dsimp only;omega,qA b.2 e m0 hy f rfl⟩),d7,d8,j1⟩
   .refine jA hT (k:=(hv.length-fI w.it)) kT5 rfl rfl rfl rfl rfl rfl rfl rfl rfl m0 ?_;refine iV (.c1 (.c1 (.c1 (.c1 (.c1 (.c1 (.c1 (.c1 .nil)))))))) (bA.drop 0) ?_;refine bJh (o:=_) (o':=_) rfl rfl ?_ ?_
    .refine vE rfl rfl rfl rfl λb25=>?_;refine iV (.c2 (.c2 (.c2 (.c2 (.c2 (.c2 (.c2 (.c2 .nil)))))))) (bA.drop 0) ?_;refine bJh (o:=_) (o':=_) rfl rfl ?_ ?_
     .refine gR .head (cM kT1) rfl rfl rfl rfl rfl rfl s9 p6 λA26 c27=>?_;refine iV (.c2 (.c2 (.c2 (.c2 (.c2 (.c2 (.c2 (.c2 .nil)))))))) (bA.drop 0) ?_;refine mQ (o:=_) rfl ?_;refine kQ (m:=c) rfl rfl rfl rfl rfl λb28=>?_;refine iV (.c3 (.c3 (.c3 (.c3 (.c3 (.c3 (.c3 (.c3 .nil)))))))) (bA.drop 0) ?_;refine mQ (o:=_) rfl ?_;refine gR kT1 (bT .head rfl) rfl rfl rfl rfl rfl rfl rfl p6 λA29 c30=>?_;refine bB (Fact.each (hv.take (hv.length-fI w.it)++[c]) tyF) (Has.each_snoc (mY e8 _) d8) ?_;refine iV (.c3 (.c3 (.c3 (.c3 (.c3 (.c3 (.c3 (.c3 .nil)))))))) (bA.drop 1) ?_;refine nX rfl rfl rfl rfl (jP hT rfl) ?_;refine wD ?_;refine g5 ?_;refine inc (j+1) ?_;refine g3 ?_;exact bk2 (j+1,hv.take (hv.length-fI w.it)++[c],A29,c30,ow++[c],v,u) ⟨j2 (⟨by dsimp only;omega,qA b.2 e m0 hy f rfl⟩),d7,d8,j1⟩
     refine kQ (m:=c) rfl rfl rfl rfl rfl λb31=>?_;refine iV (.c3 (.c3 (.c3 (.c3 (.c3 (.c3 (.c3 (.c3 .nil)))))))) (bA.drop 0) ?_;refine mQ (o:=_) rfl ?_;refine gR kT1 (cM kT2) rfl rfl rfl rfl rfl rfl s9 p6 λA32 c33=>?_;refine iV (.c3 (.c3 (.c3 (.c3 (.c3 (.c3 (.c3 (.c3 .nil)))))))) (bA.drop 0) ?_;refine mQ (o:=_) rfl ?_;refine gR .head (bT kT1 rfl) rfl rfl rfl rfl rfl rfl rfl p6 λA34 c35=>?_;refine bB (Fact.each (hv.take (hv.length-fI w.it)++[c]) tyF) (Has.each_snoc (mY e8 _) d8) ?_;refine iV (.c3 (.c3 (.c3 (.c3 (.c3 (.c3 (.c3 (.c3 .nil)))))))) (bA.drop 1) ?_;refine nX rfl rfl rfl rfl (jP hT rfl) ?_;refine wD ?_;refine g5 ?_;refine inc (j+1) ?_;refine g3 ?_;exact bk2 (j+1,hv.take (hv.length-fI w.it)++[c],A34,c35,ow++[c],v,u) ⟨j2 (⟨by dsimp only;omega,qA b.2 e m0 hy f rfl⟩),d7,d8,j1⟩
    refine kQ (m:=c) rfl rfl rfl rfl rfl λb36=>?_;refine iV (.c2 (.c2 (.c2 (.c2 (.c2 (.c2 (.c2 (.c2 .nil)))))))) (bA.drop 0) ?_;refine mQ (o:=_) rfl ?_;refine vE rfl rfl rfl rfl λb37=>?_;refine iV (.c3 (.c3 (.c3 (.c3 (.c3 (.c3 (.c3 (.c3 .nil)))))))) (bA.drop 0) ?_;refine mQ (o:=_) rfl ?_;refine gR .head (cM kT2) rfl rfl rfl rfl rfl rfl s9 p6 λA38 c39=>?_;refine iV (.c3 (.c3 (.c3 (.c3 (.c3 (.c3 (.c3 (.c3 .nil)))))))) (bA.drop 0) ?_;refine mQ (o:=_) rfl ?_;refine gR .head (bT kT1 rfl) rfl rfl rfl rfl rfl rfl rfl p6 λA40 c41=>?_;refine bB (Fact.each (hv.take (hv.length-fI w.it)++[c]) tyF) (Has.each_snoc (mY e8 _) d8) ?_;refine iV (.c3 (.c3 (.c3 (.c3 (.c3 (.c3 (.c3 (.c3 .nil)))))))) (bA.drop 1) ?_;refine nX rfl rfl rfl rfl (jP hT rfl) ?_;refine wD ?_;refine g5 ?_;refine inc (j+1) ?_;refine g3 ?_;exact bk2 (j+1,hv.take (hv.length-fI w.it)++[c],A40,c41,ow++[c],v,u) ⟨j2 (⟨by dsimp only;omega,qA b.2 e m0 hy f rfl⟩),d7,d8,j1⟩
   refine kQ (m:=c) rfl rfl rfl rfl rfl λb42=>?_;refine iV (.c1 (.c1 (.c1 (.c1 (.c1 (.c2 (.c2 (.c2 .nil)))))))) (bA.drop 0) ?_;refine bJh (o:=_) (o':=_) rfl rfl ?_ ?_
   .refine vE rfl rfl rfl rfl λb43=>?_;refine iV (.c2 (.c2 (.c2 (.c2 (.c2 (.c3 (.c3 (.c3 .nil)))))))) (bA.drop 0) ?_;refine mQ (o:=_) rfl ?_;refine jA hT (k:=(hv.length-fI w.it)) kT7 rfl rfl rfl rfl rfl rfl rfl rfl rfl m0 ?_;refine iV (.c3 (.c3 (.c3 (.c3 (.c3 (.c3 (.c3 (.c3 .nil)))))))) (bA.drop 0) ?_;refine mQ (o:=_) rfl ?_;refine gR kT1 (cM .head) rfl rfl rfl rfl rfl rfl s9 p6 λA44 c45=>?_;refine iV (.c3 (.c3 (.c3 (.c3 (.c3 (.c3 (.c3 (.c3 .nil)))))))) (bA.drop 0) ?_;refine mQ (o:=_) rfl ?_;refine gR .head (bT kT2 rfl) rfl rfl rfl rfl rfl rfl rfl p6 λA46 c47=>?_;refine bB (Fact.each (hv.take (hv.length-fI w.it)++[c]) tyF) (Has.each_snoc (mY e8 _) d8) ?_;refine iV (.c3 (.c3 (.c3 (.c3 (.c3 (.c3 (.c3 (.c3 .nil)))))))) (bA.drop 1) ?_;refine nX rfl rfl rfl rfl (jP hT rfl) ?_;refine wD ?_;refine g5 ?_;refine inc (j+1) ?_;refine g3 ?_;exact bk2 (j+1,hv.take (hv.length-fI w.it)++[c],A46,c47,ow++[c],v,u) ⟨j2 (⟨by dsimp only;omega,qA b.2 e m0 hy f rfl⟩),d7,d8,j1⟩
   refine jA hT (k:=(hv.length-fI w.it)) kT6 rfl rfl rfl rfl rfl rfl rfl rfl rfl m0 ?_;refine iV (.c2 (.c2 (.c2 (.c2 (.c2 (.c2 (.c2 (.c2 .nil)))))))) (bA.drop 0) ?_;refine mQ (o:=_) rfl ?_;refine vE rfl rfl rfl rfl λb48=>?_;refine iV (.c3 (.c3 (.c3 (.c3 (.c3 (.c3 (.c3 (.c3 .nil)))))))) (bA.drop 0) ?_;refine mQ (o:=_) rfl ?_;refine gR .head (cM kT1) rfl rfl rfl rfl rfl rfl s9 p6 λA49 c50=>?_;refine iV (.c3 (.c3 (.c3 (.c3 (.c3 (.c3 (.c3 (.c3 .nil)))))))) (bA.drop 0) ?_;refine mQ (o:=_) rfl ?_;refine gR .head (bT kT2 rfl) rfl rfl rfl rfl rfl rfl rfl p6 λA51 c52=>?_;refine bB (Fact.each (hv.take (hv.length-fI w.it)++[c]) tyF) (Has.each_snoc (mY e8 _) d8) ?_;refine iV (.c3 (.c3 (.c3 (.c3 (.c3 (.c3 (.c3 (.c3 .nil)))))))) (bA.drop 1) ?_;refine nX rfl rfl rfl rfl (jP hT rfl) ?_;refine wD ?_;refine g5 ?_;refine inc (j+1) ?_;refine g3 ?_;exact bk2 (j+1,hv.take (hv.length-fI w.it)++[c],A51,c52,ow++[c],v,u) ⟨j2 (⟨by dsimp only;omega,qA b.2 e m0 hy f rfl⟩),d7,d8,j1⟩
  refine g6 ?_;obtain⟨a,G,B,A⟩:=tsT_end b.2 m0;have I:hv[0]?=some a:=by rw[G];rfl
  have hvl1:hv.length=1:=by rw[G];rfl
  have hfln:=g.lns;refine bB (tyF a) (Has.each d8 (j3 I))<|fS kT3 λC=>bS kT3<|bB (xZ (⟨A4,c4,ow⟩:Sl TyV)) ((Has.and (Has.and d7 e7) (j2 C))) ?_;refine g3 ?_;refine bLz (m:=(⟨A4,c4,ow⟩:Sl TyV)) rfl rfl rfl rfl rfl λb53=>?_;refine bLx kT4 (bT .head rfl) rfl rfl rfl rfl rfl rfl rfl p6 λE D=>?_;refine bB (Fact.each (xs++[(⟨A4,c4,ow⟩:Sl TyV)]) xZ) (Has.each_snoc i7 d7) ?_;refine g3 ?_;refine kP _ _ (.fl 0 (.fl 1 (.fl 2 (.fl 5 (.fl 6 (.fl 7 (.two 3 8 (.two 4 8 (.op 8 (.op 9 (.fl 10 (.fl 11 (.op 12 .nil))))) (.op 4 (.op 9 (.fl 10 (.fl 11 (.op 12 .nil)))))) (.op 3 (.op 4 (.op 9 (.fl 10 (.fl 11 (.op 12 .nil))))))))))))) cN o8 (.c0 (.c0 (.c2 (.c2 (.c2 .nil))))) bA.self ?_;refine g4 ?_;refine sqT rfl (ixs 0) ?_;refine sqT rfl (oZ I 0) ?_;refine gO (o:=_) (o':=_) rfl rfl ?_ ?_
  .refine g2 ?_;refine gO (o:=_) (o':=_) rfl rfl ?_ ?_
   .refine g3 ?_;refine kQ (m:=a) rfl rfl rfl rfl rfl λb56=>?_;refine g2 ?_;refine gR kT4 (bT .head rfl) rfl rfl rfl rfl rfl rfl rfl p6 λA57 c58=>?_;refine bB (Fact.each (L++[a]) tyF) (Has.each_snoc i7 e6) ?_;refine g12 ?_;refine inc (i+1) ?_;refine g3 ?_;exact bk2 (i+1,L++[a],A57,c58,xs++[(⟨A4,c4,ow⟩:Sl TyV)],E,D) ⟨j2 (⟨by dsimp only;omega,bRu (s:=(⟨A4,c4,ow⟩:Sl TyV)) d.2 hx0 B A⟩),d7,d8,j1⟩
   refine kQ (m:=a) rfl rfl rfl rfl rfl λb59=>?_;refine g5 ?_;refine gR kT4 (bT .head rfl) rfl rfl rfl rfl rfl rfl rfl p6 λA60 c61=>?_;refine bB (Fact.each (L++[a]) tyF) (Has.each_snoc i7 e6) ?_;refine g12 ?_;refine inc (i+1) ?_;refine g3 ?_;exact bk2 (i+1,L++[a],A60,c61,xs++[(⟨A4,c4,ow⟩:Sl TyV)],E,D) ⟨j2 (⟨by dsimp only;omega,bRu (s:=(⟨A4,c4,ow⟩:Sl TyV)) d.2 hx0 B A⟩),d7,d8,j1⟩
  refine kQ (m:=a) rfl rfl rfl rfl rfl λb62=>?_;refine g8 ?_;refine gR kT4 (bT .head rfl) rfl rfl rfl rfl rfl rfl rfl p6 λA63 c64=>?_;refine bB (Fact.each (L++[a]) tyF) (Has.each_snoc i7 e6) ?_;refine g12 ?_;refine inc (i+1) ?_;refine g3 ?_;exact bk2 (i+1,L++[a],A63,c64,xs++[(⟨A4,c4,ow⟩:Sl TyV)],E,D) ⟨j2 (⟨by dsimp only;omega,bRu (s:=(⟨A4,c4,ow⟩:Sl TyV)) d.2 hx0 B A⟩),d7,d8,j1⟩
 refine g8 ?_;refine ss (j7 (bAp)) ?_;refine g5 ?_;have hr:=lsR_end d.2 (by rw[K];omega);subst hr;refine fS kT3 λO=>bS kT3 ?_;exact rs2 (A1,c1,xs) ⟨d7,e6,j2 ⟨rfl,O⟩,j1⟩
end Go.Proofs.YtioekpienlhcgaaGreatDoor
namespace Go.Proofs.YtioekpienlhcgaaGreatDoor.typeTypes
open Go.ChangeShapes Go.WideShapes Go.ChangeAt Go.RowKit Go.Proofs.Tryz
theorem law_spec(P:ProgV)(hP:sN P)(hl1:P.C.A.length<=140737488355328)(hl2:P.G.A.length<=140737488355328)(hcp:P.C.A.length<=P.C.cap):cY prog 3 [.agg #[k7 P.C,k7 P.G]] [] [jY,jN.sl (k7 P.C) P.C.A,iY P.C.A,nW.sl (k7 P.G) P.G.A,lZ P.G.A] (λ(_:Unit)=> .bool true) (λ_=>[]) (λ_=>[]):=by have hT:=dL;refine j8 func3 ntmps3 ?_;intro β hM;refine g2 ?_;refine j6 λg=>?_;refine g5 ?_;refine j5 func5 (shown9_spec) ⟨d7,j1⟩ λ_=>?_;refine g6 ?_;refine j5 func6 (bGb P hP hl1 hl2) ⟨d7,d8,d9,e6,e7,j1⟩ λ⟨A2,c3,xs4⟩=>?_;refine iC (v':= .tuple #[.slice A2 xs4.length c3,.agg #[.int .i64 (gU P.pr).2.1,.int .i64 (gU P.pr).2.2]]) rfl<|bG d9 λd=>bB (tR.sl (.slice A2 xs4.length c3) xs4) (d7)<|bB (Fact.each xs4 xZ) (d9) ?_;have a:xs4.map vJ=(gU P.pr).1:=d.1;refine g3 ?_;refine j4 bEm λf=>?_;refine g7 ?_;refine j5 func7 (types9_spec P hP hl1 hl2 hcp) ⟨e9,f4,f5,f7,j1⟩ λ⟨A6,c7,xs8⟩=>?_;refine iC (v':= .tuple #[.slice A6 xs8.length c7,.agg #[.int .i64 (gU P.pr).2.1,.int .i64 (gU P.pr).2.2]]) rfl<|bG d9 λc=>bB (tR.sl (.slice A6 xs8.length c7) xs8) (d7)<|bB (Fact.each xs8 xZ) (d9) ?_;have b:xs8.map vJ=(gU P.pr).1:=c.1;refine g3 ?_;refine j4 bEm λe=>?_;refine g10 ?_;refine ss (vP ⟨(gU P.pr).2.1,(gU P.pr).2.2⟩ ⟨(gU P.pr).2.1,(gU P.pr).2.2⟩ rfl rfl rfl) ?_;refine bF (t':=true) (by simp[rS]) ?_;refine g4 ?_;refine j5 func8 (sameL9_spec A2 A6 c3 c7 xs4 xs8 (rows_few a) (rows_big a)) ⟨e9,e8,d8,d7,j1⟩ λ_=>?_;refine bF (t':=true) (decide_eq_true (by rw[a,b])) ?_;refine g5 ?_;exact rs1 () trivial
