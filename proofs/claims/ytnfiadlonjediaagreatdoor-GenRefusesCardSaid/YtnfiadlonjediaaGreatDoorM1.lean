/- A part of one proof. -/
import Derived.Lib.Bytealg
import Derived.WalkSpells
import Derived.WalkLawsBesides
import Derived.Handy
import Derived.Deep.Light
import Derived.BigQuiet
import Derived.Lib.Hide
import Derived.Deep.RegionHeld3
import Derived.StillTail
import Derived.Great.BuildSlice
namespace Go.Proofs.YtnfiadlonjediaaGreatDoor
open _root_.Nat renaming lt_or_ge->A8,beq->B1,lt_of_lt_of_le->B2,eq_of_beq_eq_true->B5,le_refl->B8,le_trans->C0,blt->C2,lt_irrefl->C3,add_assoc->C4,add_zero->C5,not_lt->C6,ble->C7,le_of_ble_eq_true->C8,add_mul->C9,one_mul->D0,zero_add->D1,mul_le_mul_right->D2,rec->D3,mod->D4,div->D5,beq_eq->D6,blt_eq->D7
abbrev j2:Bool×Nat:=(true,0)
abbrev u0:Bool×Nat:=(true,2)
abbrev u1:Bool×Nat:=(true,1)
abbrev u2:Bool×Nat:=(true,3)
abbrev u3:Bool×Nat:=(true,4)
abbrev u4:Bool×Nat:=(true,5)
abbrev u5:Bool×Nat:=(true,6)
abbrev u6:Bool×Nat:=(true,7)
abbrev u7:Bool×Nat:=(true,8)
abbrev u9:Bool×Nat:=(true,9)
abbrev A00:Bool×Nat:=(true,10)
abbrev A01:Bool×Nat:=(true,11)
abbrev A02:Bool×Nat:=(true,12)
abbrev A03:Bool×Nat:=(true,13)
abbrev A04:Bool×Nat:=(true,14)
abbrev A05:Bool×Nat:=(true,15)
abbrev A06:Bool×Nat:=(true,17)
abbrev A07:Bool×Nat:=(true,16)
abbrev A08:Bool×Nat:=(false,6)
abbrev A09:Bool×Nat:=(false,8)
abbrev A12:Bool×Nat:=(false,11)
abbrev A14:Bool×Nat:=(false,9)
abbrev A16:Bool×Nat:=(false,7)
abbrev A17:Bool×Nat:=(false,18)
abbrev A19:Bool×Nat:=(false,10)
abbrev A20:Bool×Nat:=(true,18)
abbrev A22:Bool×Nat:=(true,19)
abbrev A24:Bool×Nat:=(false,12)
abbrev A25:Bool×Nat:=(false,13)
abbrev A26:Bool×Nat:=(true,22)
abbrev A27:Bool×Nat:=(true,23)
abbrev A28:Bool×Nat:=(true,24)
abbrev A29:Bool×Nat:=(true,20)
open World renaming cell?->D8,setRow->D9
open _root_.Array renaming getElem?_eq_none->E0,getD_eq_getD_getElem?->E1,ext'->E2,getElem?_modify->E3,setIfInBounds_comm->E4,replicate->E5
open Code renaming region->E6,cond->E7,loop->E8,rounds->E9
open _root_.List renaming mem_cons->F1,mem_append->F2,mem_cons_of_mem->F3,pairwise_cons->F4,mem_append_left->F5,pairwise_append->F6,getElem?_map->F7,extract_eq_take_drop->F8,mem_cons_self->F9,all_eq_true->G0,getElem?_eq_getElem->G1,mem_append_right->G2,getElem?_eq_some_iff->G3,length_append->G4,length_cons->G5,getElem?_append_left->G6,take_add_one->G7,getElem?_set_self->G8,take_set_of_le->G9,drop_set_of_lt->H3,mem_of_mem_drop->H4,rec->H5,map_cons->H6,map_congr_left->H7,map_drop->H8,map_take->H9,getElem?_take->I0,getElem?_drop->I1,length_map->I2
open Region renaming wanted->I3,ready->I4,binds->I5,free->I6,noSelect->I7,noSelect_spec->I8,free_spec->I9
open Sem renaming run_bind->J0,run_pure->J1
open Op renaming intArith->J2,stringOp->J3,equalIn->J4,equal->J5
open Result renaming andThen_ok->J6
open Instr renaming fieldAt->J7,sureAddr->J8,field->J9,storeAt->K0,indexAt->K1,fill->K2,sliceBound->K3,sliceBounds->K4,sliceAt->K5,checkKey->K6,findKey->K7,sameNow->K8,findNow->K9
open Builtin renaming len_->L0
open Oper renaming wp->L2,upon_value->L3,upon_skip->L4,upon_enter->L5,upon->L6
open Addr renaming add_mid->L7
open _root_.Bool renaming false_eq_true->L8,and_eq_true->L9,or_eq_true->M0,rec->M1,eq_iff_iff->M2,noConfusion->M3
open _root_.Int renaming toNat_natCast->M4,ofNat->M5,ofNat_lt->M6,negSucc->M7,natCast_nonneg->M8
open IntKind renaming wrap->M9,signed->N1,bits->N2
open _root_.Option renaming rec->N3,isSome_some->N4,map_some->N5,map_none->N6
open _root_.UInt8 renaming toNat->N7,ofNat->N8
theorem tQ4{α:Type}{a b c d e:α}{l:List α}(h:e∈l):e∈a::b::c::d::l:= .tail _ (.tail _ (.tail _ (.tail _ h)))
theorem e9:True:=trivial
theorem f5{α:Type _}{l:List α}{i:Nat}{a:α}(h:l[i]?=some a):a∈l:=List.mem_of_getElem? h
theorem j5{p:Prop}(h:p:=by omega):p:=h
theorem j6{p:Prop}(h:p:=by first|(rw[fH ‹_›];simp[*];done)|(rw[fI ‹_›];simp[*];done)|(rw[fO ‹_›];simp[*];done)|(rw[fJ ‹_› ‹_›];have hkn:(o.k != -1)=true:=(bne_iff_ne).2 (by omega);simp[*];done)|(rw[dG ‹_› (by omega)];done)|(rw[fL ‹_›];simp[*];done)|(rw[fM ‹_›];simp[*];done)|rw[fK ‹_› ‹_› ‹_› ‹_› ‹_› ‹_›]):p:=h
theorem j7{p:Prop}(h:p:=by first|(rw[fH ‹_›];simp[*];done)|(rw[fI ‹_›];simp[*];done)|(rw[fO ‹_›];simp[*];done)|(rw[fJ ‹_› ‹_›];simp[*];done)|(rw[dG ‹_› (by omega)];done)|(rw[fL ‹_›];simp[*];done)|(rw[fM ‹_›];simp[*];done)|rw[fK ‹_› ‹_› ‹_› ‹_› ‹_› ‹_›]):p:=h
theorem j8{p:Prop}(h:p:=by kernel_rfl):p:=h
theorem j9{p:Prop}(h:p:=by first|omega|(simp only[List.length_set];omega)):p:=h
theorem k7{p:Prop}(h:p:=by decide+kernel):p:=h
theorem k8{p:Prop}(h:p:=by dsimp only;omega):p:=h
theorem k9{p:Prop}(h:p:=by first|exact .inl (by show x23.I<0;omega)|exact .inr (.inl (by show((vE c.C.B).length:Int)<=x23.I;rw[cQ];omega))|exact .inr (.inr (.inl ⟨_,cM ‹_›,by show 0<=jW.L _;omega⟩))|exact .inr (.inr (.inr (show mV c.vars made (gA.c _)=false by assumption)))):p:=h
theorem l4{p:Prop}(h:p:=by decide):p:=h
theorem l5{p:Prop}(h:p:=by first|exact .inl (show iL (polsL (jW.K _).B) c.vars=false by assumption)|exact .inr (.inl (by show x4.L< -1;omega))|exact .inr (.inr (.inl (by show 64<=x4.L;omega)))|exact .inr (.inr (.inr ⟨by show 0<=x4.L;omega,by subst_vars;assumption⟩))):p:=h
theorem l7{p:Prop}(h:p:=by first|rfl|(simp only[List.length_set])):p:=h
theorem l8{p:Prop}(h:p:=by first|exact rT (.inl (by omega))|exact rT (.inr (by omega))|exact bEw (by omega) (by omega) (by omega)|exact bEx (by omega) (by omega) (by omega) ‹_›|exact bEt (by omega) (by omega) (by omega) ‹_›):p:=h
theorem l9{p:Prop}(h:p:=by first|exact sW (.inl (by omega))|exact sW (.inr (by omega))|exact wtk_b (by omega)|exact wtk_c (by omega) (by omega) (by omega) ‹_›|exact wtk_d (by omega) (by omega) (by omega) ‹_›):p:=h
theorem m7{p:Prop}(h:p:=by first|exact sW (by omega)|exact bBi ‹_› (by omega) (by omega)|exact bAt ‹_› (by omega) (by omega)|exact bBk ‹_› (by omega)|exact bBc (by omega)):p:=h
theorem m8{p:Prop}(h:p:=by simpa[Nat.blt_eq]using hn):p:=h
theorem m9{p:Prop}(h:p:=by simp):p:=h
theorem n7{p:Prop}(h:p:=by first|omega|(rw[List.length_take];omega)):p:=h
theorem n9{p:Prop}(h:p:=by simp only[List.length_set];omega):p:=h
theorem o5{p:Prop}(h:p:=by first|exact .inl (show iL (polsL (jW.K _).B) c.vars=false by assumption)|exact .inr (.inl (by show x3.L< -1;omega))|exact .inr (.inr (.inl (by show 64<=x3.L;omega)))):p:=h
theorem o6{p:Prop}(h:p:=by simp;omega):p:=h
theorem o7{p:Prop}(h:p:=by first|exact bZ.head|exact kT1|exact kT2|exact kT3|exact kT4|exact kT5|exact kT6|exact kT7|exact kT8|exact kT9|exact bIu|exact bHd|exact bGz|exact bHl):p:=h
theorem o8{p:Prop}(h:p:=by simp only[List.length_singleton];omega):p:=h
theorem o9{p:Prop}(h:p:=by first|(rw[<-hfe,decide_eq_true (show mn=1 by omega),Bool.true_and];done)|(rw[<-hfe,decide_eq_false (show ¬mn=1 by omega),Bool.false_and];done)|(rw[<-hfe,decide_eq_false (show ¬mn=1 by omega),Bool.false_and];simp_all;done)):p:=h
theorem p6{p:Prop}(h:p:=by first|exact .inl ‹_›|exact .inr (by omega)):p:=h
theorem p7{p:Prop}(h:p:=by rw[show c.c.D.length=c.D.B.length from cS _];omega):p:=h
theorem p8{p:Prop}(h:p:=by rw[iE (gM hyk)];exact pJ hrk (by omega) (λ⟨h1,h2,h3⟩=>by rw[hlk]at h1;cases h1)):p:=h
theorem p9{p:Prop}(h:p:=by rw[bS];omega):p:=h
theorem q7{p:Prop}(h:p:=by rw[iE (gM hyk)];exact bAp hrk (by omega) hlk hfk ‹_› _ (by rw[if_pos (by show mL _ _=[];rw[hpk];exact List.eq_nil_of_length_eq_zero (by omega))])):p:=h
theorem q8{p:Prop}(h:p:=by rw[iE (gM hyk)];exact bAp hrk (by omega) hlk hfk ‹_› _ (by rw[if_neg (by show mL _ _≠[];rw[hpk];exact λe=>by rw[e]at hc125;simp at hc125)])):p:=h
theorem q9{p:Prop}(h:p:=by rw[List.length_append,List.length_singleton,show((l.length+1:Nat):Int)-1=(l.length:Nat) by omega];exact jG rfl (by omega)):p:=h
theorem r7{p:Prop}(h:p:=by show((hasN i.op).1==[])=_;exact beq_eq_false_iff_ne.2 h0):p:=h
theorem r8{p:Prop}(h:p:=by simpa using hlt):p:=h
theorem r9{p:Prop}(h:p:=by show((vE c.C.B).length:Int)<=x23.I;rw[cQ];omega):p:=h
theorem s7{p:Prop}(h:p:=by show jP c.vars dims=true;exact hd):p:=h
theorem s8{p:Prop}(h:p:=by first|rfl|simp_all):p:=h
theorem t6{p:Prop}(h:p:=by rw[hW];rfl):p:=h
theorem t7{p:Prop}(h:p:=by rw[hly];rfl):p:=h
theorem t8{p:Prop}(h:p:=by first|(left;simp_all;done)|(right;omega)):p:=h
theorem v6{p:Prop}(h:p:=by first|exact congrArg some (zr_t (acc:=acc) ‹_›)|exact congrArg some (zr_f (acc:=acc) ‹_›)):p:=h
theorem v7{p:Prop}(h:p:=by rw[iE (gM hyk)];exact pJ hrk (by omega) (λ⟨h1,h2,h3⟩=>by have:yk.za<(i:Int):=h3;omega)):p:=h
theorem v8{p:Prop}(h:p:=by rw[if_pos (by show mL _ _=[];rw[hpk];exact List.eq_nil_of_length_eq_zero (by omega))]):p:=h
theorem w6{p:Prop}(h:p:=by rw[if_neg (by show mL _ _≠[];rw[hpk];exact λe=>by rw[e]at hc125;simp at hc125)]):p:=h
theorem w7{p:Prop}(h:p:=by rw[iE (gM hyk)];exact pJ hrk (by omega) (λ⟨h1,h2,h3⟩=>by rw[hfk]at h2;cases h2)):p:=h
theorem w8{p:Prop}(h:p:=by rw[hW];exact congrArg (λk=>Value.tuple #[.agg #[.slice _ k _,_],_]) hrr.n3.symm):p:=h
theorem w9{p:Prop}(h:p:=by show _=_;rw[HS.out,if_neg (by omega),show j+1+1-1=j+1 from rfl,HM.out];simp[ho]):p:=h
theorem z7{p:Prop}(h:p:=by rw[<-hr.J];exact he):p:=h
theorem z8{p:Prop}(h:p:=by rw[h]at hr;cases hr):p:=h
theorem aa0{p:Prop}(h:p:=by have hb0:=hinv9.2.2.2.2;rwa[show c.C.B.length-b=0 by omega]at hb0):p:=h
theorem aa1{p:Prop}(h:p:=by simp[hx]):p:=h
theorem aa2{p:Prop}(h:p:=by simp only[MkV.st,List.length_singleton];omega):p:=h
theorem aa3{p:Prop}(h:p:=by show mL _ _=[];rw[hpk];exact List.eq_nil_of_length_eq_zero (by omega)):p:=h
theorem aa4{p:Prop}(h:p:=by show mL _ _≠[];rw[hpk];exact λe=>by rw[e]at hc125;simp at hc125):p:=h
theorem aa5{p:Prop}(h:p:=by rw[hB.1]at h0;cases h0):p:=h
theorem aa6{p:Prop}(h:p:=by show ¬dX.from_ _<0;omega):p:=h
theorem aa7{p:Prop}(h:p:=by rw[show((m+1:Nat):Int)-1=(m:Nat) by omega];exact jG rfl (by omega)):p:=h
theorem aa8{p:Prop}(h:p:=by rw[hTw,decide_eq_false (show ¬x4.at_.B.length=0 by omega)];simp):p:=h
theorem aa9{p:Prop}(h:p:=by first|(unfold outB;simp[*];done)|(unfold outB;simp[*];omega)):p:=h
theorem ab0{p:Prop}(h:p:=by first|(unfold bKy;simp[*];done)|(unfold bKy;simp[*];omega)):p:=h
theorem ab1{p:Prop}(h:p:=by first|exact .inl (by show 0<=jW.L _;omega)|exact .inr ‹_›):p:=h
theorem ab2{p:Prop}(h:p:=by intro h;rcases h with h|h;exact absurd h (by simp);exact hq h):p:=h
theorem ab3{p:Prop}(h:p:=by rw[hel];exact hu):p:=h
theorem ab4{p:Prop}(h:p:=by simp[h]):p:=h
theorem ab5{p:Prop}(h:p:=by show c.c.D.length<=i;rw[hns];omega):p:=h
theorem ab6{p:Prop}(h:p:=by simpa using h):p:=h
theorem ab7{p:Prop}(h:p:=by simp[maxLen];omega):p:=h
theorem ab8{p:Prop}(h:p:=by show ¬jP c.vars dims=true;simp[hd]):p:=h
theorem ab9{p:Prop}(h:p:=by first|exact bad_a (by omega)|exact bad_b (by omega)):p:=h
theorem ac0{p:Prop}(h:p:=by rw[HS.out,decide_eq_false (by omega),Bool.false_and]):p:=h
theorem ac1{p:Prop}(h:p:=by show x4.L< -1;omega):p:=h
theorem ac2{p:Prop}(h:p:=by have:=hinv9.2.2.1;omega):p:=h
theorem ac3{p:Prop}(h:p:=by show 64<=x4.L;omega):p:=h
theorem ac4{p:Prop}(h:p:=by first|(subst_vars;assumption)|(exfalso;omega)):p:=h
theorem ac5{p:Prop}(h:p:=by first|exact .inl (by omega)|exact .inr ‹_›):p:=h
theorem ac6{p:Prop}(h:p:=by simp only[MkV.ly,List.length_singleton];omega):p:=h
theorem ac7{p:Prop}(h:p:=by show x23.I<0;omega):p:=h
theorem ac8{p:Prop}(h:p:=by simpa[Nat.beq_eq]using hn0):p:=h
theorem ac9{p:Prop}(h:p:=by unfold bBv;simp_all):p:=h
theorem ad0{p:Prop}(h:p:=by rw[hl];rfl):p:=h
theorem ad1{p:Prop}(h:p:=by rw[List.length_take];omega):p:=h
theorem ad2{p:Prop}(h:p:=by show ¬(0<=x3.L/\x6.L=x3.L);omega):p:=h
theorem ad3{p:Prop}(h:p:=by rw[hdp]):p:=h
theorem ad4{p:Prop}(h:p:=by rw[wK];have:=gB h4;omega):p:=h
theorem ad5{p:Prop}(h:p:=by rw[hb];omega):p:=h
theorem ad6{p:Prop}(h:p:=by show x3.L< -1;omega):p:=h
theorem ad7{p:Prop}(h:p:=by rw[h1]at h0;cases h0):p:=h
theorem ad8{p:Prop}(h:p:=by show 64<=x3.L;omega):p:=h
theorem ad9{p:Prop}(h:p:=by simp[fE];omega):p:=h
theorem ae0{p:Prop}(h:p:=by rw[bRn,hg];rfl):p:=h
theorem ae1{p:Prop}(h:p:=by rw[bOq];omega):p:=h
theorem ae2{p:Prop}(h:p:=by rw[hll];omega):p:=h
section
open Go.RowKit
theorem bAr{k:IntKind}{a b:Int}(h:a=b):Ending.returned (.int k a)= .returned (.int k b):=by rw[h]
theorem kV{a b:Bool}(h:a=b):Ending.returned (.bool a)= .returned (.bool b):=by rw[h]
theorem bKb{B:Nat}{a w:World}(h:Below B a w)(n:Nat):Below B a (w.drewN n):=⟨h.os,h.tape,h.output,h.size,h.block⟩
structure gG (W:World) where
 w:World
 h:Below W.heap.size W w
instance (W : World) : Nonempty (gG W) := ⟨⟨W, Below.refl _ _⟩⟩
theorem gG.of{W w:World}(h:Below W.heap.size W w): ∃x:gG W,w=x.w:=⟨⟨w,h⟩,rfl⟩
theorem gG.cell{W:World}{b o:Nat}{v:Value}(h:W.cell? ⟨b,o,none⟩=some v): ∀x:gG W,x.w.cell? ⟨b,o,none⟩=some v:=λx=>by
 have hb:b<W.heap.size:=by
  rcases A8 b W.heap.size with hlt|a
  .exact hlt
  .simp[D8,E0 a]at h
 exact(x.h.cell (p:=⟨b,o,none⟩) hb).trans h
theorem gG.calls{P:Program}{f:FuncId}{args:Array Value}{v:Value}{W0:World}(h: ∀W,Below W0.heap.size W0 W->Calls P f args W λe w'=>e= .returned v/\Below W.heap.size W w'):
  ∀x:gG W0,Calls P f args x.w λe w'=>e= .returned v/\ ∃y:gG W0,w'=y.w:=
 λx=>(h x.w x.h).mono λ_ _ ⟨he,hb⟩=>⟨he,gG.of (x.h.trans (hb.mono x.h.size))⟩
theorem mN{P:Program}{id:Nat}{Q:Exit->Act->World->Prop}{a:Act}{w:World}{l:List Oper}(hm:P.follows .mixedOrders=true)(hB:Region.lexB .any l.toArray=true)
  (h:wpQuiet P l.toArray (λw'=> ∃x:gG w,w'=x.w) (λa'=> ∀w',(∃x:gG w,w'=x.w)->Q .normal a' w') l a):(E6 id l.toArray true).wp P Q a w:=
 wp_region_quiet (C:=λw'=> ∃x:gG w,w'=x.w) hm hB (gG.of (Below.refl _ _).drew) ab6
abbrev Env:=List (Nat×Value)
def Env.get:Env->Nat->Option Value
 |[],_=>none
 |(i,v)::r,j=>cond (B1 i j) (some v) (Env.get r j)
def Env.ev(Γ:Env):Operand->Option Value
 |.tmp t=>Γ.get t
 |.const v=>some v
 |.global g=>some (.pointer (some ⟨g,0,none⟩))
 |.func f=>some (.func (.func f) #[] #[])
def Env.evs(Γ:Env):List Operand->Option (List Value)
 |[]=>some []
 |x::r=>match Γ.ev x with
  |some v=>match Γ.evs r with
   |some vs=>some (v::vs)
   |none=>none
  |none=>none
structure Fits (n:Nat) (Γ:Env) (a:Act):Prop where
 defers:a.defers=[]
 size:n<=a.tmps.size
 get: ∀i v,Γ.get i=some v->a.tmps[i]?=some v
section
variable {n : Nat} {Γ : Env} {a : Act}
theorem Fits.ev(h:Fits n Γ a){x:Operand}{v:Value}(hx:Γ.ev x=some v):a.eval x=v:=by
 cases x with
 |tmp t=>have:=h.get t v hx;simp[Act.eval,E1,this]
 |const u=>simp[Env.ev]at hx;exact hx
 |global g=>simp[Env.ev]at hx;exact hx
 |func f=>simp[Env.ev]at hx;exact hx
theorem Fits.evs(h:Fits n Γ a): ∀{xs:List Operand} {vs:List Value},Γ.evs xs=some vs->xs.map a.eval=vs
 |[],vs,hx=>by simp[Env.evs]at hx;simp[hx]
 |x::r,vs,hx=>by
  unfold Env.evs at hx
  cases b:Γ.ev x with
  |none=>simp[b]at hx
  |some v=>
   cases hr:Γ.evs r with
   |none=>simp[b,hr]at hx
   |some us=>
    simp[b,hr]at hx;subst hx;simp[h.ev b,h.evs hr]
theorem Fits.put(h:Fits n Γ a){d:Nat}(hd:d<n)(v:Value):Fits n ((d,v)::Γ) (a.put (some d) v):=by
 refine⟨h.defers,by simpa[Act.put]using h.size,λi u hu=>?_⟩;have hlt:d<a.tmps.size:=B2 hd h.size;unfold Env.get at hu
 by_cases e:d=i
 .subst e;simp at hu;subst hu;simp[Act.put,hlt]
 .have:B1 d i=false:=by
   cases hb:B1 d i with
   |false=>rfl
   |true=>exact absurd (B5 hb) e
  simp[this]at hu;simp[Act.put,e,h.get i u hu]
theorem Fits.put_none(h:Fits n Γ a)(v:Value):Fits n Γ (a.put none v):=h
def Env.Sub(Γ:Env):Env->Prop
 |[]=>True
 |(i,v)::r=>Γ.get i=some v/\Env.Sub Γ r
theorem Env.Sub.get{Γ:Env}: ∀{Δ:Env},Γ.Sub Δ-> ∀i v,Δ.get i=some v->Γ.get i=some v
 |[],_,i,v,h=>by simp[Env.get]at h
 |(j,u)::r,hs,i,v,h=>by
  unfold Env.get at h
  cases hb:B1 j i with
  |true=>
   have:=B5 hb;subst this;simp at h;rw[<-h];exact hs.1
  |false=>
   simp[hb]at h;exact Env.Sub.get hs.2 i v h
theorem Fits.sub(h:Fits n Γ a){Δ:Env}(hs:Γ.Sub Δ):Fits n Δ a:=⟨h.defers,h.size,λi v b=>h.get i v (hs.get i v b)⟩
end
abbrev kZ:=Nat->Prop
def Agree (S:kZ)(w w':World):Prop:= ∀b,S b->w'.heap[b]?=w.heap[b]?
structure bC where
 p:kZ->World->Prop
 mono: ∀{S S':kZ} {w w':World},(∀b,S b->S' b)->Agree S w w'->p S w->p S' w'
def All (F:List bC)(S:kZ)(w:World):Prop:= ∀f∈F,f.p S w
theorem All.mono{F:List bC}{S S':kZ}{w w':World}(hs: ∀b,S b->S' b)(ha:Agree S w w')(h:All F S w):All F S' w':=λf a=>f.mono hs ha (h f a)
theorem All.cons{f:bC}{F:List bC}{S:kZ}{w:World}(h:f.p S w)(k:All F S w):All (f::F) S w:=λg hg=>by
 rcases F1.1 hg with rfl|hg
 .exact h
 .exact k g hg
theorem All.append{F G:List bC}{S:kZ}{w:World}(h:All F S w)(k:All G S w):All (F++G) S w:=λg hg=>by
 rcases F2.1 hg with hg|hg
 .exact h g hg
 .exact k g hg
def bC.pure(c:Prop):bC:=⟨λ_ _=>c,λ_ _ h=>h⟩
def Has (F:List bC)(g:bC):Prop:= ∀S w,All F S w->g.p S w
theorem Has.of{F:List bC}{g:bC}(h:g∈F):Has F g:=λ_ _ k=>k g h
theorem Has.pure{F:List bC}{c:Prop}(h:c):Has F (bC.pure c):=λ_ _ _=>h
theorem f4{F:List bC}{c:Prop}(h:c):Has F (bC.pure c):=Has.pure h
def bA (F:List bC):List bC->Prop
 |[]=>True
 |g::G=>Has F g/\bA F G
theorem bA.all{F:List bC}: ∀{G:List bC},bA F G-> ∀S w,All F S w->All G S w
 |[],_,_,_,_=>λg hg=>by simp at hg
 |g::G,h,S,w,k=>All.cons (h.1 S w k) (bA.all h.2 S w k)
inductive bD where
 |obj (b:Nat) (o:Obj)
 |row (v:Value) (t:TypeId) (size n:Nat) (cs:List Value)
 |gen (b:Option Nat) (p:Option Obj->Prop)
def bD.blk:bD->Option Nat
 |.obj b _=>some b
 |.row v _ _ _ _=>v.ownBlock
 |.gen b _=>b
def bD.ok (w:World):bD->Prop
 |.obj b o=>w.heap[b]?=some o
 |.row v t size n cs=>w.ownsRow 0 t size v n cs
 |.gen b p=>p (b.bind λi=>w.heap[i]?)
structure pV (M:kZ) (w0 w:World):Prop where
 os:w.os=w0.os
 tape:w.tape=w0.tape
 output:w.output=w0.output
 size:w0.heap.size<=w.heap.size
 block: ∀b,b<w0.heap.size-> ¬M b->w.heap[b]?=w0.heap[b]?
theorem pV.refl(M:kZ)(w:World):pV M w w:=⟨rfl,rfl,rfl,B8 _,λ_ _ _=>rfl⟩
theorem pV.trans{M M':kZ}{a b c:World}(h:pV M a b)(k:pV M' b c)(hm: ∀i,M' i->M i\/a.heap.size<=i):pV M a c:=
 ⟨k.os.trans h.os,k.tape.trans h.tape,k.output.trans h.output,C0 h.size k.size,λi e hn=>(k.block i (B2 e h.size) (λd=>by rcases hm i d with f|f;exact hn f;omega)).trans (h.block i e hn)⟩
theorem pV.below{w0 w:World}(h:pV (λ_=>False) w0 w):Below w0.heap.size w0 w:=⟨h.os,h.tape,h.output,h.size,λk a=>h.block k a (λe=>e)⟩
theorem pV.of_below{w0 w:World}(M:kZ)(h:Below w0.heap.size w0 w):pV M w0 w:=⟨h.os,h.tape,h.output,h.size,λk a _=>h.block k a⟩
structure dY where
 w:World
 M:kZ
 S:kZ
structure St (β:dY) (H:List bD) (S:kZ) (w:World):Prop where
 kept:pV β.M β.w w
 ok: ∀c∈H,c.ok w
 own: ∀c∈H,∀b,c.blk=some b->b<w.heap.size/\(β.M b\/β.w.heap.size<=b)/\ ¬S b
 sep:H.Pairwise λc d=> ∀b,c.blk=some b->d.blk≠some b
 zb: ∀b,S b->b<w.heap.size/\(β.S b\/β.M b\/β.w.heap.size<=b)
def At (β:dY)(n:Nat)(Γ:Env)(H:List bD)(F:List bC)(K:Act->World->Prop):Prop:=
 ∀a w S,Fits n Γ a->St β H S w->All F S w->K a w
theorem bD.ok_of{w w':World}{c:bD}(h:c.ok w)(hs: ∀b,c.blk=some b->w'.heap[b]?=w.heap[b]?):c.ok w':=by
 cases c with
 |obj b o=>exact(hs b rfl).trans h
 |row v t size n cs=>
  refine⟨h.1,?_⟩
  rcases h.2 with h|⟨g,d,a,e,h1,h2,h3⟩
  .exact .inl h
  .subst e;exact .inr ⟨g,d,a,rfl,h1,(hs g rfl).trans h2,h3⟩
 |gen b p=>
  cases b with
  |none=>exact h
  |some i=>
   show p (w'.heap[i]?);rw[hs i rfl];exact h
theorem St.grow{β:dY}{H:List bD}{S:kZ}{w w':World}{M':kZ}(h:St β H S w)(k:pV M' w w')(hM: ∀b,M' b->(β.M b\/β.w.heap.size<=b))(hH: ∀c∈H,∀b,c.blk=some b-> ¬M' b):St β H S w' where
 kept:=h.kept.trans k hM
 ok:=λc a=>bD.ok_of (h.ok c a) λb hb=>k.block b (h.own c a b hb).1 (hH c a b hb)
 own:=λc a b hb=>⟨B2 (h.own c a b hb).1 k.size,(h.own c a b hb).2⟩
 sep:=h.sep
 zb:=λb hb=>⟨B2 (h.zb b hb).1 k.size,(h.zb b hb).2⟩
section
variable {P : Program} {β : dY} {n : Nat} {Γ : Env} {H : List bD} {F : List bC} {Q : Exit -> Act -> World -> Prop} {K : Act -> World -> Prop}
theorem At.mono{K':Act->World->Prop}(h:At β n Γ H F K)(hk: ∀a w,K a w->K' a w):At β n Γ H F K':=λa w S f s k=>hk a w (h a w S f s k)
theorem cH{x y:Code}(h:At β n Γ H F (x.wp P (Exit.then (y.wp P Q) Q))):At β n Γ H F ((Code.seq x y).wp P Q):=λa w S f s k=>wp_seq (h a w S f s k)
theorem gY{id:Nat}{c:Code}(h:At β n Γ H F (c.wp P (Exit.inBlock id Q))):At β n Γ H F ((Code.block id c).wp P Q):=λa w S f s k=>wp_block (h a w S f s k)
theorem dS(h:At β n Γ H F (Q .normal)):At β n Γ H F (Code.skip.wp P Q):=λa w S f s k=>wp_skip (h a w S f s k)
theorem oR{id:Nat}(h:At β n Γ H F (Q (.exit id))):At β n Γ H F ((Code.exit id).wp P Q):=λa w S f s k=>wp_exit (h a w S f s k)
theorem lX(h:At β n Γ H F (Q .ret)):At β n Γ H F (Code.ret.wp P Q):=λa w S f s k=>wp_ret (h a w S f s k)
theorem bX{id:Nat}{l:List Oper}(h:At β n Γ H F (wpList P l.toArray Q l)):At β n Γ H F ((E6 id l.toArray false).wp P Q):=λa w S f s k=>wp_region_lit (h a w S f s k)
theorem jL{ops:Array Oper}(h:At β n Γ H F (Q .normal)):At β n Γ H F (wpList P ops Q []):=h
theorem cZ(h:At β n Γ H F K):At β n Γ H F (Exit.then K Q .normal):=h
theorem lA{i:Nat}(h:At β n Γ H F (Q (.exit i))):At β n Γ H F (Exit.then K Q (.exit i)):=h
theorem iT(h:At β n Γ H F (Q .ret)):At β n Γ H F (Exit.then K Q .ret):=h
theorem gX{i:Nat}(h:At β n Γ H F (Q .normal)):At β n Γ H F (Exit.inBlock i Q .normal):=h
theorem mC{i:Nat}(h:At β n Γ H F (Q .ret)):At β n Γ H F (Exit.inBlock i Q .ret):=h
theorem oO{i:Nat}(h:At β n Γ H F (Q .normal)):At β n Γ H F (Exit.inBlock i Q (.exit i)):=λa w S f s k=>by simp only[Exit.inBlock,if_true];exact h a w S f s k
theorem x_pass{i j:Nat}(hne:B1 j i=false)(h:At β n Γ H F (Q (.exit j))):At β n Γ H F (Exit.inBlock i Q (.exit j)):=λa w S f s k=>by
 have:j≠i:=λe=>by rw[e,Nat.beq_refl]at hne;cases hne
 simp only[Exit.inBlock,if_neg this];exact h a w S f s k
theorem cD{c:Operand}{x y:Code}{t:Bool}(hc:Γ.ev c=some (.bool t))(ht:t=true->At β n Γ H F (x.wp P Q))(hf:t=false->At β n Γ H F (y.wp P Q)):At β n Γ H F ((E7 c x y).wp P Q):=
 λa w S f s k=>wp_cond_split (f.ev hc) (λe=>ht e a w S f s k) (λe=>hf e a w S f s k)
theorem gT{c:Operand}{x y:Code}{t:Bool}(hc:Γ.ev c=some (.bool t))(ht:t=true)(h:At β n Γ H F (x.wp P Q)):At β n Γ H F ((E7 c x y).wp P Q):=
 cD hc (λ_=>h) (λe=>by rw[ht]at e;cases e)
theorem jE{c:Operand}{x y:Code}{t:Bool}(hc:Γ.ev c=some (.bool t))(ht:t=false)(h:At β n Γ H F (y.wp P Q)):At β n Γ H F ((E7 c x y).wp P Q):=
 cD hc (λe=>by rw[ht]at e;cases e) (λ_=>h)
theorem bG{c:Prop}(hc:Has F (bC.pure c))(h:c->At β n Γ H F K):At β n Γ H F K:=λa w S f s k=>h (hc S w k) a w S f s k
theorem bK(g:bC)(hg:Has F g)(h:At β n Γ H (g::F) K):At β n Γ H F K:=λa w S f s k=>h a w S f s (All.cons (hg S w k) k)
inductive bZ:List bD->bD->List bD->Prop
 |head {c:bD} {H:List bD}:bZ (c::H) c H
 |tail {c d:bD} {H H':List bD} (h:bZ H c H'):bZ (d::H) c (d::H')
theorem bZ.perm{H H':List bD}{c:bD}(h:bZ H c H'):H.Perm (c::H'):=by
 induction h with
 |head=>exact List.Perm.refl _
 |tail _ ih=>exact(ih.cons _).trans (List.Perm.swap _ _ _)
inductive Sel:List bD->List bD->Prop
 |nil {H:List bD}:Sel H []
 |cons {H H' R:List bD} {c:bD} (h:bZ H c H') (k:Sel H' R):Sel H (c::R)
theorem St.perm{H H':List bD}{S:kZ}{w:World}(h:St β H S w)(p:H.Perm H'):St β H' S w where
 kept:=h.kept
 ok:=λc a=>h.ok c (p.mem_iff.2 a)
 own:=λc a=>h.own c (p.mem_iff.2 a)
 sep:=h.sep.perm p (λd b hb a=>d b a hb)
 zb:=h.zb
theorem St.tail{H:List bD}{c:bD}{S:kZ}{w:World}(h:St β (c::H) S w):St β H S w where
 kept:=h.kept
 ok:=λd hd=>h.ok d (F3 _ hd)
 own:=λd hd=>h.own d (F3 _ hd)
 sep:=(F4.1 h.sep).2
 zb:=h.zb
theorem Sel.sub{H R:List bD}(h:Sel H R): ∃H',H.Perm (R++H'):=by
 induction h with
 |nil=>exact⟨_,List.Perm.refl _⟩
 |cons h _ ih=>
  obtain⟨H',p⟩:=ih;exact⟨H',h.perm.trans (p.cons _)⟩
theorem St.sel{H R:List bD}{S:kZ}{w:World}(h:St β H S w)(hs:Sel H R):St β R S w:=by obtain⟨b,p⟩:=hs.sub;have h:=h.perm p;exact⟨h.kept,λc a=>h.ok c (F5 _ a),λc a=>h.own c (F5 _ a),(F6.1 h.sep).1,h.zb⟩
theorem rD{R:List bD}(hs:Sel H R)(h:At β n Γ R F K):At β n Γ H F K:=λa w S f s k=>h a w S f (s.sel hs) k
def Back {ι:Type}(β:dY)(n:Nat)(G:ι->Env)(HH:ι->List bD)(FF:ι->List bC)(μ:ι->Nat)(m:Nat)(a:Act)(w:World):Prop:=
 ∃x S,μ x<m/\Fits n (G x) a/\St β (HH x) S w/\All (FF x) S w
theorem rU{ι:Type}{c:Code}(G:ι->Env)(HH:ι->List bD)(FF:ι->List bC)(μ:ι->Nat)(x0:ι)(hG:Γ.Sub (G x0))(hH:Sel H (HH x0))(hF:bA F (FF x0))
  (round: ∀x,At β n (G x) (HH x) (FF x) (c.wp P (Exit.then (Back β n G HH FF μ (μ x)) Q))):At β n Γ H F ((E8 c).wp P Q):=by
 have key: ∀m x,μ x<=m-> ∀a w S,Fits n (G x) a->St β (HH x) S w->All (FF x) S w->E9 P c Q (m+1) a w:=by
  intro m
  induction m with
  |zero=>
   intro x hx a w S f s k;rw[rounds_succ];refine Code.wp_mono (λe g d q=>?_) (round x a w S f s k)
   cases e with
   |normal=>obtain⟨b,h,hlt,_⟩:=q;omega
   |_=>exact q
  |succ m ih=>
   intro x hx a w S f s k;rw[rounds_succ];refine Code.wp_mono (λe g d q=>?_) (round x a w S f s k)
   cases e with
   |normal=>obtain⟨b,h,hlt,l,i,j⟩:=q;exact ih b j5 g d h l i j
   |_=>exact q
 intro a w S f s k;exact wp_loop_rounds (μ x0+1) (key (μ x0) x0 (B8 _) a w S (f.sub hG) (s.sel hH) (hF.all S w k))
theorem qL{ι:Type}{G:ι->Env}{HH:ι->List bD}{FF:ι->List bC}{μ:ι->Nat}{m:Nat}(x:ι)(hμ:μ x<m)(hG:Γ.Sub (G x))(hH:Sel H (HH x))(hF:bA F (FF x)):
  At β n Γ H F (Back β n G HH FF μ m):=λ_ w S f s k=>⟨x,S,hμ,f.sub hG,s.sel hH,hF.all S w k⟩
def want (ops:Array Oper)(Γ:Env)(o:Oper):Option Bool:=
 match o.guard with
 |none=>some true
 |some (j,b)=>match (ops[j]?).bind (·.dst)with
  |some d=>match Γ.get d with
   |some (.bool c)=>some (c==b)
   |some (.tuple _)=>some false
   |_=>none
  |none=>none
theorem Fits.want{ops:Array Oper}{o:Oper}{t:Bool}{a:Act}(h:Fits n Γ a)(hw:want ops Γ o=some t):I3 o (yielded ops a.tmps)=t:=by
 unfold Proofs.YtnfiadlonjediaaGreatDoor.want at hw;unfold I3;split at hw
 .rename_i hg;simp at hw;simp[hg,hw]
 .rename_i j b hg;rw[hg];simp only;split at hw
  .rename_i d hd;split at hw
   .rename_i c e;have:=h.get d _ e;simp at hw;simp[yielded,hd,this,<-hw]
   .rename_i c e;have:=h.get d _ e;simp at hw;simp[yielded,hd,this,<-hw]
   .cases hw
  .cases hw
def StF (β:dY)(H:List bD)(F:List bC)(w:World):Prop:= ∃S,St β H S w/\All F S w
def Det (P:Program)(β:dY)(n:Nat)(Γ:Env)(H:List bD)(F:List bC)(o:Oper)(v:Value):Prop:=
 ∀a,Fits n Γ a-> ∀w,StF β H F w->o.quietAt P a (StF β H F) w v
theorem det_of{o:Oper}{v:Value}(h: ∀a w S,Fits n Γ a->St β H S w->All F S w->(execOp a.eval o).run P w= .ok (.value v) w):Det P β n Γ H F o v:=λa f w ⟨S,s,k⟩=>by unfold Oper.quietAt;rw[h a w S f s k];exact⟨rfl,rfl⟩
theorem at_det{ops:Array Oper}{rest:List Oper}{o:Oper}{d:Nat}{v:Value}(hw:want ops Γ o=some true)(hd:o.dst=some d)(hn:C2 d n=true)(h:Det P β n Γ H F o v)
  (k:At β n ((d,v)::Γ) H F (wpList P ops Q rest)):At β n Γ H F (wpList P ops Q (o::rest)):=by intro a w S f s j;unfold wpList;rw[f.want hw,if_pos rfl];refine .inl (Oper.wp_of_quiet (C:=StF β H F) (K:=λe=>e=a.put o.dst v) ⟨S,s,j⟩ ?_ ⟨v,λc b=>h a f c b,rfl⟩);rintro e c ⟨l,g,i⟩ rfl;rw[hd];exact k _ _ l (f.put m8 v) g i
theorem bOs{ops:Array Oper}{rest:List Oper}{o:Oper}{d:Nat}(hw:want ops Γ o=some false)(hd:o.dst=some d)(hn:C2 d n=true)
  (k:At β n ((d,undef)::Γ) H F (wpList P ops Q rest)):At β n Γ H F (wpList P ops Q (o::rest)):=by intro a w S f s b;unfold wpList;rw[f.want hw,if_neg m9,hd];exact k _ _ S (f.put m8 undef) s b
theorem StF.drew{w:World}(h:StF β H F w):StF β H F {w with drawn:=w.drawn+1}:=by obtain⟨S,s,k⟩:=h;exact⟨S,⟨⟨s.kept.os,s.kept.tape,s.kept.output,s.kept.size,s.kept.block⟩,λc a=>bD.ok_of (s.ok c a) (λ_ _=>rfl),s.own,s.sep,s.zb⟩,All.mono (w:=w) (S:=S) (λ_ h=>h) (λ_ _=>rfl) k⟩
theorem bR{d:Nat}{t t':Bool}(ht:t=t')(k:At β n ((d,.bool t')::Γ) H F K):At β n ((d,.bool t)::Γ) H F K:=by rw[ht];exact k
end
inductive TD where
 |int (k:IntKind)
 |slice (e:Nat)
 |string
 |bool
 |array (n e:Nat)
 |struct (fs:List (Nat×Nat))
 |map (k e:Nat)
 |other
def TD.of:TypeDesc->TD
 |.int k=> .int k
 |.slice e=> .slice e
 |.string=> .string
 |.bool=> .bool
 |.array n e=> .array n e
 |.struct fs=> .struct (fs.toList.map λf=>(f.type,f.offset))
 |.map k e=> .map k e
 |_=> .other
structure TI where
 desc:TD
 size:Nat
abbrev Tab:=List (Nat×TI)
def Tab.get:Tab->Nat->Option TI
 |[],_=>none
 |(i,v)::r,j=>cond (B1 i j) (some v) (Tab.get r j)
def fC (P:Program)(T:Tab):Prop:= ∀t i,T.get t=some i->(P.underlying t).map TD.of=some i.desc/\(P.info? t).map (·.size)=some i.size
def uM (P:Program):Tab->Prop
 |[]=>True
 |(t,i)::r=>((P.underlying t).map TD.of=some i.desc/\(P.info? t).map (·.size)=some i.size)/\uM P r
theorem uM.ok{P:Program}: ∀{T:Tab},uM P T->fC P T
 |[],_,t,i,h=>by simp[Tab.get]at h
 |(j,u)::r,hs,t,i,h=>by
  unfold Tab.get at h
  cases hb:B1 j t with
  |true=>
   have:=B5 hb;subst this;simp at h;subst h;exact hs.1
  |false=>
   simp[hb]at h;exact uM.ok hs.2 t i h
def aggD:TD->Bool
 |.struct _=>true
 |.array _ _=>true
 |_=>false
section
variable {P : Program} {T : Tab} (hT : fC P T) {t : Nat}
include hT
theorem fC.any{i:TI}(h:T.get t=some i): ∃d,P.underlying t=some d/\TD.of d=i.desc:=by
 have:=(hT t i h).1
 cases hu:P.underlying t with
 |none=>simp[hu]at this
 |some d=>simp[hu]at this;exact⟨d,rfl,this⟩
theorem fC.size{i:TI}(h:T.get t=some i)(w:World):(sizeOf t).run P w= .ok i.size w:=by
 have:=(hT t i h).2
 cases a:P.info? t with
 |none=>simp[a]at this
 |some x=>simp[a]at this;simp[sizeOf,typeInfo,a,this]
theorem fC.agg{i:TI}(h:T.get t=some i)(w:World):(isAgg t).run P w= .ok (aggD i.desc) w:=by obtain⟨d,hu,hd⟩:=hT.any h;unfold isAgg;rw[J0,run_underlying hu,<-hd];cases d<;>simp[aggD,TD.of]
theorem fC.slice{e s:Nat}(h:T.get t=some ⟨.slice e,s⟩)(w:World):(underlying t).run P w= .ok (.slice e) w:=by
 obtain⟨d,hu,hd⟩:=hT.any h;cases d<;>simp[TD.of]at hd
 subst hd;exact run_underlying hu w
theorem fC.int{k:IntKind}{s:Nat}(h:T.get t=some ⟨.int k,s⟩)(w:World):(underlying t).run P w= .ok (.int k) w:=by
 obtain⟨d,hu,hd⟩:=hT.any h;cases d<;>simp[TD.of]at hd
 subst hd;exact run_underlying hu w
theorem fC.string{s:Nat}(h:T.get t=some ⟨.string,s⟩)(w:World):(underlying t).run P w= .ok .string w:=by
 obtain⟨d,hu,hd⟩:=hT.any h;cases d<;>simp[TD.of]at hd
 exact run_underlying hu w
theorem fC.array{n e s:Nat}(h:T.get t=some ⟨.array n e,s⟩)(w:World):(underlying t).run P w= .ok (.array n e) w:=by
 obtain⟨d,hu,hd⟩:=hT.any h;cases d<;>simp[TD.of]at hd
 obtain⟨rfl,rfl⟩:=hd;exact run_underlying hu w
theorem fC.struct{fs:List (Nat×Nat)}{s:Nat}(h:T.get t=some ⟨.struct fs,s⟩): ∃gs:Array Field,(∀w,(underlying t).run P w= .ok (.struct gs) w)/\gs.toList.map (λf=>(f.type,f.offset))=fs:=by
 obtain⟨d,hu,hd⟩:=hT.any h;cases d<;>simp[TD.of]at hd
 rename_i gs;exact⟨gs,λw=>run_underlying hu w,by simpa using hd⟩
end
theorem field_at{gs:Array Field}{fs:List (Nat×Nat)}(h:gs.toList.map (λf=>(f.type,f.offset))=fs){i ty off:Nat}(hf:fs[i]?=some (ty,off)): ∃g,gs[i]?=some g/\g.type=ty/\g.offset=off:=by
 subst h;rw[F7]at hf
 cases hg:gs.toList[i]? with
 |none=>simp[hg]at hf
 |some g=>
  simp[hg]at hf;exact⟨g,by simpa using hg,hf.1,hf.2⟩
def sameKind:IntKind->IntKind->Bool
 |.i8,.i8|.i16,.i16|.i32,.i32|.i64,.i64|.u8,.u8|.u16,.u16|.u32,.u32|.u64,.u64=>true
 |_,_=>false
theorem lU{k k':IntKind}(h:sameKind k k'=true):k=k':=by cases k<;>cases k'<;>simp[sameKind]at h<;>rfl
def arith:BinOp->IntKind->Int->Int->Option Value
 |.add,k,a,b=>some (.int k (k.wrap (a+b)))
 |.sub,k,a,b=>some (.int k (k.wrap (a-b)))
 |.mul,k,a,b=>some (.int k (k.wrap (a*b)))
 |.or,k,a,b=>some (.int k (k.wrap ((BitVec.ofInt k.bits a ||| BitVec.ofInt k.bits b).toNat:Nat)))
 |.and,k,a,b=>some (.int k (k.wrap ((BitVec.ofInt k.bits a&&&BitVec.ofInt k.bits b).toNat:Nat)))
 |.eql,_,a,b=>some (.bool (a==b))
 |.neq,_,a,b=>some (.bool (a !=b))
 |.lss,_,a,b=>some (.bool (decide (a<b)))
 |.leq,_,a,b=>some (.bool (decide (a<=b)))
 |.gtr,_,a,b=>some (.bool (decide (b<a)))
 |.geq,_,a,b=>some (.bool (decide (b<=a)))
 |_,_,_,_=>none
def strBin:BinOp->ByteArray->ByteArray->Option Value
 |.eql,a,b=>some (.bool (a.data.toList==b.data.toList))
 |.neq,a,b=>some (.bool (!(a.data.toList==b.data.toList)))
 |_,_,_=>none
def pureBin(op:BinOp):Value->Value->Option Value
 |.int k a,.int k' b=>cond (sameKind k k') (arith op k a b) none
 |.string a,.string b=>strBin op a b
 |_,_=>none
theorem pureBin_run{P:Program}{op:BinOp}{xt:TypeId}{x y:Operand}{a b v:Value}(h:pureBin op a b=some v)(w:World):
  ((do eqGuard op xt x y a b;binOp op xt a b:Sem Value)).run P w= .ok v w:=by
 unfold pureBin at h;split at h
 .rename_i k a d b
  cases c:sameKind k d with
  |false=>simp[c]at h
  |true=>
   have:=lU c;subst this;simp[c]at h;cases op<;>simp[arith]at h<;>subst h<;>simp[eqGuard,binOp,J2,Op.intCmp,Op.intBits]<;>rfl
 .rename_i a b;cases op<;>simp[strBin]at h<;>subst h<;>simp[eqGuard,binOp,J3,ByteArray.toList_eq]
 .cases h
def addOff(o:Nat):Nat->Nat
 |0=>o
 |k+1=>o+(k+1)
theorem addr_add(b o k:Nat):(⟨b,o,none⟩:Addr).add k=⟨b,addOff o k,none⟩:=by cases k<;>simp[Addr.add,addOff]
def cut:List Value->Nat->Nat->Option (List Value)
 |_,0,0=>some []
 |c::r,0,n+1=>match cut r 0 n with
  |some l=>some (c::l)
  |none=>none
 |[],0,_+1=>none
 |_::r,o+1,n=>cut r o n
 |[],_+1,_=>none
theorem zG: ∀{cs:List Value} {o n:Nat} {l:List Value},cut cs o n=some l->l=(cs.drop o).take n/\l.length=n/\ ∀j u,l[j]?=some u->cs[o+j]?=some u
 |cs,0,0,l,h=>by simp[cut]at h;subst h;simp
 |c::r,0,n+1,l,h=>by
  unfold cut at h
  cases b:cut r 0 n with
  |none=>simp[b]at h
  |some l'=>
   simp[b]at h;subst h;obtain⟨h1,h2,h3⟩:=zG b;refine⟨by simp[h1],by simp[h2],λj u a=>?_⟩
   cases j with
   |zero=>simpa using a
   |succ j=>have:=h3 j u (by simpa using a);simpa using this
 |[],0,_+1,l,h=>by simp[cut]at h
 |c::r,o+1,n,l,h=>by
  unfold cut at h;obtain⟨h1,h2,h3⟩:=zG h;refine⟨by simp[h1],h2,λj u a=>?_⟩;have:=h3 j u a;rw[show o+1+j=(o+j)+1 from by omega]
  simpa using this
 |[],_+1,_,l,h=>by simp[cut]at h
def tC:List Value->Nat->List Value->Option (List Value)
 |cs,0,[]=>some cs
 |_::r,0,v::vs=>match tC r 0 vs with
  |some l=>some (v::l)
  |none=>none
 |[],0,_::_=>none
 |c::r,o+1,vs=>match tC r o vs with
  |some l=>some (c::l)
  |none=>none
 |[],_+1,_=>none
theorem rJ: ∀{cs:List Value} {o:Nat} {vs l:List Value},tC cs o vs=some l->o+vs.length<=cs.length/\l=cs.take o++vs++cs.drop (o+vs.length)
 |cs,0,[],l,h=>by simp[tC]at h;subst h;simp
 |c::r,0,v::vs,l,h=>by
  unfold tC at h
  cases a:tC r 0 vs with
  |none=>simp[a]at h
  |some l'=>
   simp[a]at h;subst h;obtain⟨h1,h2⟩:=rJ a;simp at h1 h2;refine⟨by simp;omega,by simp[h2]⟩
 |[],0,_::_,l,h=>by simp[tC]at h
 |c::r,o+1,vs,l,h=>by
  unfold tC at h
  cases a:tC r o vs with
  |none=>simp[a]at h
  |some l'=>
   simp[a]at h;subst h;obtain⟨h1,h2⟩:=rJ a;refine⟨by simp;omega,?_⟩;rw[show o+1+vs.length=(o+vs.length)+1 from by omega];simp[h2]
 |[],_+1,_,l,h=>by simp[tC]at h
def binV (T:Tab)(op:BinOp)(t:Nat):Value->Value->Option Value
 |.bool a,.bool b=>match T.get t,op with
  |some ⟨.bool,_⟩,.eql=>some (.bool (a==b))
  |some ⟨.bool,_⟩,.neq=>some (.bool (a !=b))
  |_,_=>none
 |u,v=>pureBin op u v
def pD (T:Tab)(Γ:Env):Op->Option Value
 |.move x=>Γ.ev x
 |.assign x=>Γ.ev x
 |.pick c a b=>match Γ.ev c with
  |some (.bool true)=>Γ.ev a
  |some (.bool false)=>Γ.ev b
  |_=>none
 |.binOp op xt x y _=>match Γ.ev x with
  |some u=>match Γ.ev y with
   |some v=>binV T op xt u v
   |none=>none
  |none=>none
 |.unOp op _ x=>match op,Γ.ev x with
  |.not,some (.bool b)=>some (.bool (!b))
  |.neg,some (.int k a)=>some (.int k (k.wrap (0-a)))
  |_,_=>none
 |.convert s d x=>match T.get s,T.get d,Γ.ev x with
  |some _,some ⟨.int k,_⟩,some (.int _ a)=>some (.int k (k.wrap a))
  |_,_,_=>none
 |.extract x i=>match Γ.ev x with
  |some (.tuple vs)=>vs.toList[i]?
  |_=>none
 |.fieldAddr s x f=>match T.get s,Γ.ev x with
  |some ⟨.struct fs,_⟩,some (.pointer (some ⟨b,o,none⟩))=>match fs[f]? with
   |some (ft,fo)=>match T.get ft with
    |some ⟨_,_+1⟩=>some (.pointer (some ⟨b,addOff o fo,none⟩))
    |_=>none
   |none=>none
  |_,_=>none
 |.field s x f=>match T.get s,Γ.ev x with
  |some ⟨.struct fs,_⟩,some (.agg cs)=>match fs[f]? with
   |some (ft,fo)=>match T.get ft with
    |some i=>cond (aggD i.desc) (match cut cs.toList fo i.size with
     |some l=>some (.agg l.toArray)
     |none=>none) cs.toList[fo]?
    |none=>none
   |none=>none
  |_,_=>none
 |.nilCheck x=>match Γ.ev x with
  |some (.pointer (some a))=>some (.pointer (some a))
  |_=>none
 |.makeFunc fn first cap=>match Γ.evs first.toList with
  |some a=>match Γ.evs cap.toList with
   |some b=>some (.func fn a.toArray b.toArray)
   |none=>none
  |none=>none
 |.call ⟨.builtin .len,args,ts⟩=>match args.toList,ts.toList with
  |[x],[t]=>match T.get t,Γ.ev x with
   |some ⟨.slice _,_⟩,some (.slice _ k _)=>some (.int .i64 k)
   |some ⟨.string,_⟩,some (.string s)=>some (.int .i64 s.size)
   |some ⟨.array k _,_⟩,some _=>some (.int .i64 k)
   |_,_=>none
  |_,_=>none
 |.call ⟨.builtin .max,args,_⟩=>match args.toList with
  |[x,y]=>match Γ.ev x,Γ.ev y with
   |some (.int k a),some (.int _ b)=>some (.int k (if b>a then b else a))
   |_,_=>none
  |_=>none
 |.call ⟨.builtin .min,args,_⟩=>match args.toList with
  |[x,y]=>match Γ.ev x,Γ.ev y with
   |some (.int k a),some (.int _ b)=>some (.int k (if b<a then b else a))
   |_,_=>none
  |_=>none
 |_=>none
section
variable {P : Program} {β : dY} {n : Nat} {Γ : Env} {H : List bD} {F : List bC} {Q : Exit -> Act -> World -> Prop} {K : Act -> World -> Prop} {T : Tab}
theorem run_part_agg(hT:fC P T){t:Nat}{i:TI}(ht:T.get t=some i)(ha:aggD i.desc=true)(cs:Array Value)(off:Nat){l:List Value}(h:cut cs.toList off i.size=some l)(w:World):(part t cs off).run P w= .ok (.agg l.toArray) w:=by
 unfold part;rw[J0,hT.agg ht,J6,ha];simp only[if_true,J0,hT.size ht,J6,J1];obtain⟨h1,_,_⟩:=zG h;rw[h1]
 congr 2
 apply E2;simp[Array.toList_extract,F8]
theorem run_part_one(hT:fC P T){t:Nat}{i:TI}(ht:T.get t=some i)(ha:aggD i.desc=false)(cs:Array Value)(off:Nat){v:Value}(h:cs.toList[off]?=some v)(w:World):(part t cs off).run P w= .ok v w:=by
 unfold part;rw[J0,hT.agg ht,J6,ha];have:cs[off]?=some v:=by simpa using h
 simp[this]
theorem binV_run(hT:fC P T){op:BinOp}{xt:TypeId}{x y:Operand}{a b v:Value}(h:binV T op xt a b=some v)(w:World):
  ((do eqGuard op xt x y a b;binOp op xt a b:Sem Value)).run P w= .ok v w:=by
 unfold binV at h;split at h
 .rename_i a b;split at h
  .rename_i sz c;simp at h;subst h;obtain⟨d,hu,hd⟩:=hT.any c;cases d<;>simp[TD.of]at hd
   have he: ∀d,(J4 (d+1) xt (.bool a) (.bool b)).run P w= .ok (a==b) w:=λd=>by simp[J4,run_underlying hu]
   have hb:(binOp .eql xt (.bool a) (.bool b)).run P w= .ok (.bool (a==b)) w:=by simp only[binOp];rw[J0,show J5 xt (.bool a) (.bool b)=J4 10000 xt (.bool a) (.bool b)from rfl,he 9999];rfl
   have hg:(eqGuard .eql xt x y (.bool a) (.bool b)).run P w= .ok () w:=rfl;rw[J0,hg,J6,hb]
  .rename_i sz c;simp at h;subst h;obtain⟨d,hu,hd⟩:=hT.any c;cases d<;>simp[TD.of]at hd
   have he: ∀d,(J4 (d+1) xt (.bool a) (.bool b)).run P w= .ok (a==b) w:=λd=>by simp[J4,run_underlying hu]
   have hb:(binOp .neq xt (.bool a) (.bool b)).run P w= .ok (.bool (a !=b)) w:=by simp only[binOp];rw[J0,show J5 xt (.bool a) (.bool b)=J4 10000 xt (.bool a) (.bool b)from rfl,he 9999];rfl
   have hg:(eqGuard .neq xt x y (.bool a) (.bool b)).run P w= .ok () w:=rfl;rw[J0,hg,J6,hb]
  .cases h
 .exact pureBin_run h w
theorem bDw(hT:fC P T){o:Oper}{v:Value}{a:Act}(f:Fits n Γ a)(h:pD T Γ o.op=some v)(w:World):(execOp a.eval o).run P w= .ok (.value v) w:=by
 unfold execOp;unfold pD at h;split at h
 .rename_i x ho;simp[ho,f.ev h]
 .rename_i x ho;simp[ho,f.ev h]
 .rename_i c x y ho;split at h
  .rename_i M;simp[ho,f.ev M,f.ev h,asBool]
  .rename_i M;simp[ho,f.ev M,f.ev h,asBool]
  .cases h
 .rename_i op R x y yt ho;split at h
  .rename_i u hu;split at h
   .rename_i v' X;have:=binV_run hT (x:=x) (y:=y) h w;simp only[ho,f.ev hu,f.ev X];rw[J0,this];rfl
   .cases h
  .cases h
 .rename_i op R x ho;split at h
  .rename_i b hb;simp at h;subst h;simp[ho,f.ev hb,Op.unary]
  .rename_i k b hb;simp at h;subst h;simp[ho,f.ev hb,Op.unary,J2]
  .cases h
 .rename_i s d x ho;split at h
  .rename_i is k sz O b D hd hx;simp at h;subst h;obtain⟨ds,L,_⟩:=hT.any D;simp only[ho,f.ev hx,convert,J0,run_underlying L,hT.int hd,J6,Conv.intToInt,J1]
  .cases h
 .rename_i x i ho;split at h
  .rename_i U hx;have:U[i]?=some v:=by simpa using h
   simp[ho,f.ev hx,Instr.extract,this]
  .cases h
 .rename_i s x fi ho;split at h
  .rename_i fs sz b W D hx;obtain⟨Y,r,q⟩:=hT.struct D;split at h
   .rename_i Z fo B;obtain⟨g,hg,rfl,rfl⟩:=field_at q B;split at h
    .rename_i de k z;simp at h;subst h;simp only[ho,f.ev hx,J7,J0,r,J6,hg,J8,J1,fieldPlace,hT.size z,addr_add];rfl
    .cases h
   .cases h
  .cases h
 .rename_i s x fi ho;split at h
  .rename_i fs sz Q D hx;obtain⟨Y,r,q⟩:=hT.struct D;split at h
   .rename_i Z fo B;obtain⟨g,hg,rfl,rfl⟩:=field_at q B;split at h
    .rename_i V z
     cases m:aggD V.desc with
     |true=>
      simp only[m,cond_true]at h;split at h
      .rename_i l hl;simp at h;subst h;have K:=run_part_agg hT z m Q g.offset hl w;simp only[ho,f.ev hx,J9,J0,r,J6,hg,asAgg,J1,K]
      .cases h
     |false=>
      simp only[m,cond_false]at h;have K:=run_part_one hT z m Q g.offset h w;simp only[ho,f.ev hx,J9,J0,r,J6,hg,asAgg,J1,K]
    .cases h
   .cases h
  .cases h
 .rename_i x ho;split at h
  .rename_i ad hx;simp at h;subst h;simp[ho,f.ev hx]
  .cases h
 .rename_i fn first N ho
  split at h
  .rename_i a1 h1;split at h
   .rename_i b1 h2;simp at h;subst h;have e1:first.map a.eval=a1.toArray:=by apply E2;simpa using f.evs h1
    have e2:N.map a.eval=b1.toArray:=by apply E2;simpa using f.evs h2
    simp only[ho,e1,e2,Instr.makeFunc];rfl
   .cases h
  .cases h
 .rename_i j G ho;split at h
  .rename_i x t p J;have E:j= #[x]:=by apply E2;simpa using p
   have hb:G= #[t]:=by apply E2;simpa using J
   subst E hb;split at h
   .rename_i e sz A k c C hx;simp at h;subst h;simp[ho,resolve,invoke,builtin,L0,f.ev hx,hT.slice C,goInt]
   .rename_i sz s C hx;simp at h;subst h;simp[ho,resolve,invoke,builtin,L0,f.ev hx,hT.string C,goInt]
   .rename_i k e sz u C hx;simp at h;subst h;simp[ho,resolve,invoke,builtin,L0,hT.array C,goInt]
   .cases h
  .cases h
 .rename_i j G ho;split at h
  .rename_i x y p;have E:j= #[x,y]:=by apply E2;simpa using p
   subst E;split at h
   .rename_i k a' O b hx I;simp at h;subst h;simp[ho,resolve,invoke,builtin,Builtin.max_,Builtin.max2,f.ev hx,f.ev I]
   .cases h
  .cases h
 .rename_i j G ho;split at h
  .rename_i x y p;have E:j= #[x,y]:=by apply E2;simpa using p
   subst E;split at h
   .rename_i k a' O b hx I;simp at h;subst h;simp[ho,resolve,invoke,builtin,Builtin.min_,Builtin.min2,f.ev hx,f.ev I]
   .cases h
  .cases h
 .cases h
end
section
variable {P : Program} {β : dY} {n : Nat} {Γ : Env} {H : List bD} {F : List bC} {Q : Exit -> Act -> World -> Prop} {K : Act -> World -> Prop} {T : Tab}
theorem St.agree{S:kZ}{w w':World}{M':kZ}(s:St β H S w)(k:pV M' w w')(hS: ∀b,S b-> ¬M' b):Agree S w w':=λb hb=>k.block b (s.zb b hb).1 (hS b hb)
theorem bPc(w:World)(o:Obj):pV (λ_=>False) w (w.alloc o):=
 ⟨rfl,rfl,rfl,m9,λb hb _=>Below.heap_alloc _ _ _ hb⟩
theorem St.alloc{S:kZ}{w:World}(s:St β H S w)(o:Obj):St β (.obj w.heap.size o::H) S (w.alloc o):=by
 have e:=s.grow (bPc w o) (λ_ h=>h.elim) (λ_ _ _ _ h=>h);refine⟨e.kept,λc a=>?_,λc a b hb=>?_,F4.2 ⟨λd hd b hb f=>?_,e.sep⟩,e.zb⟩
 .rcases F1.1 a with rfl|a
  .exact heap_alloc_new _ _
  .exact e.ok c a
 .rcases F1.1 a with rfl|a
  .injection hb with hb
   subst hb;exact⟨m9,.inr s.kept.size,λh=>absurd (s.zb _ h).1 (C3 _)⟩
  .exact e.own c a b hb
 .injection hb with hb
  subst hb;exact absurd (s.own d hd _ f).1 (C3 _)
theorem All.alloc{S:kZ}{w:World}(s:St β H S w)(k:All F S w)(o:Obj):All F S (w.alloc o):=All.mono (λ_ h=>h) (s.agree (bPc w o) (λ_ _ h=>h)) k
theorem gR{ops:Array Oper}{rest:List Oper}{o:Oper}(hw:want ops Γ o=some true)(h: ∀a w S,Fits n Γ a->St β H S w->All F S w->o.wp P a w (wpList P ops Q rest) Q):At β n Γ H F (wpList P ops Q (o::rest)):=λa w S f s k=>by unfold wpList;rw[f.want hw,if_pos rfl];exact .inl (h a w S f s k)
theorem dW{ops:Array Oper}{rest:List Oper}{o:Oper}{d:Nat}{t:TypeId}{x:Operand}{v:Value}{cs:List Value}(hw:want ops Γ o=some true)(ho:o.op= .box t x)(hd:o.dst=some d)(hn:C2 d n=true)
  (hx:Γ.ev x=some v) (hc:v.cells=cs.toArray) (k: ∀b,At β n ((d,.pointer (some ⟨b,0,none⟩))::Γ) (.obj b (.cells cs.toArray t)::H) F (wpList P ops Q rest)):At β n Γ H F (wpList P ops Q (o::rest)):=
 gR hw λa w S f s c=>by
  have hr:(execOp a.eval o).run P w= .ok (.value (.pointer (some ⟨w.heap.size,0,none⟩))) (w.alloc (.cells cs.toArray t)):=by unfold execOp;simp only[ho,f.ev hx,Instr.box,newVar,newRow,hc];rfl
  unfold L2;rw[hr,L3,hd];exact k _ _ _ S (f.put m8 _) (s.alloc _) (All.alloc s c _)
theorem j0{ops:Array Oper}{rest:List Oper}{o:Oper}{d:Nat}{t:TypeId}{x:Operand}{v:Value}{cs:List Value}(k: ∀b,At β n ((d,.pointer (some ⟨b,0,none⟩))::Γ) (.obj b (.cells cs.toArray t)::H) F (wpList P ops Q rest))(hw:want ops Γ o=some true:=by exact rfl)(ho:o.op= .box t x:=by exact rfl)(hd:o.dst=some d:=by exact rfl)(hn:Nat.blt d n=true:=by exact rfl)(hx:Γ.ev x=some v:=by exact rfl)(hc:v.cells=cs.toArray:=by exact rfl):At β n Γ H F (wpList P ops Q (o::rest)):=dW hw ho hd hn hx hc k
def lT (β:dY)(H:List bD)(F:List bC)(b q:Nat)(cs:List Value):Prop:= ∀w S,St β H S w->All F S w-> ∀j u,cs[j]?=some u->w.cell? ⟨b,q+j,none⟩=some u
theorem bZ.mem{H H':List bD}{c:bD}(h:bZ H c H'):c∈H:=h.perm.mem_iff.2 (F9 ..)
theorem bU{b off:Nat}{cs:List Value}{t:TypeId}{fz:Nat×Nat}{H':List bD}(hH:bZ H (.obj b (.cells cs.toArray t fz)) H'):lT β H F b off (cs.drop off):=λw S s _ j u a=>by
 have h:w.heap[b]?=some (.cells cs.toArray t fz):=s.ok _ hH.mem;unfold D8;rw[h]
 simpa using a
theorem sS{b:Nat}{cs:List Value}{t:TypeId}{fz:Nat×Nat}{H':List bD}(hH:bZ H (.obj b (.cells cs.toArray t fz)) H'):lT β H F b 0 (cs.drop 0):=bU hH
theorem kwO1{b:Nat}{cs:List Value}{t:TypeId}{fz:Nat×Nat}{H':List bD}(hH:bZ H (.obj b (.cells cs.toArray t fz)) H'):lT β H F b 1 (cs.drop 1):=bU hH
theorem kwO2{b:Nat}{cs:List Value}{t:TypeId}{fz:Nat×Nat}{H':List bD}(hH:bZ H (.obj b (.cells cs.toArray t fz)) H'):lT β H F b 2 (cs.drop 2):=bU hH
theorem kwO5{b:Nat}{cs:List Value}{t:TypeId}{fz:Nat×Nat}{H':List bD}(hH:bZ H (.obj b (.cells cs.toArray t fz)) H'):lT β H F b 5 (cs.drop 5):=bU hH
theorem kwO6{b:Nat}{cs:List Value}{t:TypeId}{fz:Nat×Nat}{H':List bD}(hH:bZ H (.obj b (.cells cs.toArray t fz)) H'):lT β H F b 6 (cs.drop 6):=bU hH
theorem kwO7{b:Nat}{cs:List Value}{t:TypeId}{fz:Nat×Nat}{H':List bD}(hH:bZ H (.obj b (.cells cs.toArray t fz)) H'):lT β H F b 7 (cs.drop 7):=bU hH
def bC.cells(b o:Nat)(cs:List Value):bC where
 p S w:=S b/\ ∀j u,cs[j]?=some u->w.cell? ⟨b,o+j,none⟩=some u
 mono:=λhs ha h=>⟨hs _ h.1,λj u hj=>by
  have:=h.2 j u hj;unfold D8 at*;rw[ha b h.1]
  exact this⟩
theorem lT.drop{b q:Nat}{cs:List Value}(h:lT β H F b q cs)(j:Nat):lT β H F b (q+j) (cs.drop j):=λw S s k i u a=>by
 have:=h w S s k (j+i) u (by simpa using a)
 rwa[<-C4]at this
theorem bIz{w:World}{g:Nat}{cs:Array Value}:pV (λb=>b=g) w (w.setRow g cs):=by refine⟨rfl,rfl,rfl,by simp[D9],λb hb a=>?_⟩;simp[D9,E3,Ne.symm a]
theorem setRow_at{w:World}{g:Nat}{cur cs:Array Value}{t:TypeId}{fz:Nat×Nat}(h:w.heap[g]?=some (.cells cur t fz)):(w.setRow g cs).heap[g]?=some (.cells cs t fz):=by simp[D9,E3,h]
theorem St.swap{c c':bD}{S:kZ}{w w':World}{g:Nat}(s:St β (c::H) S w)(k:pV (λb=>b=g) w w')(hc:c.blk=some g)(hc':c'.blk=some g)(ok:c'.ok w'):St β (c'::H) S w':=by
 have hg:=s.own c (F9 ..) g hc;have a:=F4.1 s.sep;have f:St β H S w':=s.tail.grow k (λb hb=>by subst hb;exact hg.2.1) (λd hd b hb e=>by subst e;exact a.1 d hd _ hc hb);refine⟨f.kept,λd hd=>?_,λd hd b hb=>?_,F4.2 ⟨λd hd b hb=>?_,f.sep⟩,f.zb⟩
 .rcases F1.1 hd with rfl|hd
  .exact ok
  .exact f.ok d hd
 .rcases F1.1 hd with rfl|hd
  .rw[hc']at hb;injection hb with hb
   subst hb;exact⟨B2 hg.1 k.size,hg.2⟩
  .exact f.own d hd b hb
 .rw[hc']at hb;injection hb with hb
  subst hb;exact a.1 d hd _ hc
theorem at_store{ops:Array Oper}{rest:List Oper}{o:Oper}(hT:fC P T){t t' b off:Nat}{p x:Operand}{v:Value}{vs cs cs':List Value}{i:TI}{H':List bD}(hw:want ops Γ o=some true)(ho:o.op= .store t p x)(hd:o.dst=none)
  (hp:Γ.ev p=some (.pointer (some ⟨b,off,none⟩))) (hx:Γ.ev x=some v) (hH:bZ H (.obj b (.cells cs.toArray t')) H') (ht:T.get t=some i) (hc:v.cells=vs.toArray) (hs:B1 vs.length i.size=true)
  (h1:vs.all (·.oneCell')=true) (hput:tC cs off vs=some cs') (k:At β n Γ (.obj b (.cells cs'.toArray t')::H') F (wpList P ops Q rest)):At β n Γ H F (wpList P ops Q (o::rest)):=
 gR hw λa w S f s l=>by
  have hb:w.heap[b]?=some (.cells cs.toArray t' (0,0)):=s.ok _ hH.mem;obtain⟨hl,e⟩:=rJ hput;have d:=run_storeCells_at (P:=P) b off t' vs 0 cs.toArray w hb (by simpa using hl) (λu hu=>by simpa using (G0.1 h1) u hu);simp only[C5]at d;rw[<-e]at d;have g:v.cells.size=i.size:=by rw[hc];simpa using B5 hs
  have hr:(execOp a.eval o).run P w= .ok .skip (w.setRow b cs'.toArray):=by unfold execOp;simp only[ho,f.ev hp,f.ev hx,K0,J8,storeVar,J0,J1,J6,hT.size ht,g];simp[hc,d]
  unfold L2;rw[hr,L4,hd];have j:=s.perm hH.perm;exact k _ _ S (f.put_none _) (j.swap bIz rfl rfl (setRow_at hb)) (All.mono (λ_ h=>h) (s.agree bIz (λc hc e=>by subst e;exact(j.own _ (F9 ..) _ rfl).2.2 hc)) l)
structure Enc (α:Type) where
 size:Nat
 rep:List Value->α->bC
def Enc.flat{α:Type}(size:Nat)(cells:α->List Value):Enc α:=⟨size,λcs x=>bC.pure (cs=cells x)⟩
def bC.sl {α:Type}(E:Enc α)(v:Value)(xs:List α):bC where
 p S w:= ∃A cap,v= .slice A xs.length cap/\ ∀k x,xs[k]?=some x-> ∃b o cs,A=some ⟨b,o,none⟩/\S b/\(∀j u,cs[j]?=some u->w.cell? ⟨b,o+k*E.size+j,none⟩=some u)/\(E.rep cs x).p S w
 mono:=λhs ha ⟨A,cap,e,h⟩=>⟨A,cap,e,λk x hk=>by
  obtain⟨b,o,cs,e1,e2,e3,e4⟩:=h k x hk;refine⟨b,o,cs,e1,hs _ e2,λj u hj=>?_,(E.rep cs x).mono hs ha e4⟩;have:=e3 j u hj;unfold D8 at*;rw[ha b e2]
  exact this⟩
theorem Has.slice{α:Type}{E:Enc α}{v:Value}{xs:List α}(h:Has F (bC.sl E v xs)):Has F (bC.pure (∃A cap,v= .slice A xs.length cap)):=λS w k=>by obtain⟨A,cap,e,_⟩:=h S w k;exact⟨A,cap,e⟩
theorem Has.O{α:Type}{E:Enc α}{A:Option Addr}{l c:Nat}{xs:List α}(h:Has F (bC.sl E (.slice A l c) xs)){k:Nat}(hk:k<xs.length):Has F (bC.pure (∃b o,A=some ⟨b,o,none⟩)):=λS w a=>by
 obtain⟨i,f,e,h⟩:=h S w a;obtain⟨b,o,g,d,_⟩:=h k _ (G1 hk);injection e with e
 exact⟨b,o,e.trans d⟩
theorem Has.elem{α:Type}{sz:Nat}{cells:α->List Value}{b o l c:Nat}{xs:List α}(h:Has F (bC.sl (Enc.flat sz cells) (.slice (some ⟨b,o,none⟩) l c) xs)){k:Nat}{x:α}(hk:xs[k]?=some x):Has F (bC.cells b (o+k*sz) (cells x)):=λS w d=>by
 obtain⟨q,m,e,h⟩:=h S w d;obtain⟨p,n,j,i,g,f,a⟩:=h k x hk;injection e with e
 rw[i]at e;injection e with e
 injection e with e e'
 subst e e';have a:j=cells x:=a;subst a;exact⟨g,f⟩
def mR (H:List bD):kZ:=λb=> ∃c∈H,c.blk=some b
def cJ {ι:Type}(P:Program)(f:FuncId)(args:List Value)(Hin:List bD)(Pre:List bC)(val:ι->Value)(Hout:ι->List bD)(post:ι->List bC):Prop:=
 ∀S w,St ⟨w,mR Hin,S⟩ Hin S w->All Pre S w->Calls P f args.toArray w λe w'=> ∃x S',e= .returned (val x)/\St ⟨w,mR Hin,S⟩ (Hout x) S' w'/\All (post x) S' w'
inductive Split:List bD->List bD->List bD->Prop
 |nil {H:List bD}:Split H [] H
 |cons {H H' R H2:List bD} {c:bD} (h:bZ H c H') (k:Split H' R H2):Split H (c::R) H2
theorem Split.perm{H R H2:List bD}(h:Split H R H2):H.Perm (R++H2):=by
 induction h with
 |nil=>exact List.Perm.refl _
 |cons h _ ih=>exact h.perm.trans (ih.cons _)
theorem St.enter{Hin H2:List bD}{S:kZ}{w:World}(s:St β (Hin++H2) S w):St ⟨w,mR Hin,S⟩ Hin S w where
 kept:=pV.refl _ _
 ok:=λc a=>s.ok c (F5 _ a)
 own:=λc a b hb=>⟨(s.own c (F5 _ a) b hb).1,.inl ⟨c,a,hb⟩,(s.own c (F5 _ a) b hb).2.2⟩
 sep:=(F6.1 s.sep).1
 zb:=λb hb=>⟨(s.zb b hb).1,.inl hb⟩
theorem St.leave{Hin Hout H2:List bD}{S S':kZ}{w w':World}(s:St β (Hin++H2) S w)(s':St ⟨w,mR Hin,S⟩ Hout S' w'):St β (Hout++H2) (λb=>S b\/S' b) w':=by
 have sp:=F6.1 s.sep;have f: ∀b,mR Hin b->b<w.heap.size/\(β.M b\/β.w.heap.size<=b)/\ ¬S b:=λb ⟨c,a,hb⟩=>s.own c (F5 _ a) b hb
 have h2: ∀c∈H2,∀b,c.blk=some b->b<w.heap.size/\(β.M b\/β.w.heap.size<=b)/\ ¬S b/\ ¬mR Hin b:=λc a b hb=>by obtain⟨h1,h2,h3⟩:=s.own c (G2 _ a) b hb;exact⟨h1,h2,h3,λ⟨d,hd,g⟩=>sp.2.2 d hd c a b g hb⟩
 refine⟨s.kept.trans s'.kept (λi n=>(f i n).2.1),λc a=>?_,λc a b hb=>?_,F6.2 ⟨s'.sep,sp.2.1,λc a d hd b hb g=>?_⟩,λb hb=>?_⟩
 .rcases F2.1 a with a|a
  .exact s'.ok c a
  .exact bD.ok_of (s.ok c (G2 _ a)) λb hb=>s'.kept.block b (h2 c a b hb).1 (h2 c a b hb).2.2.2
 .rcases F2.1 a with a|a
  .obtain⟨j,e,l⟩:=s'.own c a b hb;refine⟨j,?_,λh=>?_⟩
   .rcases e with e|e
    .exact(f b e).2.1
    .exact .inr (C0 s.kept.size e)
   .rcases h with h|h
    .rcases e with e|e
     .exact(f b e).2.2 h
     .exact absurd (s.zb b h).1 (C6.2 e)
    .exact l h
  .obtain⟨j,e,l,m⟩:=h2 c a b hb;refine⟨B2 j s'.kept.size,e,λh=>?_⟩
   rcases h with h|h
   .exact l h
   .rcases (s'.zb b h).2 with k|k|k
    .exact l k
    .exact m k
    .exact absurd j (C6.2 k)
 .obtain⟨j,_,_,m⟩:=h2 d hd b g
  rcases (s'.own c a b hb).2.1 with e|e
  .exact m e
  .exact absurd j (C6.2 e)
 .rcases hb with hb|hb
  .exact⟨B2 (s.zb b hb).1 s'.kept.size,(s.zb b hb).2⟩
  .refine⟨(s'.zb b hb).1,?_⟩
   rcases (s'.zb b hb).2 with h|h|h
   .exact(s.zb b h).2
   .exact .inr (f b h).2.1
   .exact .inr (.inr (C0 s.kept.size h))
theorem All.leave{Hin Hout H2:List bD}{S S':kZ}{w w':World}(s:St β (Hin++H2) S w)(s':St ⟨w,mR Hin,S⟩ Hout S' w')(k:All F S w):All F (λb=>S b\/S' b) w':=
 All.mono (λ_ h=> .inl h) (λb hb=>s'.kept.block b (s.zb b hb).1 (λ⟨c,hc,h⟩=>(s.own c (F5 _ hc) b h).2.2 hb)) k
theorem bOu{o:Oper}{f:FuncId}{ars:Array Operand}{ts:Array TypeId}{vs:List Value}{a:Act}(hcf: ∀(args:Array Value) (w:World),(callFunc f args).run P w= .ok (.enter f args) w)(ho:o.op= .call ⟨.value (.func f),ars,ts⟩)(fi:Fits n Γ a)
  (hv:Γ.evs ars.toList=some vs) (w:World):(execOp a.eval o).run P w= .ok (.enter f vs.toArray) w:=by
 have b:ars.map a.eval=vs.toArray:=by
  apply E2
  simpa using fi.evs hv
 unfold execOp;simp only[ho,resolve,Act.eval,Deferred.ofValue,J0,J1,J6,invoke];simp[b,hcf]
theorem at_call{ι:Type}{ops:Array Oper}{rest:List Oper}{o:Oper}{d:Nat}{f:FuncId}{ars:Array Operand}{ts:Array TypeId}{vs:List Value}{Hin H2:List bD}{Pre:List bC}{val:ι->Value}{Hout:ι->List bD}{post:ι->List bC}
  (hcf: ∀(args:Array Value) (w:World),(callFunc f args).run P w= .ok (.enter f args) w) (hs:cJ P f vs Hin Pre val Hout post) (hw:want ops Γ o=some true) (ho:o.op= .call ⟨.value (.func f),ars,ts⟩) (hd:o.dst=some d) (hn:C2 d n=true)
  (hv:Γ.evs ars.toList=some vs) (hH:Split H Hin H2) (hF:bA F Pre) (k: ∀x,At β n ((d,val x)::Γ) (Hout x++H2) (post x++F) (wpList P ops Q rest)):At β n Γ H F (wpList P ops Q (o::rest)):=
 gR hw λa w S f s g=>by unfold L2;rw[bOu hcf ho f hv w,L5];have b:=s.perm hH.perm;refine(hs S w b.enter (hF.all S w g)).mono ?_;rintro e i ⟨x,l,rfl,c,j⟩;show wpList P ops Q rest (a.put o.dst (val x)) i;rw[hd];exact k x _ _ _ (f.put m8 _) (b.leave c) ((All.mono (λ_ h=> .inr h) (λ_ _=>rfl) j).append (All.leave b c g))
def bCj:Nat->List Value->Env
 |_,[]=>[]
 |i,v::r=>(i,v)::bCj (i+1) r
theorem tU: ∀(i:Nat) (l:List Value) (j:Nat) (v:Value),(bCj i l).get j=some v->i<=j/\l[j-i]?=some v
 |i,[],j,v,h=>by simp[bCj,Env.get]at h
 |i,u::r,j,v,h=>by
  unfold bCj Env.get at h
  cases hb:B1 i j with
  |true=>
   have:=B5 hb;subst this;simp at h;simp[h]
  |false=>
   simp[hb]at h;obtain⟨h1,h2⟩:=tU (i+1) r j v h;refine⟨j5,?_⟩;rw[show j-i=(j-(i+1))+1 from by omega]
   simpa using h2
def bKw {ι:Type}(β:dY)(val:ι->Value)(Hout:ι->List bD)(post:ι->List bC)(e:Ending)(w':World):Prop:= ∃x S',e= .returned (val x)/\St β (Hout x) S' w'/\All (post x) S' w'
theorem bP{ι:Type}{f:FuncId}{fn:Func}{c:Code}{args:List Value}{Hin:List bD}{Pre:List bC}{val:ι->Value}{Hout:ι->List bD}{post:ι->List bC}(hf:P.funcs[f]?=some fn)(hb:fn.body=some c)(hn:fn.ntmps=n)
  (hl:C7 args.length n=true) (h: ∀β,β.M=mR Hin->At β n (bCj 0 args) Hin Pre (c.wp P (bodyPost P fn (bKw β val Hout post)))):cJ P f args Hin Pre val Hout post:=λS w s k=>by
 refine calls_of_wp hf hb (h ⟨w,mR Hin,S⟩ rfl _ w S ⟨rfl,?_,λi v a=>?_⟩ s k)
 .have:=C8 hl;simp;omega
 .obtain⟨_,h2⟩:=tU 0 args i v a;simp only[Nat.sub_zero]at h2;have hlt:i<args.length:=(G3.1 h2).1;simp only[Array.getElem?_append];rw[if_pos r8]
  simpa using h2
theorem j1{ι:Type}{f:FuncId}{fn:Func}{c:Code}{args:List Value}{Hin:List bD}{Pre:List bC}{val:ι->Value}{Hout:ι->List bD}{post:ι->List bC}(hf:P.funcs[f]?=some fn)(hn:fn.ntmps=n)(h: ∀β,β.M=mR Hin->At β n (bCj 0 args) Hin Pre (c.wp P (bodyPost P fn (bKw β val Hout post))))(hb:fn.body=some c:=by exact rfl)(hl:Nat.ble args.length n=true:=by exact rfl):cJ P f args Hin Pre val Hout post:=bP hf hb hn hl h
theorem bQk{ι:Type}{fn:Func}{val:ι->Value}{Hout:ι->List bD}{post:ι->List bC}{t:Nat}{v:Value}(x:ι)(hr:fn.results= #[.tmp t])(hv:Γ.get t=some v)(he:v=val x)(hH:Sel H (Hout x))(hF:bA F (post x)):
  At β n Γ H F (bodyPost P fn (bKw β val Hout post) .ret):=λa w S f s k=>by refine⟨f.defers,v,?_,x,S,by rw[he],s.sel hH,hF.all S w k⟩;have:=f.get t v hv;simp[results,hr,E1,this]
theorem pX{ι:Type}{fn:Func}{val:ι->Value}{Hout:ι->List bD}{post:ι->List bC}{t1 t2:Nat}{v1 v2:Value}(x:ι)(hr:fn.results= #[.tmp t1,.tmp t2])(h1:Γ.get t1=some v1)(h2:Γ.get t2=some v2)(he: .tuple #[v1,v2]=val x)(hH:Sel H (Hout x))(hF:bA F (post x)):
  At β n Γ H F (bodyPost P fn (bKw β val Hout post) .ret):=λa w S f s k=>by refine⟨f.defers,.tuple #[v1,v2],?_,x,S,by rw[he],s.sel hH,hF.all S w k⟩;have b:=f.get t1 v1 h1;have g2:=f.get t2 v2 h2;simp[results,hr,E1,b,g2]
end
section
variable {P : Program} {β : dY} {n : Nat} {Γ : Env} {H : List bD} {F : List bC} {Q : Exit -> Act -> World -> Prop} {K : Act -> World -> Prop} {T : Tab}
theorem bMb{v:Value}{t:TypeId}{sz m:Nat}{cs:List Value}{H':List bD}(hH:bZ H (.row v t sz m cs) H')(h:cs.length=m*sz->(∃A cap,v= .slice A m cap/\(0<m-> ∃g,A=some ⟨g,0,none⟩))->At β n Γ H F K):At β n Γ H F K:=λa w S f s k=>by
 have ho:w.ownsRow 0 t sz v m cs:=s.ok _ hH.mem;refine h ho.1 ?_ a w S f s k
 rcases ho.2 with ⟨e,b⟩|⟨g,cap,c,e,_⟩
 .exact⟨none,0,by rw[e,b],λh=>by omega⟩
 .exact⟨_,cap,e,λ_=>⟨g,rfl⟩⟩
theorem lT.part{b q o:Nat}{cs ds:List Value}(h:lT β H F b q cs)(hd: ∀j u,ds[j]?=some u->cs[o+j]?=some u):lT β H F b (q+o) ds:=λw S s k j u a=>by
 have:=h w S s k (o+j) u (hd j u a)
 rwa[<-C4]at this
theorem at_nilrow{t:TypeId}{sz:Nat}(h:At β n Γ (.row (.slice none 0 0) t sz 0 []::H) F K):At β n Γ H F K:=λa w S f s k=>by
 refine h a w S f ⟨s.kept,λc e=>?_,λc e b hb=>?_,F4.2 ⟨λd _ b hb=>?_,s.sep⟩,s.zb⟩ k
 .rcases F1.1 e with rfl|e
  .exact World.ownsRow_nil _ _ _ _
  .exact s.ok c e
 .rcases F1.1 e with rfl|e
  .simp[bD.blk,Value.ownBlock]at hb
  .exact s.own c e b hb
 .simp[bD.blk,Value.ownBlock]at hb
theorem kY(g:Nat): ∀(vs:List Value) (o:Nat) (w:World),pV (λb=>b=g) w (w.setCells g o vs)
 |[],_,w=>pV.refl _ _
 |v::r,o,w=>by
  have h1:pV (λb=>b=g) w (w.setCell ⟨g,o,none⟩ v):=by refine⟨rfl,rfl,rfl,m9,λb hb a=>?_⟩;simp[World.setCell,E3,Ne.symm a]
  exact h1.trans (kY g r (o+1) _) (λi c=> .inl c)
def lY:List Value->Nat->List Value->List Value
 |xs,_,[]=>xs
 |xs,j,v::r=>lY (xs.set j v) (j+1) r
theorem uQ{base:Nat}{e:TypeId}{size g m cap:Nat}: ∀(vs:List Value) (j:Nat) (w:World) (xs:List Value),w.ownsRow base e size (.slice (some ⟨g,0,none⟩) m cap) m xs->
  (w.setCells g j vs).ownsRow base e size (.slice (some ⟨g,0,none⟩) m cap) m (lY xs j vs)
 |[],_,_,_,h=>h
 |v::r,j,_,_,h=>uQ r (j+1) _ _ (World.ownsRow.stored h j v).1
theorem at_store_row{ops:Array Oper}{rest:List Oper}{o:Oper}(hT:fC P T){t t' g off m cap sz:Nat}{p x:Operand}{v:Value}{vs cs cs':List Value}{i:TI}{H':List bD}(hw:want ops Γ o=some true)(ho:o.op= .store t p x)(hd:o.dst=none)
  (hp:Γ.ev p=some (.pointer (some ⟨g,off,none⟩))) (hx:Γ.ev x=some v) (hH:bZ H (.row (.slice (some ⟨g,0,none⟩) m cap) t' sz m cs) H') (ht:T.get t=some i) (hc:v.cells=vs.toArray) (hs:B1 vs.length i.size=true)
  (h1:vs.all (·.oneCell')=true) (hoff:off+vs.length<=m*sz) (hput:lY cs off vs=cs') (k:At β n Γ (.row (.slice (some ⟨g,0,none⟩) m cap) t' sz m cs'::H') F (wpList P ops Q rest)):At β n Γ H F (wpList P ops Q (o::rest)):=
 gR hw λa w S f s z=>by
  have b:w.ownsRow 0 t' sz (.slice (some ⟨g,0,none⟩) m cap) m cs:=s.ok _ hH.mem
  have d:w.there g off vs.length:=λj q=>by refine⟨?_,World.ownsRow.frozenAt b _⟩;rw[World.ownsRow.cellAt b _ j5,G1 (by rw[b.1];omega)];rfl
  have l:=run_storeCells_cells (P:=P) g off vs 0 w (λj q=>by simpa using (d j q).1) (λj q=>by simpa using (d j q).2) (λu hu=>by simpa using (G0.1 h1) u hu);rw[C5]at l;have r:v.cells.size=i.size:=by rw[hc];simpa using B5 hs
  have hr:(execOp a.eval o).run P w= .ok .skip (w.setCells g off vs):=by unfold execOp;simp only[ho,f.ev hp,f.ev hx,K0,J8,storeVar,J0,J1,J6,hT.size ht,r];simp[hc,l]
  unfold L2;rw[hr,L4,hd];have y:=s.perm hH.perm;refine k _ _ S (f.put_none _) (y.swap (kY g vs off w) rfl rfl ?_) (All.mono (λ_ h=>h) (s.agree (kY g vs off w) (λc hc e=>by subst e;exact(y.own _ (F9 ..) _ rfl).2.2 hc)) z);rw[<-hput];exact uQ vs off w cs b
theorem tZ{w w':World}{row:Option Nat}(h:w.grownBy w' row):pV (λb=>some b=row) w w':=⟨h.os,h.tape,h.output,h.size,λb hb a=>h.block b hb a⟩
theorem St.swap_row{v v':Value}{t:TypeId}{sz m m':Nat}{cs cs':List Value}{S:kZ}{w w':World}(s:St β (.row v t sz m cs::H) S w)(k:pV (λb=>some b=v.ownBlock) w w')(hv:v'.ownBlock=v.ownBlock\/v'.ownBlock=some w.heap.size)(ok:w'.ownsRow 0 t sz v' m' cs'):
  St β (.row v' t sz m' cs'::H) S w':=by
 have a:=F4.1 s.sep;have c:=s.own _ (F9 ..);have f:St β H S w':=s.tail.grow k (λb hb=>(c b hb.symm).2.1) (λd hd b hb e=>a.1 d hd b e.symm hb)
 have g: ∀b,v'.ownBlock=some b->b<w'.heap.size/\(β.M b\/β.w.heap.size<=b)/\ ¬S b:=λb hb=>by
  refine⟨(World.ownsRow.lt ok b hb).2,?_⟩
  rcases hv with hv|hv
  .exact(c b (hv.symm.trans hb)).2
  .rw[hv]at hb;injection hb with hb
   subst hb;exact⟨.inr s.kept.size,λh=>absurd (s.zb _ h).1 (C3 _)⟩
 refine⟨f.kept,λd hd=>?_,λd hd b hb=>?_,F4.2 ⟨λd hd b hb i=>?_,f.sep⟩,f.zb⟩
 .rcases F1.1 hd with rfl|hd
  .exact ok
  .exact f.ok d hd
 .rcases F1.1 hd with rfl|hd
  .exact g b hb
  .exact f.own d hd b hb
 .rcases hv with hv|hv
  .exact a.1 d hd b (hv.symm.trans hb) i
  .have hb:v'.ownBlock=some b:=hb;rw[hv]at hb;injection hb with hb
   subst hb;exact absurd (s.own d (F3 _ hd) _ i).1 (C3 _)
theorem at_append{ops:Array Oper}{rest:List Oper}{o:Oper}{d:Nat}{x y:Operand}{t e:TypeId}{i:TypeInfo}{z:Value}{sz by_ m q c b off:Nat}{v:Value}{cs news:List Value}{H':List bD}(hg:o.guard=none)
  (ho:o.op= .call {callee:= .builtin .append,args:= #[x,y],argTypes:= #[t,t]}) (hd:o.dst=some d) (hn:C2 d n=true) (hu:P.underlying t=some (.slice e)) (hi:P.info? e=some i) (hz:i.zero=some z) (hsize:i.size=sz) (hby:i.bytes=by_) (hzs:z.cells.size=sz) (hsz:0<sz)
  (hx:Γ.ev x=some v) (hH:bZ H (.row v e sz m cs) H') (hy:Γ.ev y=some (.slice (some ⟨b,off,none⟩) q c)) (hl:news.length=q*sz) (hk:lT β H F b off news) (h1: ∀u∈news,u.oneCell'=true) (h63:m+q<=maxLen) (hbytes:(m+q)*by_<=140737488355328)
  (k: ∀v',At β n ((d,v')::Γ) (.row v' e sz (m+q) (cs++news)::H') F (wpList P ops Q rest)):At β n Γ H F (wpList P ops Q (o::rest)):=λa w S f s B=>by have p:w.ownsRow 0 e sz v m cs:=s.ok _ hH.mem;refine wpList_append_own_at w hg x y t ho 0 e i z sz by_ hu hi hz hsize hby hzs hsz v m cs (f.ev hx) p ⟨b,off,none⟩ q c news (f.ev hy) hl (λj u C=>by rw[L7];exact hk w S s B j u C) h1 h63 hbytes (Nat.zero_le _) ?_;intro v' D l g _ r;have A:=s.perm hH.perm;rw[hd];exact k v' _ _ S (f.put m8 _) (A.swap_row (tZ g) r l) (All.mono (λ_ h=>h) (s.agree (tZ g) (λb hb e=>(A.own _ (F9 ..) b e.symm).2.2 hb)) B)
theorem at_build{ops:Array Oper}{rest:List Oper}{o:Oper}{d m:Nat}{t e:TypeId}{parts:Array (Nat×Operand)}{cs:List Value}(hw:want ops Γ o=some true)(ho:o.op= .buildSlice t m parts)(hd:o.dst=some d)(hn:C2 d n=true)
  (hr: ∀a w,Fits n Γ a->(Instr.buildSlice t m (parts.map λ(i,x)=>(i,a.eval x))).run P w= .ok (.slice (some ⟨w.heap.size,0,none⟩) m m) (w.alloc (.cells cs.toArray e)))
  (k: ∀b,At β n ((d,.slice (some ⟨b,0,none⟩) m m)::Γ) (.obj b (.cells cs.toArray e)::H) F (wpList P ops Q rest)):At β n Γ H F (wpList P ops Q (o::rest)):=
 gR hw λa w S f s g=>by
  have c:(execOp a.eval o).run P w= .ok (.value (.slice (some ⟨w.heap.size,0,none⟩) m m)) (w.alloc (.cells cs.toArray e)):=by unfold execOp;simp only[ho];rw[J0,hr a w f];rfl
  unfold L2;rw[c,L3,hd];exact k _ _ _ S (f.put m8 _) (s.alloc _) (All.alloc s g _)
end
section
variable {P : Program} {ops : Array Oper} {md : Region.Mode} {C : World -> Prop} {Q : Exit -> Act -> World -> Prop}
def Nm (K:Act->World->Prop):Exit->Act->World->Prop:=λe a w=>e= .normal/\K a w
theorem Nm.out{K:Act->World->Prop}(h:LetsOut (Nm K)):False:=by obtain⟨_,_,h,_⟩:=h;cases h
def fOp (P:Program)(ops:Array Oper)(i:Nat)(K:Act->World->Prop)(a:Act)(w:World):Prop:= ∀o,ops[i]?=some o->wpList P ops (Nm K) [o] a w
theorem wpNm{o:Oper}{K:Act->World->Prop}{a:Act}{w:World}(h:wpList P ops (Nm K) [o] a w):if I3 o (yielded ops a.tmps)then o.wp P a w K (Nm K)else K (a.put o.dst undef) w:=by
 unfold wpList at h;split
 .rename_i b;simp only[b,if_true]at h
  rcases h with h|⟨_,h⟩
  .exact Oper.wp_mono (λa w h=>h.2) h
  .exact(Nm.out h).elim
 .rename_i b;simp only[b]at h;exact h.2
theorem mB{o:Oper}{K:Act->World->Prop}{a:Act}{w:World}(h:if I3 o (yielded ops a.tmps)then o.wp P a w K (Nm K)else K (a.put o.dst undef) w):wpList P ops (Nm K) [o] a w:=by
 unfold wpList;split
 .rename_i b;simp only[b,if_true]at h;exact .inl (Oper.wp_mono (λa w h=>⟨rfl,h⟩) h)
 .rename_i b;simp only[b]at h;exact⟨rfl,h⟩
theorem qA{o:Oper}{a a':Act}{w:World}{K K':Act->World->Prop}{Q':Exit->Act->World->Prop}(he:execOp a'.eval o=execOp a.eval o)(hK: ∀u w',K (a.put o.dst u) w'->K' (a'.put o.dst u) w')
  (hD: ∀d w',K ({a with defers:=d::a.defers}.put o.dst undef) w'->K' ({a' with defers:=d::a'.defers}.put o.dst undef) w') (h:o.wp P a w K (Nm K)):o.wp P a' w K' Q':=by
 unfold L2 at*;rw[he];generalize (execOp a.eval o).run P w=r at*
 cases r with
 |ok n w'=>
  cases n<;>simp only[L6]at h⊢
  case value u=>exact hK _ _ h
  case skip=>exact hK _ _ h
  case defer d=>exact hD _ _ h
  case enter f args=>
   refine h.mono λe b he=>?_
   cases e with
   |returned v=>exact hK _ _ he
   |panicked c=>exact absurd he.1 m9
   |outgrown=>exact(Nm.out he).elim
  case row row args=>exact h.mono λ_ _ he=>hK _ _ he
 |halt x w'=>
  cases x<;>simp only[L6]at h
  exact absurd h.1 m9
def bCt (P:Program)(md:Region.Mode)(ops:Array Oper)(C:World->Prop)(Q:Exit->Act->World->Prop):Nat->Array Bool->Act->World->Prop
 |0,listed,a,w=>C w/\I4 md ops listed=[]/\Q .normal a w
 |fuel+1,listed,a,w=>C w/\(I4 md ops listed=[]->Q .normal a w)/\ ∀i∈I4 md ops listed,fOp P ops i (bCt P md ops C Q fuel (listed.setIfInBounds i true)) a w
theorem rL: ∀(fuel:Nat) (listed:Array Bool) (a:Act) (w:World),bCt P md ops C Q fuel listed a w->wpAny P md ops Q fuel listed a w
 |0,_,_,_,h=>h.2
 |fuel+1,listed,a,w,h=>by
  refine⟨h.2.1,λi f=>?_⟩;have j:=h.2.2 i f;unfold wpOp;split
  .rename_i ho;obtain⟨_,k,b,_⟩:=mem_ready.1 f;rw[ho]at b;cases b
  .rename_i o ho;have h1:=wpNm (j o ho);split
   .rename_i c;simp only[c,if_true]at h1;exact .inl (qA rfl (λu g e=>rL fuel _ _ _ e) (λd g e=>rL fuel _ _ _ e) h1)
   .rename_i c;simp only[c]at h1;exact rL fuel _ _ _ h1
def Fl (P:Program)(ops:Array Oper)(C:World->Prop)(o:Oper)(v:Value)(a:Act):Prop:=
 (I3 o (yielded ops a.tmps)=true/\ ∀w,C w->(execOp a.eval o).run P w= .ok (.value v) w)\/(I3 o (yielded ops a.tmps)=false/\v=undef)
theorem Fl.of_same{o:Oper}{v:Value}{a a':Act}(hy:Fl P ops C o v a)(he:execOp a'.eval o=execOp a.eval o)
  (hw:I3 o (yielded ops a'.tmps)=I3 o (yielded ops a.tmps)):Fl P ops C o v a':=by unfold Fl at*;rw[he,hw];exact hy
theorem Fl.fOp{i:Nat}{o:Oper}{v:Value}{a:Act}{w:World}(hi:ops[i]?=some o)(hy:Fl P ops C o v a)(hC:C w){K:Act->World->Prop}(h:K (a.put o.dst v) w):fOp P ops i K a w:=λd c=>by
 have:d=o:=Option.some.inj (c.symm.trans hi);subst this;apply mB
 rcases hy with ⟨b,e⟩|⟨b,rfl⟩
 .simp only[b,if_true,L2,e w hC,L6];exact h
 .simp only[b,L8,if_false];exact h
theorem fOp_put{j:Nat}{oi oj:Oper}{v:Value}(hj:ops[j]?=some oj)(hap:oi.apart ops oj=true)
  (hsi: ∀cs b,oi.op≠ .select cs b) (hsj: ∀cs b,oj.op≠ .select cs b) {K:Act->World->Prop} {a:Act} {w:World}
  (hy:Fl P ops C oi v a) (h:fOp P ops j K (a.put oi.dst v) w):fOp P ops j (λa' w'=>Fl P ops C oi v a'/\K (a'.put oi.dst v) w') a w:=λo ho=>by
 have:o=oj:=Option.some.inj (ho.symm.trans hj);subst this;obtain⟨h1,h2,h3⟩:=Oper.apart_spec hap
 have keep: ∀(a:Act),Fl P ops C oi v a-> ∀u,Fl P ops C oi v (a.put o.dst u):=λa hy u=>
  hy.of_same (execOp_put oi hsi a o.dst u h3) (wanted_put oi a o.dst u h3)
 have h:=wpNm (h o ho);rw[wanted_put o a oi.dst v h1]at h;apply mB;split
 .rename_i c;simp only[c,if_true]at h;refine qA (execOp_put o hsj a oi.dst v h1).symm (λu w' e=>⟨keep a hy u,by rw[<-Act.put_comm a v u h2];exact e⟩) (λd w' e=>?_) h;refine⟨keep {a with defers:=d::a.defers} hy undef,?_⟩;rw[<-Act.put_comm {a with defers:=d::a.defers} v undef h2]
  have:({a.put oi.dst v with defers:=d::(a.put oi.dst v).defers}:Act)=({a with defers:=d::a.defers}:Act).put oi.dst v:=by cases oi.dst<;>rfl
  rw[<-this];exact e
 .rename_i c;simp only[c]at h;exact⟨keep a hy _,by rw[<-Act.put_comm a v undef h2];exact h⟩
theorem gL{i:Nat}{K K':Act->World->Prop}{a:Act}{w:World}(hk: ∀a w,K a w->K' a w)(h:fOp P ops i K a w):fOp P ops i K' a w:=λo ho=>by
 have h:=wpNm (h o ho);apply mB;split
 .rename_i b;simp only[b,if_true]at h;exact qA rfl (λu e c=>hk _ _ c) (λd e c=>hk _ _ c) h
 .rename_i b;simp only[b]at h;exact hk _ _ h
theorem xS{i:Nat}{oi:Oper}{v:Value}(hi:ops[i]?=some oi)(hsel: ∀(j:Nat) (o:Oper) cs b,ops[j]?=some o->o.op≠ .select cs b):
  ∀(fuel:Nat) (listed:Array Bool) (a:Act) (w:World),
   (∀j oj,ops[j]?=some oj->j≠i->listed.getD j true=false->(∀e∈oj.after,I5 md e=true->e.on≠i)->oi.apart ops oj=true)->
   i∈I4 md ops listed->Fl P ops C oi v a->
   bCt P md ops C Q fuel (listed.setIfInBounds i true) (a.put oi.dst v) w->bCt P md ops C Q (fuel+1) listed a w:=by
 intro fuel
 induction fuel with
 |zero=>
  intro listed a w _ hr r H;refine⟨H.1,λh=>z8,λj s=>?_⟩
  by_cases c:j=i
  .subst c;exact r.fOp hi H.1 H
  .have:=ready_mono s c;rw[H.2.1]at this;cases this
 |succ fuel ih=>
  intro listed a w d hr r H;refine⟨H.1,λh=>z8,λj s=>?_⟩
  by_cases c:j=i
  .subst c;exact r.fOp hi H.1 H
  .have h1:=H.2.2 j (ready_mono s c);obtain⟨g,oj,l,q⟩:=mem_ready.1 s
   have n: ∀e∈oj.after,I5 md e=true->e.on≠i:=λe he hb x=>by
    have h1:=q e he hb;have h0:=(mem_ready.1 hr).1;rw[x]at h1
    rcases A8 i listed.size with y|y
    .simp[y]at h0 h1;rw[h0]at h1;cases h1
    .simp[E0 y]at h1
   have h2:=fOp_put l (d j oj l c g n) (λcs b=>hsel i oi cs b hi) (λcs b=>hsel j oj cs b l) r h1;have f: ∀k ok,ops[k]?=some ok->k≠i->(listed.setIfInBounds j true).getD k true=false->
     (∀e∈ok.after,I5 md e=true->e.on≠i)->oi.apart ops ok=true:=λk ok A u m t=>by
    refine d k ok A u ?_ t
    by_cases p:j=k
    .subst p;exact g
    .rw[getD_set_ne true p]at m;exact m
   refine gL (λB z h3=>ih (listed.setIfInBounds j true) B z f (ready_mono hr (Ne.symm c)) h3.1 ?_) h2;rw[E4 _ _ c];exact h3.2
def qG (P:Program)(ops:Array Oper)(C:World->Prop)(Q:Exit->Act->World->Prop):List (Bool×Nat)->Act->World->Prop
 |[],a,w=>Q .normal a w
 |(true,k)::r,a,w=> ∃o v,ops[k]?=some o/\Fl P ops C o v a/\qG P ops C Q r (a.put o.dst v) w
 |(false,k)::r,a,w=>fOp P ops k (λa w=>C w/\qG P ops C Q r a w) a w
def mixB (md:Region.Mode)(ops:Array Oper):List (Bool×Nat)->Array Bool->Bool
 |[],listed=>(I4 md ops listed).isEmpty
 |(true,k)::r,listed=>(I4 md ops listed).contains k&&I6 md ops listed k&&mixB md ops r (listed.setIfInBounds k true)
 |(false,k)::r,listed=>(I4 md ops listed==[k])&&mixB md ops r (listed.setIfInBounds k true)
theorem bDv(hs:I7 ops=true): ∀(l:List (Bool×Nat)) (listed:Array Bool) (a:Act) (w:World),mixB md ops l listed=true->C w->qG P ops C Q l a w->bCt P md ops C Q l.length listed a w
 |[],listed,a,w,hB,hC,h=>⟨hC,by simpa[mixB]using hB,h⟩
 |(true,k)::r,listed,a,w,hB,hC,h=>by
  simp only[mixB,L9]at hB;obtain⟨o,v,ho,d,e⟩:=h;exact xS ho (I8 hs) r.length listed a w (I9 ho hB.1.2) (by simpa using hB.1.1) d (bDv hs r _ _ _ hB.2 hC e)
 |(false,k)::r,listed,a,w,hB,hC,h=>by
  simp only[mixB,L9,beq_iff_eq]at hB;refine⟨hC,λh0=>aa5,λi b=>?_⟩;rw[hB.1]at b;have:i=k:=by simpa using b
  subst this;exact gL (λg f c=>bDv hs r _ _ _ hB.2 c.1 c.2) h
def mixOk (l:List (Bool×Nat))(ops:Array Oper):Bool:=I7 ops&&B1 l.length ops.size&&mixB .any ops l (E5 ops.size false)
end
section
variable {P : Program} {β : dY} {n : Nat} {Γ : Env} {H : List bD} {F : List bC} {Q : Exit -> Act -> World -> Prop} {K : Act -> World -> Prop} {Hk : List bD} {F0 : List bC} {ops : Array Oper}
theorem StF.sel(hH:Sel H Hk)(hF:bA F F0){w:World}(h:StF β H F w):StF β Hk F0 w:=by obtain⟨S,s,k⟩:=h;exact⟨S,s.sel hH,hF.all S w k⟩
theorem dK{id:Nat}{l:List Oper}(Hk:List bD)(F0:List bC)(od:List (Bool×Nat))(hm:P.follows .mixedOrders=true)(hB:mixOk od l.toArray=true)(hH:Sel H Hk)(hF:bA F F0)
  (h:At β n Γ H F (qG P l.toArray (StF β Hk F0) Q od)):At β n Γ H F ((E6 id l.toArray true).wp P Q):=λa w S f s k=>by
 simp only[mixOk,L9]at hB;have e:=StF.drew ⟨S,s,k⟩;obtain⟨d,b,c⟩:=e;refine wp_region_any hm (rL (C:=StF β Hk F0) _ _ _ _ ?_);have:=bDv (P:=P) (md:= .any) (C:=StF β Hk F0) (Q:=Q) hB.1.1 od (E5 l.toArray.size false) a _ hB.2 (StF.sel hH hF ⟨d,b,c⟩) (h a _ d f b c)
 rwa[B5 hB.1.2]at this
def Sti (P:Program)(β:dY)(n:Nat)(Γ:Env)(H:List bD)(F:List bC)(o:Oper)(v:Value):Prop:= ∀a w S,Fits n Γ a->St β H S w->All F S w->(execOp a.eval o).run P w= .ok (.value v) w
theorem Sti.det{o:Oper}{v:Value}(h:Sti P β n Γ H F o v):Det P β n Γ H F o v:=det_of h
theorem jI{rest:List Oper}{o:Oper}{d:Nat}{v:Value}(hw:want ops Γ o=some true)(hd:o.dst=some d)(hn:C2 d n=true)(h:Sti P β n Γ H F o v)
  (k:At β n ((d,v)::Γ) H F (wpList P ops Q rest)):At β n Γ H F (wpList P ops Q (o::rest)):=at_det hw hd hn h.det k
theorem atm_nil{C:World->Prop}(h:At β n Γ H F (Q .normal)):At β n Γ H F (qG P ops C Q []):=h
theorem bFl{r:List (Bool×Nat)}{o:Oper}{k d:Nat}{v:Value}(hk:ops[k]?=some o)(hw:want ops Γ o=some true)(hd:o.dst=some d)(hn:C2 d n=true)(h:Sti P β n Γ Hk F0 o v)
  (K:At β n ((d,v)::Γ) H F (qG P ops (StF β Hk F0) Q r)):At β n Γ H F (qG P ops (StF β Hk F0) Q ((true,k)::r)):=λa w S f s g=>by refine⟨o,v,hk,.inl ⟨f.want hw,λb ⟨i,c,e⟩=>h a b i f c e⟩,?_⟩;rw[hd];exact K _ _ S (f.put m8 v) s g
theorem stM{r:List (Bool×Nat)}{o:Oper}{k d:Nat}{v:Value}(hk:ops[k]?=some o)(h:Sti P β n Γ Hk F0 o v)(K:At β n ((d,v)::Γ) H F (qG P ops (StF β Hk F0) Q r))(hw:want ops Γ o=some true:=by exact rfl)(hd:o.dst=some d:=by exact rfl)(hn:Nat.blt d n=true:=by exact rfl):At β n Γ H F (qG P ops (StF β Hk F0) Q ((true,k)::r)):=bFl hk hw hd hn h K
theorem puM{r:List (Bool×Nat)}{o:Oper}{k d:Nat}{v:Value}{T:Tab}(hT:fC P T)(K:At β n ((d,v)::Γ) H F (qG P ops (StF β Hk F0) Q r))(hk:ops[k]?=some o:=by exact rfl)(hw:want ops Γ o=some true:=by exact rfl)(hd:o.dst=some d:=by exact rfl)(hn:Nat.blt d n=true:=by exact rfl)(h:pD T Γ o.op=some v:=by exact rfl):At β n Γ H F (qG P ops (StF β Hk F0) Q ((true,k)::r)):=bFl hk hw hd hn (λ_ w _ f _ _=>bDw hT f h w) K
theorem atm_skipped{r:List (Bool×Nat)}{o:Oper}{k d:Nat}{C:World->Prop}(hk:ops[k]?=some o)(hw:want ops Γ o=some false)(hd:o.dst=some d)(hn:C2 d n=true)
  (K:At β n ((d,undef)::Γ) H F (qG P ops C Q r)):At β n Γ H F (qG P ops C Q ((true,k)::r)):=λa w S f s b=>by refine⟨o,undef,hk,.inr ⟨f.want hw,rfl⟩,?_⟩;rw[hd];exact K _ _ S (f.put m8 undef) s b
theorem atm_op{r:List (Bool×Nat)}{o:Oper}{k:Nat}{C:World->Prop}(hk:ops[k]?=some o)(h:At β n Γ H F (wpList P ops (Nm λa w=>C w/\qG P ops C Q r a w) [o])):At β n Γ H F (qG P ops C Q ((false,k)::r)):=λa w S f s d c b=>by have:c=o:=Option.some.inj (b.symm.trans hk);subst this;exact h a w S f s d
theorem kP{r:List (Bool×Nat)}(hH:Sel H Hk)(hF:bA F F0)(h:At β n Γ H F (qG P ops (StF β Hk F0) Q r)):At β n Γ H F (wpList P ops (Nm λa w=>StF β Hk F0 w/\qG P ops (StF β Hk F0) Q r a w) []):=λa w S f s k=>
 ⟨rfl,StF.sel hH hF ⟨S,s,k⟩,h a w S f s k⟩
end
structure Flat (α:Type) where
 size:Nat
 cells:α->List Value
 len: ∀x,(cells x).length=size
 one: ∀x,∀u∈cells x,u.oneCell'=true
 pos:0<size
section
variable {α : Type} (E : Flat α)
def Flat.all(xs:List α):List Value:=xs.flatMap E.cells
theorem Flat.all_length(xs:List α):(E.all xs).length=xs.length*E.size:=by
 induction xs with
 |nil=>simp[Flat.all]
 |cons x r ih=>
  have:E.all (x::r)=E.cells x++E.all r:=rfl;rw[this,G4,ih,E.len,G5,C9,D0,Nat.add_comm]
theorem Flat.all_append(xs ys:List α):E.all (xs++ys)=E.all xs++E.all ys:=by simp[Flat.all]
theorem Flat.all_one{xs:List α}: ∀u∈E.all xs,u.oneCell'=true:=λu hu=>by obtain⟨x,_,h⟩:=List.mem_flatMap.1 hu;exact E.one x u h
theorem Flat.all_get{xs:List α}{k:Nat}{x:α}(h:xs[k]?=some x){j:Nat}{u:Value}(hj:(E.cells x)[j]?=some u):(E.all xs)[k*E.size+j]?=some u:=by
 induction xs generalizing k with
 |nil=>simp at h
 |cons y r ih=>
  have e:E.all (y::r)=E.cells y++E.all r:=rfl
  cases k with
  |zero=>
   simp at h;subst h;have hlt:=(G3.1 hj).1;rw[e,Nat.zero_mul,D1,G6 hlt];exact hj
  |succ k=>
   rw[e,List.getElem?_append_right (by rw[E.len,C9,D0];omega),E.len];rw[show(k+1)*E.size+j-E.size=k*E.size+j from by rw[C9,D0];omega];exact ih ab6
theorem bDc: ∀(vs xs:List Value) (j:Nat),j+vs.length<=xs.length->lY xs j vs=xs.take j++vs++xs.drop (j+vs.length)
 |[],xs,j,_=>by simp[lY]
 |v::r,xs,j,h=>by
  simp only[G5]at h;rw[lY,bDc r (xs.set j v) (j+1) o6]
  have h1:(xs.set j v).take (j+1)=xs.take j++[v]:=by rw[G7,G8 j5,G9 (B8 _)];rfl
  have h2:(xs.set j v).drop (j+1+r.length)=xs.drop (j+(r.length+1)):=by
   rw[H3 j5]
   congr 1
   omega
  rw[h1,h2];simp
theorem Flat.all_set{xs:List α}{k fo:Nat}{x x':α}{vs:List Value}(h:xs[k]?=some x)(hp:tC (E.cells x) fo vs=some (E.cells x')):lY (E.all xs) (k*E.size+fo) vs=E.all (xs.set k x'):=by
 obtain⟨h1,h2⟩:=rJ hp;rw[E.len]at h1;have e:k<xs.length:=(G3.1 h).1
 have b:xs=xs.take k++x::xs.drop (k+1):=by have:x=xs[k]:=(G3.1 h).2.symm;rw[this];simp
 have a:xs.set k x'=xs.take k++x'::xs.drop (k+1):=by rw[List.set_eq_take_append_cons_drop,if_pos e]
 have c:(xs.take k).length=k:=by simp;omega
 have i:E.all xs=E.all (xs.take k)++(E.cells x++E.all (xs.drop (k+1))):=(congrArg E.all b).trans (E.all_append _ _);have d:(E.all (xs.take k)).length=k*E.size:=by rw[E.all_length,c]
 rw[bDc _ _ _ (by rw[E.all_length];have:(k+1)*E.size<=xs.length*E.size:=D2 _ e;rw[C9,D0]at this;omega)];rw[a,E.all_append];show _=E.all (xs.take k)++(E.cells x'++E.all (xs.drop (k+1)));rw[h2,i];generalize E.all (xs.take k)=A at*;generalize E.all (xs.drop (k+1))=B at*
 have g:(A++(E.cells x++B)).take (k*E.size+fo)=A++(E.cells x).take fo:=by rw[<-d,List.take_append,List.take_of_length_le j5,show A.length+fo-A.length=fo from by omega,List.take_append_of_le_length (by rw[E.len];omega)]
 have f:(A++(E.cells x++B)).drop (k*E.size+fo+vs.length)=(E.cells x).drop (fo+vs.length)++B:=by rw[<-d,C4,List.drop_append,List.drop_of_length_le j5,show A.length+(fo+vs.length)-A.length=fo+vs.length from by omega,List.drop_append_of_le_length (by rw[E.len];omega)];simp
 rw[g,f];simp
end
def bRd:Option Addr->Nat
 |some a=>a.block
 |none=>0
def bNg:Option Addr->Nat
 |some a=>a.off
 |none=>0
section
variable {P : Program} {β : dY} {n : Nat} {Γ : Env} {H : List bD} {F : List bC} {Q : Exit -> Act -> World -> Prop} {K : Act -> World -> Prop} {T : Tab} {α : Type} {E : Flat α}
def Flat.row(E:Flat α)(v:Value)(t:TypeId)(xs:List α):bD:= .row v t E.size xs.length (E.all xs)
def Flat.sl(E:Flat α)(v:Value)(xs:List α):bC:=bC.sl (Enc.flat E.size E.cells) v xs
def cF (β:dY)(H:List bD)(F:List bC)(E:Flat α)(A:Option Addr)(xs:List α):Prop:= ∀w S,St β H S w->All F S w-> ∀k x,xs[k]?=some x->(∃b o,A=some ⟨b,o,none⟩)/\
 ∀j u,(E.cells x)[j]?=some u->w.cell? ⟨bRd A,bNg A+k*E.size+j,none⟩=some u
theorem bH{A:Option Addr}{l c:Nat}{xs:List α}(h:Has F (E.sl (.slice A l c) xs)):cF β H F E A xs:=λw S _ k i x d=>by
 obtain⟨p,m,e,h⟩:=h S w k;obtain⟨b,o,j,g,n,f,a⟩:=h i x d;injection e with e
 subst e;subst g;have a:j=E.cells x:=a;subst a;exact⟨⟨b,o,rfl⟩,f⟩
theorem bN{A:Option Addr}{t:TypeId}{m cap:Nat}{xs:List α}{H':List bD}(hH:bZ H (E.row (.slice A m cap) t xs) H'):cF β H F E A xs:=λw S s _ i x c=>by
 have ho:w.ownsRow 0 t E.size (.slice A m cap) xs.length (E.all xs):=s.ok _ hH.mem;have hlt:i<xs.length:=(G3.1 c).1
 rcases ho.2 with ⟨e,h⟩|⟨g,d,f,e,_⟩
 .omega
 .injection e with e1 e2 e3
  subst e1 e2;refine⟨⟨g,0,rfl⟩,λj u b=>?_⟩;have a:=(G3.1 b).1;rw[E.len]at a;show w.cell? ⟨g,0+i*E.size+j,none⟩=some u;rw[D1,World.ownsRow.cellAt ho _ (by have:(i+1)*E.size<=xs.length*E.size:=D2 _ hlt;rw[C9,D0]at this;omega)];exact E.all_get c b
theorem gD(hT:fC P T){o:Oper}{v:Value}(h:pD T Γ o.op=some v):Sti P β n Γ H F o v:=λ_ w _ f _ _=>bDw hT f h w
theorem bE(hT:fC P T){o:Oper}{t e l c k:Nat}{x i:Operand}{kk:IntKind}{z:Int}{sz:Nat}{de:TD}{A:Option Addr}{xs:List α}(hr:cF β H F E A xs)(ho:o.op= .indexAddr t x i)(hx:Γ.ev x=some (.slice A l c))(hi:Γ.ev i=some (.int kk z))
  (ht:T.get t=some ⟨.slice e,sz⟩) (he:T.get e=some ⟨de,E.size⟩) (hl:l=xs.length) (hz:z=(k:Nat)) (hk:k<xs.length):Sti P β n Γ H F o (.pointer (some ⟨bRd A,bNg A+k*E.size,none⟩)):=λa w S f s h=>by
 obtain⟨⟨b,d,rfl⟩,_⟩:=hr w S s h k _ (G1 hk);subst hz;subst hl;have g:(⟨b,d,none⟩:Addr).add (k*E.size)=⟨b,d+k*E.size,none⟩:=L7 _ _ _
 have h0:(0:Int)<=(k:Int)/\(k:Int)<(xs.length:Int):=⟨j5,j5⟩
 unfold execOp;simp only[ho,f.ev hx,f.ev hi,K1,asIntOf,J0,J1,J6,hT.slice ht w,h0,and_self,if_true,hT.size he,M4,g];rfl
theorem cF.knows{A:Option Addr}{xs:List α}(hr:cF β H F E A xs){k:Nat}{x:α}(hk:xs[k]?=some x)(fo:Nat):lT β H F (bRd A) (bNg A+k*E.size+fo) ((E.cells x).drop fo):=λw S s b j u a=>by
 have:=(hr w S s b k x hk).2 (fo+j) u (by simpa using a)
 rwa[<-C4]at this
theorem bI(hT:fC P T){o:Oper}{t b q:Nat}{p:Operand}{cs:List Value}{i:TI}{v:Value}(hk:lT β H F b q cs)(ho:o.op= .load t p)(hp:Γ.ev p=some (.pointer (some ⟨b,q,none⟩)))(ht:T.get t=some i)(ha:aggD i.desc=false)
  (hv:cs[0]?=some v):Sti P β n Γ H F o v:=λa w S f s k=>by have c:=hk w S s k 0 v hv;rw[C5]at c;unfold execOp;simp only[ho,f.ev hp,Instr.loadAt,J8,loadVar,J0,J1,J6,hT.agg ht,ha,L8,if_false,run_load,c]
theorem f7(hT:fC P T){o:Oper}{t b q:Nat}{p:Operand}{cs:List Value}{i:TI}{v:Value}(hk:lT β H F b q cs)(ho:o.op= .load t p:=by exact rfl)(hp:Γ.ev p=some (.pointer (some ⟨b,q,none⟩)):=by exact rfl)(ht:T.get t=some i:=by exact rfl)(ha:aggD i.desc=false:=by exact rfl)(hv:cs[0]?=some v:=by exact rfl):Sti P β n Γ H F o v:=bI hT hk ho hp ht ha hv
theorem iC(hT:fC P T){o:Oper}{t b q:Nat}{p:Operand}{cs l:List Value}{i:TI}(hk:lT β H F b q cs)(ho:o.op= .load t p)(hp:Γ.ev p=some (.pointer (some ⟨b,q,none⟩)))(ht:T.get t=some i)(ha:aggD i.desc=true)
  (hv:cut cs 0 i.size=some l):Sti P β n Γ H F o (.agg l.toArray):=λa w S f s k=>by obtain⟨h1,h2,h3⟩:=zG hv;have hl:=run_loadCells_list (P:=P) w ⟨b,q,none⟩ l (λj u c=>by rw[L7];exact hk w S s k j u (by simpa using h3 j u c));rw[h2]at hl;unfold execOp;simp only[ho,f.ev hp,Instr.loadAt,J8,loadVar,J0,J1,J6,hT.agg ht,ha,if_true,hT.size ht,hl]
theorem cL{t:TypeId}(E:Flat α)(h:At β n Γ (E.row (.slice none 0 0) t []::H) F K):At β n Γ H F K:=at_nilrow (t:=t) (sz:=E.size) h
theorem at_rowv{v:Value}{t:TypeId}{xs:List α}{H':List bD}(hH:bZ H (E.row v t xs) H')(h: ∀A cap,v= .slice A xs.length cap->At β n Γ H F K):At β n Γ H F K:=bMb hH λ_ ⟨A,cap,e,_⟩=>h A cap e
theorem bV{ops:Array Oper}{rest:List Oper}{o:Oper}(hT:fC P T){t t' k fo m cap:Nat}{p x:Operand}{v:Value}{vs:List Value}{i:TI}{A:Option Addr}{xs:List α}{y y':α}{H':List bD}(hH:bZ H (E.row (.slice A m cap) t' xs) H')(hw:want ops Γ o=some true)(ho:o.op= .store t p x)(hd:o.dst=none)
  (hp:Γ.ev p=some (.pointer (some ⟨bRd A,bNg A+k*E.size+fo,none⟩))) (hx:Γ.ev x=some v) (ht:T.get t=some i) (hc:v.cells=vs.toArray) (hs:B1 vs.length i.size=true)
  (h1:vs.all (·.oneCell')=true) (hk:xs[k]?=some y) (hput:tC (E.cells y) fo vs=some (E.cells y')) (K:At β n Γ (E.row (.slice A m cap) t' (xs.set k y')::H') F (wpList P ops Q rest)):At β n Γ H F (wpList P ops Q (o::rest)):=by
 have hlt:k<xs.length:=(G3.1 hk).1;refine bMb hH λ_ ⟨f,c,e,d⟩=>?_;injection e with e1 e2 e3
 subst e1 e2 e3;obtain⟨g,rfl⟩:=d j5;have hb:=(rJ hput).1;rw[E.len]at hb;have a:(k+1)*E.size<=xs.length*E.size:=D2 _ hlt;rw[C9,D0]at a;refine at_store_row hT (off:=k*E.size+fo) hw ho hd (by rw[hp];show _=some (Value.pointer (some ⟨g,_,none⟩));simp[bRd,bNg]) hx (t':=t') (m:=xs.length) (cap:=cap) (sz:=E.size) hH ht hc hs h1 j5 (E.all_set hk hput) ?_;have b:=K;unfold Flat.row at b;rw[List.length_set]at b;exact b
theorem i6{ops:Array Oper}{rest:List Oper}{o:Oper}(hT:fC P T){t t' k fo m cap:Nat}{p x:Operand}{v:Value}{vs:List Value}{i:TI}{A:Option Addr}{xs:List α}{y y':α}{H':List bD}(hH:bZ H (E.row (.slice A m cap) t' xs) H')(hk:xs[k]?=some y)(K:At β n Γ (E.row (.slice A m cap) t' (xs.set k y')::H') F (wpList P ops Q rest))(hw:want ops Γ o=some true:=by exact rfl)(ho:o.op= .store t p x:=by exact rfl)(hd:o.dst=none:=by exact rfl)(hp:Γ.ev p=some (.pointer (some ⟨bRd A,bNg A+k*E.size+fo,none⟩)):=by exact rfl)(hx:Γ.ev x=some v:=by exact rfl)(ht:T.get t=some i:=by exact rfl)(hc:v.cells=vs.toArray:=by exact rfl)(hs:Nat.beq vs.length i.size=true:=by exact rfl)(h1:vs.all (·.oneCell')=true:=by exact rfl)(hput:tC (E.cells y) fo vs=some (E.cells y'):=by exact rfl):At β n Γ H F (wpList P ops Q (o::rest)):=bV hT hH hw ho hd hp hx ht hc hs h1 hk hput K
theorem yO{ops:Array Oper}{rest:List Oper}{o:Oper}{d:Nat}{x y:Operand}{t e:TypeId}{i:TypeInfo}{z:Value}{by_ c q:Nat}{v:Value}{A:Option Addr}{xs ys:List α}{H':List bD}(hH:bZ H (E.row v e xs) H')(hr:cF β H F E A ys)(hg:o.guard=none)
  (ho:o.op= .call {callee:= .builtin .append,args:= #[x,y],argTypes:= #[t,t]}) (hd:o.dst=some d) (hn:C2 d n=true) (hu:P.underlying t=some (.slice e)) (hi:P.info? e=some i) (hz:i.zero=some z) (hsize:i.size=E.size) (hby:i.bytes=by_) (hzs:z.cells.size=E.size)
  (hx:Γ.ev x=some v) (hy:Γ.ev y=some (.slice A q c)) (hq:q=ys.length) (hne:0<ys.length) (hbytes:(xs.length+ys.length)*by_<=140737488355328) (hpos:0<by_)
  (k: ∀A' cap',At β n ((d,.slice A' (xs++ys).length cap')::Γ) (E.row (.slice A' (xs++ys).length cap') e (xs++ys)::H') F (wpList P ops Q rest)):At β n Γ H F (wpList P ops Q (o::rest)):=λa w S f s m=>by
 obtain⟨⟨b,B,rfl⟩,_⟩:=hr w S s m 0 _ (G1 hne);subst hq
 have p:xs.length+ys.length<=maxLen:=by have:xs.length+ys.length<=(xs.length+ys.length)*by_:=Nat.le_mul_of_pos_right _ hpos;simp[maxLen];omega
 refine at_append hg ho hd hn hu hi hz hsize hby hzs E.pos hx hH hy (news:=E.all ys) (E.all_length ys) (λw S s m j u r=>?_) E.all_one p hbytes (λG=>?_) a w S f s m
 .have hlt:=(G3.1 r).1;rw[E.all_length]at hlt;have D:j/E.size<ys.length:=Nat.div_lt_of_lt_mul (by rwa[Nat.mul_comm]at hlt);have C:j%E.size<E.size:=Nat.mod_lt _ E.pos;have g:=G1 D;have h:=G1 (l:=E.cells ys[j/E.size]) (i:=j%E.size) (by rw[E.len];exact C);have e:j/E.size*E.size+j%E.size=j:=by rw[Nat.mul_comm];exact Nat.div_add_mod j E.size
  have h1:=(hr w S s m _ _ g).2 _ _ h;have h2:=E.all_get g h;rw[e,r]at h2;injection h2 with h2
  have h3:=h1.trans (congrArg some h2.symm);rw[C4,e]at h3;exact h3
 .have I:=k;refine bMb (H:=_::H') .head λ_ ⟨A',cap',e,_⟩=>?_;subst e;have:=k A' cap';unfold Flat.row at this;rw[E.all_append,G4]at this;exact this
end
section
variable {P : Program} {β : dY} {n : Nat} {Γ : Env} {H : List bD} {F : List bC} {Q : Exit -> Act -> World -> Prop} {K : Act -> World -> Prop} {T : Tab} {α : Type} {E : Flat α}
theorem bJ{f:FuncId}{fn:Func}(hf:P.funcs[f]?=some fn)(hn:(fn.name== "runtime.NumGoroutine")=false)(hb:fn.body.isNone=false)(args:Array Value)(w:World):(callFunc f args).run P w= .ok (.enter f args) w:=by have a:(program:Sem Program).run P w= .ok P w:=rfl;unfold callFunc;rw[J0,a,J6,hf];simp only[hn,hb,L8,if_false,J1]
theorem bL{β:dY}{n:Nat}{Γ:Env}{H:List bD}{F:List bC}{Q:Exit->Act->World->Prop}{fn:Func}{ι:Type}{ops:Array Oper}{rest:List Oper}{o:Oper}{d:Nat}{f:FuncId}{ars:Array Operand}{ts:Array TypeId}{vs:List Value}{Hin H2:List bD}{Pre:List bC}{val:ι->Value}{Hout:ι->List bD}{post:ι->List bC}(hf:P.funcs[f]?=some fn)(hs:cJ P f vs Hin Pre val Hout post)(ho:o.op= .call ⟨.value (.func f),ars,ts⟩)(hv:Γ.evs ars.toList=some vs)(hH:Split H Hin H2)(hF:bA F Pre)(k: ∀x,At β n ((d,val x)::Γ) (Hout x++H2) (post x++F) (wpList P ops Q rest))(hw:want ops Γ o=some true:=by exact rfl)(hd:o.dst=some d:=by exact rfl)(hn:Nat.blt d n=true:=by exact rfl)(h1:(fn.name== "runtime.NumGoroutine")=false:=by exact rfl)(h2:fn.body.isNone=false:=by exact rfl):At β n Γ H F (wpList P ops Q (o::rest)):=at_call (bJ hf h1 h2) hs hw ho hd hn hv hH hF k
theorem gP{v:Value}{t:TypeId}{xs:List α}{H':List bD}(hH:bZ H (E.row v t xs) H')(h:At β n Γ H' (E.sl v xs::F) K):At β n Γ H F K:=λa w S f s k=>by
 have e:=s.perm hH.perm;have l:w.ownsRow 0 t E.size v xs.length (E.all xs):=e.ok _ (F9 ..);have d:=F4.1 e.sep;have i:=e.own _ (F9 ..);have g:All F (λb=>S b\/v.ownBlock=some b) w:=All.mono (λ_ h=> .inl h) (λ_ _=>rfl) k;refine h a w (λb=>S b\/v.ownBlock=some b) f ⟨e.kept,λc j=>e.ok c (F3 _ j),λc j b hb=>?_,d.2,λb hb=>?_⟩ (All.cons ?_ g)
 .obtain⟨h1,h2,h3⟩:=e.own c (F3 _ j) b hb;refine⟨h1,h2,λh=>?_⟩
  rcases h with h|h
  .exact h3 h
  .exact d.1 c j b h hb
 .rcases hb with hb|hb
  .exact e.zb b hb
  .obtain⟨h1,h2,_⟩:=i b hb;exact⟨h1,.inr h2⟩
 .exact row_slice l λb hb=> .inr hb
where
 row_slice {v:Value} {t:TypeId} {xs:List α} {S:kZ} {w:World} (hok:w.ownsRow 0 t E.size v xs.length (E.all xs)) (hS: ∀b,v.ownBlock=some b->S b):(E.sl v xs).p S w:=by
  rcases hok.2 with ⟨e,e0⟩|⟨g,cap,cur,e,_⟩
  .have:xs=[]:=List.eq_nil_of_length_eq_zero e0;subst this;exact⟨none,0,e,λk x hk=>by simp at hk⟩
  .subst e;refine⟨_,cap,rfl,λk x hk=>⟨g,0,E.cells x,rfl,hS g rfl,λj u hj=>?_,rfl⟩⟩;have hlt:k<xs.length:=(G3.1 hk).1;have hj':=(G3.1 hj).1;rw[E.len]at hj';show w.cell? ⟨g,0+k*E.size+j,none⟩=some u;rw[D1,World.ownsRow.cellAt hok _ (by have:(k+1)*E.size<=xs.length*E.size:=D2 _ hlt;rw[C9,D0]at this;omega)];exact E.all_get hk hj
def yP (L:List bD)(G:List bC):Prop:= ∀S w,(∀c∈L,c.ok w)->(∀c∈L,∀b,c.blk=some b->S b)->All G S w
theorem iF:yP [] []:=λ_ _ _ _ g hg=>by simp at hg
theorem nR{v:Value}{t:TypeId}{xs:List α}{L:List bD}{G:List bC}(h:yP L G):yP (E.row v t xs::L) (E.sl v xs::G):=λS w a e=>
 All.cons (gP.row_slice (a _ (F9 ..)) λb hb=>e _ (F9 ..) b hb) (h S w (λc d=>a c (F3 _ d)) λc d=>e c (F3 _ d))
theorem St.lend{Hin L H2:List bD}{S:kZ}{w:World}(s:St β (Hin++(L++H2)) S w):St ⟨w,mR Hin,λb=>S b\/mR L b⟩ Hin (λb=>S b\/mR L b) w where
 kept:=pV.refl _ _
 ok:=λc e=>s.ok c (F5 _ e)
 own:=λc e b hb=>⟨(s.own c (F5 _ e) b hb).1,.inl ⟨c,e,hb⟩,λh=>by
  rcases h with h|⟨d,hd,a⟩
  .exact(s.own c (F5 _ e) b hb).2.2 h
  .exact(F6.1 s.sep).2.2 c e d (F5 _ hd) b hb a⟩
 sep:=(F6.1 s.sep).1
 zb:=λb hb=>⟨by
  rcases hb with hb|⟨d,hd,a⟩
  .exact(s.zb b hb).1
  .exact(s.own d (G2 _ (F5 _ hd)) b a).1,.inl hb⟩
theorem St.leave'{Hin Hout H1:List bD}{S S' Z:kZ}{w w':World}(s:St β (Hin++H1) S w)(s':St ⟨w,mR Hin,Z⟩ Hout S' w'):St β (Hout++H1) S w':=by
 have sp:=F6.1 s.sep;have f: ∀b,mR Hin b->b<w.heap.size/\(β.M b\/β.w.heap.size<=b)/\ ¬S b:=λb ⟨c,a,hb⟩=>s.own c (F5 _ a) b hb
 have h2: ∀c∈H1,∀b,c.blk=some b->b<w.heap.size/\(β.M b\/β.w.heap.size<=b)/\ ¬S b/\ ¬mR Hin b:=λc a b hb=>by obtain⟨h1,h2,h3⟩:=s.own c (G2 _ a) b hb;exact⟨h1,h2,h3,λ⟨d,hd,g⟩=>sp.2.2 d hd c a b g hb⟩
 refine⟨s.kept.trans s'.kept (λi m=>(f i m).2.1),λc a=>?_,λc a b hb=>?_,F6.2 ⟨s'.sep,sp.2.1,λc a d hd b hb g=>?_⟩,λb hb=>⟨B2 (s.zb b hb).1 s'.kept.size,(s.zb b hb).2⟩⟩
 .rcases F2.1 a with a|a
  .exact s'.ok c a
  .exact bD.ok_of (s.ok c (G2 _ a)) λb hb=>s'.kept.block b (h2 c a b hb).1 (h2 c a b hb).2.2.2
 .rcases F2.1 a with a|a
  .obtain⟨j,e,l⟩:=s'.own c a b hb;refine⟨j,?_,λh=>?_⟩
   .rcases e with e|e
    .exact(f b e).2.1
    .exact .inr (C0 s.kept.size e)
   .rcases e with e|e
    .exact(f b e).2.2 h
    .exact absurd (s.zb b h).1 (C6.2 e)
  .obtain⟨j,e,l,k⟩:=h2 c a b hb;exact⟨B2 j s'.kept.size,e,l⟩
 .obtain⟨j,_,_,k⟩:=h2 d hd b g
  rcases (s'.own c a b hb).2.1 with e|e
  .exact k e
  .exact absurd j (C6.2 e)
theorem fS{ι:Type}{ops:Array Oper}{rest:List Oper}{o:Oper}{d:Nat}{f:FuncId}{ars:Array Operand}{ts:Array TypeId}{vs:List Value}{Hin H1 L H2:List bD}{G Pre:List bC}{val:ι->Value}{Hout:ι->List bD}{post:ι->List bC}
  (hcf: ∀(args:Array Value) (w:World),(callFunc f args).run P w= .ok (.enter f args) w) (hs:cJ P f vs Hin Pre val Hout post) (hw:want ops Γ o=some true) (ho:o.op= .call ⟨.value (.func f),ars,ts⟩) (hd:o.dst=some d) (hn:C2 d n=true)
  (hv:Γ.evs ars.toList=some vs) (hH:Split H Hin H1) (hL:Split H1 L H2) (hG:yP L G) (hF:bA (G++F) Pre) (ps:ι->Prop) (hp: ∀x S w,All (post x) S w->ps x)
  (k: ∀x,ps x->At β n ((d,val x)::Γ) (Hout x++H1) F (wpList P ops Q rest)):At β n Γ H F (wpList P ops Q (o::rest)):=
 gR hw λa w S f s p=>by unfold L2;rw[bOu hcf ho f hv w,L5];have j:=s.perm hH.perm;have l:=j.perm (hL.perm.append_left Hin);have i:All (G++F) (λb=>S b\/mR L b) w:=(hG _ w (λc g=>l.ok c (G2 _ (F5 _ g))) (λc g b hb=> .inr ⟨c,g,hb⟩)).append (All.mono (λ_ h=> .inl h) (λ_ _=>rfl) p);refine(hs _ w l.lend (hF.all _ w i)).mono ?_;rintro e q ⟨x,t,rfl,m,r⟩;show wpList P ops Q rest (a.put o.dst (val x)) q;rw[hd];refine k x (hp x _ _ r) _ _ S (f.put m8 _) (j.leave' m) (All.mono (λ_ h=>h) (λb hb=>m.kept.block b (s.zb b hb).1 (λ⟨c,g,h⟩=>(j.own c (F5 _ g) b h).2.2 hb)) p)
theorem mE{f:FuncId}{args:List Value}{Pre:List bC}{v:Value}(h: ∀S w,(∀b,S b->b<w.heap.size)->All Pre S w->Calls P f args.toArray w λe w'=>e= .returned v/\Below w.heap.size w w'):
  cJ P f args [] Pre (λ_:Unit=>v) (λ_=>[]) (λ_=>[]):=λS w s k=>by refine(h S w (λb hb=>(s.zb b hb).1) k).mono ?_;rintro e w' ⟨rfl,hb⟩;exact⟨(),S,rfl,⟨pV.of_below _ hb,λc d=>by simp at d,λc d=>by simp at d,List.Pairwise.nil,λb a=>⟨B2 (s.zb b a).1 hb.size,.inl a⟩⟩,λg hg=>by simp at hg⟩
theorem bM{d:Nat}{k:IntKind}{z z':Int}(hz:z=z')(h:At β n ((d,.int k z')::Γ) H F K):At β n ((d,.int k z)::Γ) H F K:=by rw[hz];exact h
theorem at_val{d:Nat}{v v':Value}(hz:v=v')(h:At β n ((d,v')::Γ) H F K):At β n ((d,v)::Γ) H F K:=by rw[hz];exact h
theorem cE{d:Nat}{t:Bool}(ht:t=true->At β n ((d,.bool true)::Γ) H F K)(hf:t=false->At β n ((d,.bool false)::Γ) H F K):At β n ((d,.bool t)::Γ) H F K:=by
 cases t
 .exact hf rfl
 .exact ht rfl
theorem jG{z:Int}{k:Nat}(h:z=k)(hk:k<9223372036854775808):IntKind.i64.wrap z=k:=by subst h;simp only[M9,N1,N2];simp;omega
theorem jO{z:Int}(h1: -9223372036854775808<=z)(h2:z<9223372036854775808):IntKind.i64.wrap z=z:=by simp only[M9,N1,N2];simp;omega
def Env.parts(Γ:Env):List (Nat×Operand)->Option (List (Nat×Value))
 |[]=>some []
 |(i,x)::r=>match Γ.ev x,Γ.parts r with
  |some v,some vs=>some ((i,v)::vs)
  |_,_=>none
theorem Fits.parts{a:Act}(h:Fits n Γ a): ∀{ps:List (Nat×Operand)} {vs:List (Nat×Value)},Γ.parts ps=some vs->ps.map (λp=>(p.1,a.eval p.2))=vs
 |[],vs,hx=>by simp[Env.parts]at hx;simp[hx]
 |(i,x)::r,vs,hx=>by
  unfold Env.parts at hx
  cases b:Γ.ev x with
  |none=>simp[b]at hx
  |some v=>
   cases hr:Γ.parts r with
   |none=>simp[b,hr]at hx
   |some us=>
    simp[b,hr]at hx;subst hx;simp[h.ev b,h.parts hr]
theorem bY{o:Oper}{t:TypeId}{ps:Array (Nat×Operand)}{vs:List (Nat×Value)}{cs:Array Value}(ho:o.op= .build t ps)(hv:Γ.parts ps.toList=some vs)(hb:P.built t vs=some cs):Sti P β n Γ H F o (.agg cs):=λa w S f s k=>by
 have b:=f.parts hv;have:(ps.map λ(i,x)=>(i,a.eval x)).toList=vs:=by rw[Array.toList_map];exact b
 unfold execOp;simp only[ho];rw[J0,run_build w t _ cs (by rw[this];exact hb)];rfl
theorem cC{ops:Array Oper}{rest:List Oper}{o:Oper}{d:Nat}{t:TypeId}{z:Value}{cs:List Value}(hw:want ops Γ o=some true)(ho:o.op= .alloc t)(hd:o.dst=some d)(hn:C2 d n=true)
  (hz:(P.info? t).bind (·.zero)=some z) (hc:z.cells=cs.toArray) (k: ∀b,At β n ((d,.pointer (some ⟨b,0,none⟩))::Γ) (.obj b (.cells cs.toArray t)::H) F (wpList P ops Q rest)):At β n Γ H F (wpList P ops Q (o::rest)):=
 gR hw λa w S f s g=>by
  have hr:(execOp a.eval o).run P w= .ok (.value (.pointer (some ⟨w.heap.size,0,none⟩))) (w.alloc (.cells cs.toArray t)):=by
   cases e:P.info? t with
   |none=>simp[e]at hz
   |some i=>
    simp[e]at hz;have c:(zeroValue t).run P w= .ok z w:=by simp[zeroValue,typeInfo,e,hz]
    unfold execOp;simp only[ho,Instr.alloc,J0,c,J6,newVar,newRow,hc];rfl
  unfold L2;rw[hr,L3,hd];exact k _ _ _ S (f.put m8 _) (s.alloc _) (All.alloc s g _)
theorem i7{ops:Array Oper}{rest:List Oper}{o:Oper}{d:Nat}{t:TypeId}{z:Value}{cs:List Value}(hz:(P.info? t).bind (·.zero)=some z)(k: ∀b,At β n ((d,.pointer (some ⟨b,0,none⟩))::Γ) (.obj b (.cells cs.toArray t)::H) F (wpList P ops Q rest))(hw:want ops Γ o=some true:=by exact rfl)(ho:o.op= .alloc t:=by exact rfl)(hd:o.dst=some d:=by exact rfl)(hn:Nat.blt d n=true:=by exact rfl)(hc:z.cells=cs.toArray:=by exact rfl):At β n Γ H F (wpList P ops Q (o::rest)):=cC hw ho hd hn hz hc k
theorem fD{b:Nat}{t:TypeId}{xs:List α}{H':List bD}{cs:List Value}(hH:bZ H (.obj b (.cells cs.toArray t)) H')(hcs:cs=E.all xs):cF β H F E (some ⟨b,0,none⟩) xs:=λw S s _ i x c=>by
 have h:w.heap[b]?=some (.cells cs.toArray t):=s.ok _ hH.mem;refine⟨⟨b,0,rfl⟩,λj u a=>?_⟩;show w.cell? ⟨b,0+i*E.size+j,none⟩=some u;unfold D8;rw[h,hcs];have:=E.all_get c a
 simpa using this
theorem cX(hT:fC P T){o:Oper}{t e b off m k:Nat}{x i:Operand}{kk:IntKind}{z:Int}{sz:Nat}{ei:TI}(ho:o.op= .indexAddr t x i)(hx:Γ.ev x=some (.pointer (some ⟨b,off,none⟩)))(hi:Γ.ev i=some (.int kk z))
  (ht:T.get t=some ⟨.array m e,sz⟩) (he:T.get e=some ei) (hz:z=(k:Nat)) (hk:k<m):Sti P β n Γ H F o (.pointer (some ⟨b,off+k*ei.size,none⟩)):=λa w S f s _=>by
 subst hz;have c:(⟨b,off,none⟩:Addr).add (k*ei.size)=⟨b,off+k*ei.size,none⟩:=L7 _ _ _
 have h0:(0:Int)<=(k:Int)/\(k:Int)<(m:Int):=⟨j5,j5⟩
 unfold execOp;simp only[ho,f.ev hx,f.ev hi,K1,J8,asIntOf,J0,J1,J6,hT.array ht,h0,and_self,if_true,hT.size he,M4,c]
end
theorem bA.sub{F:List bC}: ∀{G:List bC},(∀g∈G,g∈F)->bA F G
 |[],_=>trivial
 |g::_,h=>⟨Has.of (h g (F9 ..)),bA.sub λx hx=>h x (F3 _ hx)⟩
theorem bA.self{F:List bC}:bA F F:=bA.sub λ_ h=>h
theorem bEl{b:Bool}(h:(!b)=true):b=false:=by cases b<;>simp_all
theorem bFi{b:Bool}(h:(!b)=false):b=true:=by cases b<;>simp_all
section
variable {P : Program} {β : dY} {n : Nat} {Γ : Env} {H : List bD} {F : List bC} {Q : Exit -> Act -> World -> Prop} {K : Act -> World -> Prop} {T : Tab} {α : Type} {E : Flat α}
theorem bGt{c:Code}(k:Nat)(h:At β n Γ H F (E9 P c Q k)):At β n Γ H F ((E8 c).wp P Q):=λa w S f s b=>wp_loop_rounds k (h a w S f s b)
theorem qR{c:Code}{k:Nat}(h:At β n Γ H F (c.wp P (Exit.then (E9 P c Q k) Q))):At β n Γ H F (E9 P c Q (k+1)):=λa w S f s b=>by rw[rounds_succ];exact h a w S f s b
theorem at_rowg{A:Option Addr}{t:TypeId}{m cap:Nat}{xs:List α}{H':List bD}(hH:bZ H (E.row (.slice A m cap) t xs) H')(hm:0<xs.length)(h: ∀g,A=some ⟨g,0,none⟩->At β n Γ H F K):At β n Γ H F K:=bMb hH λ_ ⟨c,a,e,b⟩=>by
 injection e with e1 e2 e3
 obtain⟨g,hg⟩:=b hm;exact h g (e1.trans hg)
theorem kT(hT:fC P T){o:Oper}{t e b off l c k:Nat}{x i:Operand}{kk:IntKind}{z:Int}{sz:Nat}{ei:TI}(ho:o.op= .indexAddr t x i)(hx:Γ.ev x=some (.slice (some ⟨b,off,none⟩) l c))(hi:Γ.ev i=some (.int kk z))
  (ht:T.get t=some ⟨.slice e,sz⟩) (he:T.get e=some ei) (hz:z=(k:Nat)) (hk:k<l):Sti P β n Γ H F o (.pointer (some ⟨b,off+k*ei.size,none⟩)):=λa w S f s _=>by
 subst hz;have d:(⟨b,off,none⟩:Addr).add (k*ei.size)=⟨b,off+k*ei.size,none⟩:=L7 _ _ _
 have h0:(0:Int)<=(k:Int)/\(k:Int)<(l:Int):=⟨j5,j5⟩
 unfold execOp;simp only[ho,f.ev hx,f.ev hi,K1,asIntOf,J0,J1,J6,hT.slice ht w,h0,and_self,if_true,hT.size he,M4,d]
theorem nX{ops:Array Oper}{rest:List Oper}{o:Oper}{d:Nat}{t e:TypeId}{x:Operand}{v:Value}{ie:TypeInfo}{z:Value}{cs:List Value}(hw:want ops Γ o=some true)(ho:o.op= .buildSlice t 1 #[(0,x)])(hd:o.dst=some d)(hn:C2 d n=true)
  (hx:Γ.ev x=some v) (hu:P.underlying t=some (.slice e)) (hie:P.info? e=some ie) (hz:ie.zero=some z) (hs:ie.size<=16777216) (hp:0<ie.size) (hf:K2 (λi=>some (i*ie.size,ie.size)) ((Array.range (1*ie.size)).map (z.cells[· %z.cells.size]!)) [(0,v)]=some cs.toArray)
  (k: ∀b,At β n ((d,.slice (some ⟨b,0,none⟩) 1 1)::Γ) (.obj b (.cells cs.toArray e)::H) F (wpList P ops Q rest)):At β n Γ H F (wpList P ops Q (o::rest)):=
 at_build (m:=1) (parts:= #[(0,x)]) (e:=e) (cs:=cs) hw ho hd hn (λa w f=>by
  have:=run_buildSlice (P:=P) w t e 1 #[(0,a.eval x)] cs.toArray ie z hu hie hz j5 j5 (by rw[f.ev hx];exact hf)
  simpa using this) k
end
section
variable {P : Program} {β : dY} {n : Nat} {Γ : Env} {H : List bD} {F : List bC} {Q : Exit -> Act -> World -> Prop} {K : Act -> World -> Prop} {T : Tab} {ops : Array Oper} {rest : List Oper} {o : Oper} {d : Nat} {v : Value}
theorem sp(hT:fC P T)(k:At β n ((d,v)::Γ) H F (wpList P ops Q rest))(hw:want ops Γ o=some true:=by exact rfl)(hd:o.dst=some d:=by exact rfl)(hn:Nat.blt d n=true:=by exact rfl)(h:pD T Γ o.op=some v:=by exact rfl):
  At β n Γ H F (wpList P ops Q (o::rest)):=jI hw hd hn (gD hT h) k
theorem ss(h:Sti P β n Γ H F o v)(k:At β n ((d,v)::Γ) H F (wpList P ops Q rest))(hw:want ops Γ o=some true:=by exact rfl)(hd:o.dst=some d:=by exact rfl)(hn:Nat.blt d n=true:=by exact rfl):
  At β n Γ H F (wpList P ops Q (o::rest)):=jI hw hd hn h k
theorem sk(k:At β n ((d,undef)::Γ) H F (wpList P ops Q rest))(hw:want ops Γ o=some false:=by exact rfl)(hd:o.dst=some d:=by exact rfl)(hn:Nat.blt d n=true:=by exact rfl):
  At β n Γ H F (wpList P ops Q (o::rest)):=bOs hw hd hn k
theorem sp2(hT:fC P T){o2:Oper}{d2:Nat}{v2:Value}(k:At β n ((d2,v2)::(d,v)::Γ) H F (wpList P ops Q rest))(w0:want ops (Γ) o=some true:=by exact rfl)(e0:o.dst=some d:=by exact rfl)(l0:Nat.blt d n=true:=by exact rfl)(p0:pD T (Γ) o.op=some v:=by exact rfl)(w1:want ops ((d,v)::Γ) o2=some true:=by exact rfl)(e1:o2.dst=some d2:=by exact rfl)(l1:Nat.blt d2 n=true:=by exact rfl)(p1:pD T ((d,v)::Γ) o2.op=some v2:=by exact rfl):
  At β n Γ H F (wpList P ops Q (o::o2::rest)):=sp hT (sp hT (k) w1 e1 l1 p1) w0 e0 l0 p0
theorem sp3(hT:fC P T){o2 o3:Oper}{d2 d3:Nat}{v2 v3:Value}(k:At β n ((d3,v3)::(d2,v2)::(d,v)::Γ) H F (wpList P ops Q rest))(w0:want ops (Γ) o=some true:=by exact rfl)(e0:o.dst=some d:=by exact rfl)(l0:Nat.blt d n=true:=by exact rfl)(p0:pD T (Γ) o.op=some v:=by exact rfl)(w1:want ops ((d,v)::Γ) o2=some true:=by exact rfl)(e1:o2.dst=some d2:=by exact rfl)(l1:Nat.blt d2 n=true:=by exact rfl)(p1:pD T ((d,v)::Γ) o2.op=some v2:=by exact rfl)(w2:want ops ((d2,v2)::(d,v)::Γ) o3=some true:=by exact rfl)(e2:o3.dst=some d3:=by exact rfl)(l2:Nat.blt d3 n=true:=by exact rfl)(p2:pD T ((d2,v2)::(d,v)::Γ) o3.op=some v3:=by exact rfl):
  At β n Γ H F (wpList P ops Q (o::o2::o3::rest)):=sp hT (sp hT (sp hT (k) w2 e2 l2 p2) w1 e1 l1 p1) w0 e0 l0 p0
theorem sk3{o2 o3:Oper}{d2 d3:Nat}(k:At β n ((d3,undef)::(d2,undef)::(d,undef)::Γ) H F (wpList P ops Q rest))(w0:want ops (Γ) o=some false:=by exact rfl)(e0:o.dst=some d:=by exact rfl)(l0:Nat.blt d n=true:=by exact rfl)(w1:want ops ((d,undef)::Γ) o2=some false:=by exact rfl)(e1:o2.dst=some d2:=by exact rfl)(l1:Nat.blt d2 n=true:=by exact rfl)(w2:want ops ((d2,undef)::(d,undef)::Γ) o3=some false:=by exact rfl)(e2:o3.dst=some d3:=by exact rfl)(l2:Nat.blt d3 n=true:=by exact rfl):
  At β n Γ H F (wpList P ops Q (o::o2::o3::rest)):=sk (sk (sk (k) w2 e2 l2) w1 e1 l1) w0 e0 l0
theorem sp4(hT:fC P T){o2 o3 o4:Oper}{d2 d3 d4:Nat}{v2 v3 v4:Value}(k:At β n ((d4,v4)::(d3,v3)::(d2,v2)::(d,v)::Γ) H F (wpList P ops Q rest))(w0:want ops (Γ) o=some true:=by exact rfl)(e0:o.dst=some d:=by exact rfl)(l0:Nat.blt d n=true:=by exact rfl)(p0:pD T (Γ) o.op=some v:=by exact rfl)(w1:want ops ((d,v)::Γ) o2=some true:=by exact rfl)(e1:o2.dst=some d2:=by exact rfl)(l1:Nat.blt d2 n=true:=by exact rfl)(p1:pD T ((d,v)::Γ) o2.op=some v2:=by exact rfl)(w2:want ops ((d2,v2)::(d,v)::Γ) o3=some true:=by exact rfl)(e2:o3.dst=some d3:=by exact rfl)(l2:Nat.blt d3 n=true:=by exact rfl)(p2:pD T ((d2,v2)::(d,v)::Γ) o3.op=some v3:=by exact rfl)(w3:want ops ((d3,v3)::(d2,v2)::(d,v)::Γ) o4=some true:=by exact rfl)(e3:o4.dst=some d4:=by exact rfl)(l3:Nat.blt d4 n=true:=by exact rfl)(p3:pD T ((d3,v3)::(d2,v2)::(d,v)::Γ) o4.op=some v4:=by exact rfl):
  At β n Γ H F (wpList P ops Q (o::o2::o3::o4::rest)):=sp hT (sp hT (sp hT (sp hT (k) w3 e3 l3 p3) w2 e2 l2 p2) w1 e1 l1 p1) w0 e0 l0 p0
theorem sk4{o2 o3 o4:Oper}{d2 d3 d4:Nat}(k:At β n ((d4,undef)::(d3,undef)::(d2,undef)::(d,undef)::Γ) H F (wpList P ops Q rest))(w0:want ops (Γ) o=some false:=by exact rfl)(e0:o.dst=some d:=by exact rfl)(l0:Nat.blt d n=true:=by exact rfl)(w1:want ops ((d,undef)::Γ) o2=some false:=by exact rfl)(e1:o2.dst=some d2:=by exact rfl)(l1:Nat.blt d2 n=true:=by exact rfl)(w2:want ops ((d2,undef)::(d,undef)::Γ) o3=some false:=by exact rfl)(e2:o3.dst=some d3:=by exact rfl)(l2:Nat.blt d3 n=true:=by exact rfl)(w3:want ops ((d3,undef)::(d2,undef)::(d,undef)::Γ) o4=some false:=by exact rfl)(e3:o4.dst=some d4:=by exact rfl)(l3:Nat.blt d4 n=true:=by exact rfl):
  At β n Γ H F (wpList P ops Q (o::o2::o3::o4::rest)):=sk (sk (sk (sk (k) w3 e3 l3) w2 e2 l2) w1 e1 l1) w0 e0 l0
theorem kT1{c0 c1:bD}{l:List bD}:bZ (c0::c1::l) c1 (c0::l):=bZ.tail (bZ.head)
theorem kT2{c0 c1 c2:bD}{l:List bD}:bZ (c0::c1::c2::l) c2 (c0::c1::l):=bZ.tail (bZ.tail (bZ.head))
theorem kT3{c0 c1 c2 c3:bD}{l:List bD}:bZ (c0::c1::c2::c3::l) c3 (c0::c1::c2::l):=bZ.tail (bZ.tail (bZ.tail (bZ.head)))
theorem kT4{c0 c1 c2 c3 c4:bD}{l:List bD}:bZ (c0::c1::c2::c3::c4::l) c4 (c0::c1::c2::c3::l):=bZ.tail (bZ.tail (bZ.tail (bZ.tail (bZ.head))))
theorem kT5{c0 c1 c2 c3 c4 c5:bD}{l:List bD}:bZ (c0::c1::c2::c3::c4::c5::l) c5 (c0::c1::c2::c3::c4::l):=bZ.tail (bZ.tail (bZ.tail (bZ.tail (bZ.tail (bZ.head)))))
theorem kT6{c0 c1 c2 c3 c4 c5 c6:bD}{l:List bD}:bZ (c0::c1::c2::c3::c4::c5::c6::l) c6 (c0::c1::c2::c3::c4::c5::l):=bZ.tail (bZ.tail (bZ.tail (bZ.tail (bZ.tail (bZ.tail (bZ.head))))))
theorem kT7{c0 c1 c2 c3 c4 c5 c6 c7:bD}{l:List bD}:bZ (c0::c1::c2::c3::c4::c5::c6::c7::l) c7 (c0::c1::c2::c3::c4::c5::c6::l):=bZ.tail (bZ.tail (bZ.tail (bZ.tail (bZ.tail (bZ.tail (bZ.tail (bZ.head)))))))
theorem Sel.c0{c0:bD}{l R:List bD}(k:Sel (l) R):Sel (c0::l) (c0::R):= .cons .head k
theorem Split.c0{c0:bD}{l R X:List bD}(k:Split (l) R X):Split (c0::l) (c0::R) X:= .cons .head k
theorem Sel.c1{c0 c1:bD}{l R:List bD}(k:Sel (c0::l) R):Sel (c0::c1::l) (c1::R):= .cons kT1 k
theorem Split.c1{c0 c1:bD}{l R X:List bD}(k:Split (c0::l) R X):Split (c0::c1::l) (c1::R) X:= .cons kT1 k
theorem Sel.c2{c0 c1 c2:bD}{l R:List bD}(k:Sel (c0::c1::l) R):Sel (c0::c1::c2::l) (c2::R):= .cons kT2 k
theorem Split.c2{c0 c1 c2:bD}{l R X:List bD}(k:Split (c0::c1::l) R X):Split (c0::c1::c2::l) (c2::R) X:= .cons kT2 k
theorem Sel.c3{c0 c1 c2 c3:bD}{l R:List bD}(k:Sel (c0::c1::c2::l) R):Sel (c0::c1::c2::c3::l) (c3::R):= .cons kT3 k
theorem Split.c3{c0 c1 c2 c3:bD}{l R X:List bD}(k:Split (c0::c1::c2::l) R X):Split (c0::c1::c2::c3::l) (c3::R) X:= .cons kT3 k
theorem Sel.c4{c0 c1 c2 c3 c4:bD}{l R:List bD}(k:Sel (c0::c1::c2::c3::l) R):Sel (c0::c1::c2::c3::c4::l) (c4::R):= .cons kT4 k
theorem Split.c4{c0 c1 c2 c3 c4:bD}{l R X:List bD}(k:Split (c0::c1::c2::c3::l) R X):Split (c0::c1::c2::c3::c4::l) (c4::R) X:= .cons kT4 k
theorem Sel.c5{c0 c1 c2 c3 c4 c5:bD}{l R:List bD}(k:Sel (c0::c1::c2::c3::c4::l) R):Sel (c0::c1::c2::c3::c4::c5::l) (c5::R):= .cons kT5 k
theorem Split.c5{c0 c1 c2 c3 c4 c5:bD}{l R X:List bD}(k:Split (c0::c1::c2::c3::c4::l) R X):Split (c0::c1::c2::c3::c4::c5::l) (c5::R) X:= .cons kT5 k
theorem Sel.c6{c0 c1 c2 c3 c4 c5 c6:bD}{l R:List bD}(k:Sel (c0::c1::c2::c3::c4::c5::l) R):Sel (c0::c1::c2::c3::c4::c5::c6::l) (c6::R):= .cons kT6 k
theorem Split.c6{c0 c1 c2 c3 c4 c5 c6:bD}{l R X:List bD}(k:Split (c0::c1::c2::c3::c4::c5::l) R X):Split (c0::c1::c2::c3::c4::c5::c6::l) (c6::R) X:= .cons kT6 k
theorem Sel.c7{c0 c1 c2 c3 c4 c5 c6 c7:bD}{l R:List bD}(k:Sel (c0::c1::c2::c3::c4::c5::c6::l) R):Sel (c0::c1::c2::c3::c4::c5::c6::c7::l) (c7::R):= .cons kT7 k
theorem Split.c7{c0 c1 c2 c3 c4 c5 c6 c7:bD}{l R X:List bD}(k:Split (c0::c1::c2::c3::c4::c5::c6::l) R X):Split (c0::c1::c2::c3::c4::c5::c6::c7::l) (c7::R) X:= .cons kT7 k
theorem kT8{c0 c1 c2 c3 c4 c5 c6 c7 c8:bD}{l:List bD}:bZ (c0::c1::c2::c3::c4::c5::c6::c7::c8::l) c8 (c0::c1::c2::c3::c4::c5::c6::c7::l):=bZ.tail (bZ.tail (bZ.tail (bZ.tail (bZ.tail (bZ.tail (bZ.tail (bZ.tail (bZ.head))))))))
theorem kT9{c0 c1 c2 c3 c4 c5 c6 c7 c8 c9:bD}{l:List bD}:bZ (c0::c1::c2::c3::c4::c5::c6::c7::c8::c9::l) c9 (c0::c1::c2::c3::c4::c5::c6::c7::c8::l):=bZ.tail (bZ.tail (bZ.tail (bZ.tail (bZ.tail (bZ.tail (bZ.tail (bZ.tail (bZ.tail (bZ.head)))))))))
theorem bIu{c0 c1 c2 c3 c4 c5 c6 c7 c8 c9 c10:bD}{l:List bD}:bZ (c0::c1::c2::c3::c4::c5::c6::c7::c8::c9::c10::l) c10 (c0::c1::c2::c3::c4::c5::c6::c7::c8::c9::l):=bZ.tail (bZ.tail (bZ.tail (bZ.tail (bZ.tail (bZ.tail (bZ.tail (bZ.tail (bZ.tail (bZ.tail (bZ.head))))))))))
theorem bHd{c0 c1 c2 c3 c4 c5 c6 c7 c8 c9 c10 c11:bD}{l:List bD}:bZ (c0::c1::c2::c3::c4::c5::c6::c7::c8::c9::c10::c11::l) c11 (c0::c1::c2::c3::c4::c5::c6::c7::c8::c9::c10::l):=bZ.tail (bZ.tail (bZ.tail (bZ.tail (bZ.tail (bZ.tail (bZ.tail (bZ.tail (bZ.tail (bZ.tail (bZ.tail (bZ.head)))))))))))
theorem bGz{c0 c1 c2 c3 c4 c5 c6 c7 c8 c9 c10 c11 c12:bD}{l:List bD}:bZ (c0::c1::c2::c3::c4::c5::c6::c7::c8::c9::c10::c11::c12::l) c12 (c0::c1::c2::c3::c4::c5::c6::c7::c8::c9::c10::c11::l):=bZ.tail (bZ.tail (bZ.tail (bZ.tail (bZ.tail (bZ.tail (bZ.tail (bZ.tail (bZ.tail (bZ.tail (bZ.tail (bZ.tail (bZ.head))))))))))))
theorem bHl{c0 c1 c2 c3 c4 c5 c6 c7 c8 c9 c10 c11 c12 c13:bD}{l:List bD}:bZ (c0::c1::c2::c3::c4::c5::c6::c7::c8::c9::c10::c11::c12::c13::l) c13 (c0::c1::c2::c3::c4::c5::c6::c7::c8::c9::c10::c11::c12::l):=bZ.tail (bZ.tail (bZ.tail (bZ.tail (bZ.tail (bZ.tail (bZ.tail (bZ.tail (bZ.tail (bZ.tail (bZ.tail (bZ.tail (bZ.tail (bZ.head)))))))))))))
theorem mT0{α:Type}{a0:α}{l:List α}:a0∈a0::l:= .head _
theorem mT1{α:Type}{a0 a1:α}{l:List α}:a1∈a0::a1::l:= .tail _ (.head _)
theorem mT2{α:Type}{a0 a1 a2:α}{l:List α}:a2∈a0::a1::a2::l:= .tail _ (.tail _ (.head _))
theorem mT3{α:Type}{a0 a1 a2 a3:α}{l:List α}:a3∈a0::a1::a2::a3::l:= .tail _ (.tail _ (.tail _ (.head _)))
theorem mT4{α:Type}{a0 a1 a2 a3 a4:α}{l:List α}:a4∈a0::a1::a2::a3::a4::l:= tQ4 (.head _)
theorem mT5{α:Type}{a0 a1 a2 a3 a4 a5:α}{l:List α}:a5∈a0::a1::a2::a3::a4::a5::l:= tQ4 (.tail _ (.head _))
theorem mT6{α:Type}{a0 a1 a2 a3 a4 a5 a6:α}{l:List α}:a6∈a0::a1::a2::a3::a4::a5::a6::l:= tQ4 (.tail _ (.tail _ (.head _)))
theorem mT7{α:Type}{a0 a1 a2 a3 a4 a5 a6 a7:α}{l:List α}:a7∈a0::a1::a2::a3::a4::a5::a6::a7::l:= tQ4 (.tail _ (.tail _ (.tail _ (.head _))))
theorem mT8{α:Type}{a0 a1 a2 a3 a4 a5 a6 a7 a8:α}{l:List α}:a8∈a0::a1::a2::a3::a4::a5::a6::a7::a8::l:= tQ4 (tQ4 (.head _))
theorem mT9{α:Type}{a0 a1 a2 a3 a4 a5 a6 a7 a8 a9:α}{l:List α}:a9∈a0::a1::a2::a3::a4::a5::a6::a7::a8::a9::l:= tQ4 (tQ4 (.tail _ (.head _)))
theorem mT10{α:Type}{a0 a1 a2 a3 a4 a5 a6 a7 a8 a9 a10:α}{l:List α}:a10∈a0::a1::a2::a3::a4::a5::a6::a7::a8::a9::a10::l:= tQ4 (tQ4 (.tail _ (.tail _ (.head _))))
theorem mT11{α:Type}{a0 a1 a2 a3 a4 a5 a6 a7 a8 a9 a10 a11:α}{l:List α}:a11∈a0::a1::a2::a3::a4::a5::a6::a7::a8::a9::a10::a11::l:= tQ4 (tQ4 (.tail _ (.tail _ (.tail _ (.head _)))))
theorem mT13{α:Type}{a0 a1 a2 a3 a4 a5 a6 a7 a8 a9 a10 a11 a12 a13:α}{l:List α}:a13∈a0::a1::a2::a3::a4::a5::a6::a7::a8::a9::a10::a11::a12::a13::l:= tQ4 (tQ4 (tQ4 (.tail _ (.head _))))
theorem mT14{α:Type}{a0 a1 a2 a3 a4 a5 a6 a7 a8 a9 a10 a11 a12 a13 a14:α}{l:List α}:a14∈a0::a1::a2::a3::a4::a5::a6::a7::a8::a9::a10::a11::a12::a13::a14::l:= tQ4 (tQ4 (tQ4 (.tail _ (.tail _ (.head _)))))
theorem d7{a0:bC}{l:List bC}:Has (a0::l) a0:=Has.of mT0
theorem d8{a0 a1:bC}{l:List bC}:Has (a0::a1::l) a1:=Has.of mT1
theorem d9{a0 a1 a2:bC}{l:List bC}:Has (a0::a1::a2::l) a2:=Has.of mT2
theorem e6{a0 a1 a2 a3:bC}{l:List bC}:Has (a0::a1::a2::a3::l) a3:=Has.of mT3
theorem e7{a0 a1 a2 a3 a4:bC}{l:List bC}:Has (a0::a1::a2::a3::a4::l) a4:=Has.of mT4
theorem e8{a0 a1 a2 a3 a4 a5 a6 a7:bC}{l:List bC}:Has (a0::a1::a2::a3::a4::a5::a6::a7::l) a7:=Has.of mT7
theorem ldO(hT:fC P T){t b q:Nat}{p:Operand}{cs:List Value}{i:TI}(hk:lT β H F b q cs)(ho:o.op= .load t p:=by exact rfl)(hp:Γ.ev p=some (.pointer (some ⟨b,q,none⟩)):=by exact rfl)(ht:T.get t=some i:=by exact rfl)(ha:aggD i.desc=false:=by exact rfl)
  (hv:cs[0]?=some v:=by exact rfl):Sti P β n Γ H F o v:=bI hT hk ho hp ht ha hv
theorem ldN(hT:fC P T){t b q:Nat}{p:Operand}{cs l:List Value}{i:TI}(hk:lT β H F b q cs)(ho:o.op= .load t p:=by exact rfl)(hp:Γ.ev p=some (.pointer (some ⟨b,q,none⟩)):=by exact rfl)(ht:T.get t=some i:=by exact rfl)(ha:aggD i.desc=true:=by exact rfl)
  (hv:cut cs 0 i.size=some l:=by exact rfl):Sti P β n Γ H F o (.agg l.toArray):=iC hT hk ho hp ht ha hv
theorem sto(hT:fC P T){t t' b off:Nat}{p x:Operand}{vs cs cs':List Value}{i:TI}{H':List bD}(hH:bZ H (.obj b (.cells cs.toArray t')) H')(k:At β n Γ (.obj b (.cells cs'.toArray t')::H') F (wpList P ops Q rest))(hw:want ops Γ o=some true:=by exact rfl)(ho:o.op= .store t p x:=by exact rfl)(hd:o.dst=none:=by exact rfl)
  (hp:Γ.ev p=some (.pointer (some ⟨b,off,none⟩)):=by exact rfl) (hx:Γ.ev x=some v:=by exact rfl) (ht:T.get t=some i:=by exact rfl) (hc:v.cells=vs.toArray:=by exact rfl) (hs:Nat.beq vs.length i.size=true:=by exact rfl)
  (h1:vs.all (·.oneCell')=true:=by exact rfl) (hput:tC cs off vs=some cs':=by exact rfl):At β n Γ H F (wpList P ops Q (o::rest)):=at_store hT hw ho hd hp hx hH ht hc hs h1 hput k
theorem sr{id:Nat}{l:List Oper}{y:Code}(h:At β n Γ H F (wpList P l.toArray (Exit.then (y.wp P Q) Q) l)):At β n Γ H F ((Code.seq (E6 id l.toArray false) y).wp P Q):=cH (bX h)
theorem nn(h:At β n Γ H F K):At β n Γ H F (wpList P ops (Exit.then K Q) []):=jL (cZ h)
end
section
variable {P : Program} {β : dY} {n : Nat} {Γ : Env} {H : List bD} {F : List bC} {Q : Exit -> Act -> World -> Prop} {K : Act -> World -> Prop} {T : Tab} {α : Type} {E : Flat α}
theorem Env.Sub.append{Γ:Env}: ∀{Δ Δ':Env},Γ.Sub Δ->Γ.Sub Δ'->Γ.Sub (Δ++Δ')
 |[],_,_,h=>h
 |_::_,_,h,k=>⟨h.1,Env.Sub.append h.2 k⟩
theorem bA.append{F:List bC}: ∀{G G':List bC},bA F G->bA F G'->bA F (G++G')
 |[],_,_,h=>h
 |_::_,_,h,k=>⟨h.1,bA.append h.2 k⟩
theorem bA.drop(k:Nat){F:List bC}:bA F (F.drop k):=bA.sub λ_ h=>H4 h
theorem Sel.self: ∀{H:List bD},Sel H H
 |[]=> .nil
 |_::_=> .cons .head Sel.self
theorem Split.sel{H R H2:List bD}(h:Split H R H2):Sel H (R++H2):=by
 induction h with
 |nil=>exact Sel.self
 |cons h _ ih=>exact .cons h ih
theorem bT{ι:Type}{c:Code}(Δ:Env)(hΔ:Γ.Sub Δ)(G:ι->Env)(HH:ι->List bD){Hr:List bD}(FF:ι->List bC)(μ:ι->Nat)(x0:ι)(hG:Γ.Sub (G x0))(hH:Split H (HH x0) Hr)(hF:bA F (FF x0))
  (round: ∀x,At β n (G x++Δ) (HH x++Hr) (FF x++F) (c.wp P (Exit.then (Back β n (λx=>G x++Δ) (λx=>HH x++Hr) (λx=>FF x++F) μ (μ x)) Q))):At β n Γ H F ((E8 c).wp P Q):=
 rU (λx=>G x++Δ) (λx=>HH x++Hr) (λx=>FF x++F) μ x0 (hG.append hΔ) hH.sel (hF.append bA.self) round
theorem dB{ι:Type}{G:ι->Env}{Δ:Env}{HH:ι->List bD}{Hr:List bD}{FF:ι->List bC}{F0:List bC}{μ:ι->Nat}{m:Nat}(x:ι)(hμ:μ x<m)(hG:Γ.Sub (G x))(hΔ:Γ.Sub Δ)(hH:Sel H (HH x++Hr))(hF:bA F (FF x))(hF0:bA F F0):
  At β n Γ H F (Back β n (λx=>G x++Δ) (λx=>HH x++Hr) (λx=>FF x++F0) μ m):=
 qL (G:=λx=>G x++Δ) (HH:=λx=>HH x++Hr) (FF:=λx=>FF x++F0) x hμ (hG.append hΔ) hH (hF.append hF0)
theorem bFx{ops:Array Oper}{rest:List Oper}{o:Oper}{d m:Nat}{t e:TypeId}{x y:Operand}{kx ky:IntKind}{i:TypeInfo}{z:Value}{xs:List α}(hw:want ops Γ o=some true)(ho:o.op= .makeSlice t x y)(hd:o.dst=some d)(hn:C2 d n=true)
  (hx:Γ.ev x=some (.int kx (m:Nat))) (hy:Γ.ev y=some (.int ky (m:Nat))) (hu:P.underlying t=some (.slice e)) (hi:P.info? e=some i) (hz:i.zero=some z) (hsize:i.size=E.size) (hb:i.bytes*m<=281474976710656) (hm:m<=maxLen)
  (hxs:(madeCells z.cells (m*E.size)).toList=E.all xs) (hl:xs.length=m) (k: ∀b,At β n ((d,.slice (some ⟨b,0,none⟩) m m)::Γ) (E.row (.slice (some ⟨b,0,none⟩) m m) e xs::H) F (wpList P ops Q rest)):At β n Γ H F (wpList P ops Q (o::rest)):=
 gR hw λa w S f s v=>by
  subst hl;have q:(xs.length:Int)<=9223372036854775807:=by simp[maxLen]at hm;omega
  have r:(i.bytes:Int)*(xs.length:Int)<=281474976710656:=by
   have h:((i.bytes*xs.length:Nat):Int)<=281474976710656:=j5
   rwa[Int.natCast_mul]at h
  have hr:=run_make (P:=P) w t e i z hu hi hz kx ky xs.length xs.length j5 (Int.le_refl _) r q;simp only[M4]at hr
  have p:(execOp a.eval o).run P w= .ok (.value (.slice (some ⟨w.heap.size,0,none⟩) xs.length xs.length)) (w.alloc (.cells (madeCells z.cells (xs.length*i.size)) e)):=by unfold execOp;simp only[ho,f.ev hx,f.ev hy];rw[J0,hr];rfl
  unfold L2;rw[p,L3,hd];have l:=World.ownsRow_lit w (base:=0) (e:=e) (size:=i.size) (madeCells z.cells (xs.length*i.size)) xs.length (Nat.zero_le _) hm (size_madeCells _ _);have j:=s.alloc (.cells (madeCells z.cells (xs.length*i.size)) e);refine k w.heap.size _ _ S (f.put m8 _) ⟨j.kept,λc g=>?_,λc g b hb=>?_,?_,j.zb⟩ (All.alloc s v _)
  .rcases F1.1 g with rfl|g
   .show World.ownsRow _ _ _ _ _ _ _;rw[<-hxs,<-hsize];exact l
   .exact j.ok c (F3 _ g)
  .rcases F1.1 g with rfl|g
   .exact j.own (.obj w.heap.size (.cells (madeCells z.cells (xs.length*i.size)) e)) (F9 ..) b hb
   .exact j.own c (F3 _ g) b hb
  .have u:=F4.1 j.sep;exact F4.2 ⟨λd hd b hb=>u.1 d hd b hb,u.2⟩
end
def dA:Flat Int where
 size:=1
 cells:=λz=>[.int .i64 z]
 len:=λ_=>rfl
 one:=λx u hu=>by simp at hu;subst hu;rfl
 pos:=l4
section
variable {P : Program} {ops : Array Oper} {md : Region.Mode} {C : World -> Prop} {R : Array Bool -> Act -> World -> Prop}
def bQg (P:Program)(md:Region.Mode)(ops:Array Oper)(C:World->Prop)(R:Array Bool->Act->World->Prop):Nat->Array Bool->Act->World->Prop
 |0,listed,a,w=>C w/\R listed a w
 |fuel+1,listed,a,w=>C w/\I4 md ops listed≠[]/\ ∀i∈I4 md ops listed,fOp P ops i (bQg P md ops C R fuel (listed.setIfInBounds i true)) a w
theorem xK{Q:Exit->Act->World->Prop}(hR: ∀listed a w,R listed a w->wpAny P md ops Q 1 listed a w): ∀(fuel:Nat) (listed:Array Bool) (a:Act) (w:World),bQg P md ops C R fuel listed a w->wpAny P md ops Q (fuel+1) listed a w
 |0,_,_,_,h=>hR _ _ _ h.2
 |fuel+1,listed,a,w,h=>by
  refine⟨λe=>absurd e h.2.1,λi g=>?_⟩;have k:=h.2.2 i g;unfold wpOp;split
  .rename_i ho;obtain⟨_,l,b,_⟩:=mem_ready.1 g;rw[ho]at b;cases b
  .rename_i o ho;have h1:=wpNm (k o ho);split
   .rename_i c;simp only[c,if_true]at h1;exact .inl (qA rfl (λu j f=>xK hR fuel _ _ _ f) (λd j f=>xK hR fuel _ _ _ f) h1)
   .rename_i c;simp only[c]at h1;exact xK hR fuel _ _ _ h1
def depsIn(md:Region.Mode)(ops:Array Oper)(listed:Array Bool)(l:Nat):Prop:= ∀o,ops[l]?=some o-> ∀e∈o.after,I5 md e=true->listed.getD e.on false=true
def oZ (md:Region.Mode)(ops:Array Oper)(listed:Array Bool):Prop:= ∀j,listed.getD j false=true->depsIn md ops listed j
def waitsN(md:Region.Mode)(ops:Array Oper):Nat->Nat->Nat->Bool
 |0,_,_=>false
 |n+1,l,i=>match ops[l]? with
  |some o=>o.after.any λe=>I5 md e&&(e.on==i || waitsN md ops n e.on i)
  |none=>false
def waits (md:Region.Mode)(ops:Array Oper)(l i:Nat):Bool:=waitsN md ops 4 l i
theorem bUg{listed:Array Bool}(hc:oZ md ops listed): ∀(n l i:Nat),waitsN md ops n l i=true->depsIn md ops listed l->listed.getD i false=true
 |0,_,_,h,_=>by cases h
 |n+1,l,i,h,hd=>by
  unfold waitsN at h
  cases ho:ops[l]? with
  |none=>rw[ho]at h;cases h
  |some o=>
   rw[ho]at h;obtain⟨e,he,hb⟩:=Array.any_eq_true'.1 h;rw[L9,M0]at hb;have h1:=hd o ho e he hb.1
   rcases hb.2 with h2|h2
   .have h2:e.on=i:=by simpa using h2
    rw[<-h2];exact h1
   .exact bUg hc n e.on i h2 (hc _ h1)
theorem bNy{listed:Array Bool}{l:Nat}(h:l∈I4 md ops listed):depsIn md ops listed l:=λo ho e he hb=>by obtain⟨_,c,b,a⟩:=mem_ready.1 h;have:o=c:=Option.some.inj (ho.symm.trans b);subst this;exact a e he hb
theorem bUl{l i:Nat}{listed:Array Bool}(hc:oZ md ops listed)(h:waits md ops l i=true)(hi:listed.getD i false≠true):l∉I4 md ops listed:=λhl=>hi (bUg hc 4 l i h (bNy hl))
theorem getD_set{listed:Array Bool}{j k:Nat}(h:listed.getD k false=true):(listed.setIfInBounds j true).getD k false=true:=by
 by_cases e:j=k
 .subst e
  rcases A8 j listed.size with a|a
  .simp[a]
  .simp[E0 a]at h
 .rw[getD_set_ne false e];exact h
theorem oZ.set{listed:Array Bool}(hc:oZ md ops listed){j:Nat}(hj:j∈I4 md ops listed):oZ md ops (listed.setIfInBounds j true):=λk a o ho e he hb=>by
 by_cases b:j=k
 .subst b;exact getD_set (bNy hj o ho e he hb)
 .rw[getD_set_ne false b]at a;exact getD_set (hc k a o ho e he hb)
theorem oZ.none{n:Nat}:oZ md ops (E5 n false):=λj a=>by
 simp at a
 rcases A8 j n with h|h<;>simp[h]at a
theorem wpAnyR_first{i l:Nat}{oi:Oper}{v:Value}(hi:ops[i]?=some oi)(hw:waits md ops l i=true)(hsel: ∀(j:Nat) (o:Oper) cs b,ops[j]?=some o->o.op≠ .select cs b)(hR: ∀listed a w,R listed a w->I4 md ops listed=[l]):
  ∀(fuel:Nat) (listed:Array Bool) (a:Act) (w:World),oZ md ops listed->
   (∀j oj,ops[j]?=some oj->j≠i->listed.getD j true=false->(∀e∈oj.after,I5 md e=true->e.on≠i)->oi.apart ops oj=true)->
   i∈I4 md ops listed->Fl P ops C oi v a->
   bQg P md ops C R fuel (listed.setIfInBounds i true) (a.put oi.dst v) w->bQg P md ops C R (fuel+1) listed a w:=by
 have d: ∀{listed:Array Bool},i∈I4 md ops listed->listed.getD i false≠true:=λ{listed} hr e=>by
  have h0:=(mem_ready.1 hr).1
  rcases A8 i listed.size with A|A
  .simp[A]at h0 e;rw[h0]at e;cases e
  .simp[E0 A]at e
 intro fuel
 induction fuel with
 |zero=>
  intro listed a w z _ hr t H;refine⟨H.1,λh=>z8,λj p=>?_⟩
  by_cases c:j=i
  .subst c;exact t.fOp hi H.1 H
  .have h1:=ready_mono p c;rw[hR _ _ _ H.2]at h1;have h2:j=l:=by simpa using h1
   subst h2;exact absurd p (bUl z hw (d hr))
 |succ fuel ih=>
  intro listed a w z f hr t H;refine⟨H.1,λh=>z8,λj p=>?_⟩
  by_cases c:j=i
  .subst c;exact t.fOp hi H.1 H
  .have h1:=H.2.2 j (ready_mono p c);obtain⟨m,oj,n,s⟩:=mem_ready.1 p
   have q: ∀e∈oj.after,I5 md e=true->e.on≠i:=λe he hb y=>by have h1:=s e he hb;rw[y]at h1;exact d hr h1
   have h2:=fOp_put n (f j oj n c m q) (λcs b=>hsel i oi cs b hi) (λcs b=>hsel j oj cs b n) t h1;have g: ∀k ok,ops[k]?=some ok->k≠i->(listed.setIfInBounds j true).getD k true=false->
     (∀e∈ok.after,I5 md e=true->e.on≠i)->oi.apart ops ok=true:=λk ok D x d u=>by
    refine f k ok D x ?_ u
    by_cases r:j=k
    .subst r;exact m
    .rw[getD_set_ne true r]at d;exact d
   refine gL (λE B h3=>ih (listed.setIfInBounds j true) E B (z.set p) g (ready_mono hr (Ne.symm c)) h3.1 ?_) h2;rw[E4 _ _ c];exact h3.2
def nE (P:Program)(ops:Array Oper)(C:World->Prop)(Q:Exit->Act->World->Prop)(l:Nat):List (Bool×Nat)->Act->World->Prop
 |[],a,w=>fOp P ops l (Q .normal) a w
 |(true,k)::r,a,w=> ∃o v,ops[k]?=some o/\Fl P ops C o v a/\nE P ops C Q l r (a.put o.dst v) w
 |(false,k)::r,a,w=>fOp P ops k (λa w=>C w/\nE P ops C Q l r a w) a w
def bPg (md:Region.Mode)(ops:Array Oper)(l:Nat):List (Bool×Nat)->Array Bool->Bool
 |[],listed=>(I4 md ops listed==[l])&&(I4 md ops (listed.setIfInBounds l true)).isEmpty
 |(true,k)::r,listed=>(I4 md ops listed).contains k&&I6 md ops listed k&&waits md ops l k&&bPg md ops l r (listed.setIfInBounds k true)
 |(false,k)::r,listed=>(I4 md ops listed==[k])&&bPg md ops l r (listed.setIfInBounds k true)
def EndL (P:Program)(md:Region.Mode)(ops:Array Oper)(Q:Exit->Act->World->Prop)(l:Nat)(listed:Array Bool)(a:Act)(w:World):Prop:=
 I4 md ops listed=[l]/\I4 md ops (listed.setIfInBounds l true)=[]/\fOp P ops l (Q .normal) a w
theorem bDf{Q:Exit->Act->World->Prop}{l:Nat}(hs:I7 ops=true): ∀(od:List (Bool×Nat)) (listed:Array Bool) (a:Act) (w:World),oZ md ops listed->bPg md ops l od listed=true->C w->nE P ops C Q l od a w->bQg P md ops C (EndL P md ops Q l) od.length listed a w
 |[],listed,a,w,_,hB,hC,h=>by
  simp only[bPg,L9,beq_iff_eq]at hB;exact⟨hC,hB.1,by simpa using hB.2,h⟩
 |(true,k)::r,listed,a,w,hc,hB,hC,h=>by
  simp only[bPg,L9]at hB;obtain⟨o,v,ho,d,e⟩:=h;exact wpAnyR_first ho hB.1.2 (I8 hs) (λ_ _ _ h=>h.1) r.length listed a w hc (I9 ho hB.1.1.2) (by simpa using hB.1.1.1) d (bDf hs r _ _ _ (hc.set (by simpa using hB.1.1.1)) hB.2 hC e)
 |(false,k)::r,listed,a,w,hc,hB,hC,h=>by
  simp only[bPg,L9,beq_iff_eq]at hB;refine⟨hC,λh0=>aa5,λi b=>?_⟩;rw[hB.1]at b;have:i=k:=by simpa using b
  subst this;exact gL (λg f c=>bDf hs r _ _ _ (hc.set (by rw[hB.1];simp)) hB.2 c.1 c.2) h
theorem end_any{Q:Exit->Act->World->Prop}{l:Nat}(listed:Array Bool)(a:Act)(w:World)(h:EndL P md ops Q l listed a w):wpAny P md ops Q 1 listed a w:=by
 refine⟨λe=>(by rw[h.1]at e;cases e),λi g=>?_⟩;rw[h.1]at g;have:i=l:=by simpa using g
 subst this;have k:=h.2.2;unfold wpOp;split
 .rename_i ho;have hl:i∈I4 md ops listed:=by rw[h.1];simp
  obtain⟨_,m,b,_⟩:=mem_ready.1 hl;rw[ho]at b;cases b
 .rename_i o ho;have h1:=wpNm (k o ho);split
  .rename_i c;simp only[c,if_true]at h1;exact .inl (qA rfl (λu j f=>⟨h.2.1,f⟩) (λd j f=>⟨h.2.1,f⟩) h1)
  .rename_i c;simp only[c]at h1;exact⟨h.2.1,h1⟩
def mixLOk(l:Nat)(od:List (Bool×Nat))(ops:Array Oper):Bool:=I7 ops&&B1 (od.length+1) ops.size&&bPg .any ops l od (E5 ops.size false)
end
section
variable {P : Program} {β : dY} {n : Nat} {Γ : Env} {H : List bD} {F : List bC} {Q : Exit -> Act -> World -> Prop} {Hk : List bD} {F0 : List bC} {ops : Array Oper}
theorem mF{id:Nat}{l:List Oper}(last:Nat)(Hk:List bD)(F0:List bC)(od:List (Bool×Nat))(hm:P.follows .mixedOrders=true)(hB:mixLOk last od l.toArray=true)(hH:Sel H Hk)(hF:bA F F0)
  (h:At β n Γ H F (nE P l.toArray (StF β Hk F0) Q last od)):At β n Γ H F ((E6 id l.toArray true).wp P Q):=λa w S f s k=>by
 simp only[mixLOk,L9]at hB;have e:=StF.drew ⟨S,s,k⟩;obtain⟨d,b,c⟩:=e;refine wp_region_any hm ?_;have h1:=bDf (P:=P) (md:= .any) (C:=StF β Hk F0) (Q:=Q) hB.1.1 od (E5 l.toArray.size false) a _ oZ.none hB.2 (StF.sel hH hF ⟨d,b,c⟩) (h a _ d f b c);have h2:=xK (Q:=Q) end_any _ _ _ _ h1
 rwa[B5 hB.1.2]at h2
theorem bLk{r:List (Bool×Nat)}{o:Oper}{l k d:Nat}{v:Value}(hk:ops[k]?=some o)(hw:want ops Γ o=some true)(hd:o.dst=some d)(hn:C2 d n=true)(h:Sti P β n Γ Hk F0 o v)
  (K:At β n ((d,v)::Γ) H F (nE P ops (StF β Hk F0) Q l r)):At β n Γ H F (nE P ops (StF β Hk F0) Q l ((true,k)::r)):=λa w S f s g=>by refine⟨o,v,hk,.inl ⟨f.want hw,λb ⟨i,c,e⟩=>h a b i f c e⟩,?_⟩;rw[hd];exact K _ _ S (f.put m8 v) s g
theorem stL{r:List (Bool×Nat)}{o:Oper}{l k d:Nat}{v:Value}(hk:ops[k]?=some o)(h:Sti P β n Γ Hk F0 o v)(K:At β n ((d,v)::Γ) H F (nE P ops (StF β Hk F0) Q l r))(hw:want ops Γ o=some true:=by exact rfl)(hd:o.dst=some d:=by exact rfl)(hn:Nat.blt d n=true:=by exact rfl):At β n Γ H F (nE P ops (StF β Hk F0) Q l ((true,k)::r)):=bLk hk hw hd hn h K
theorem atl_op{r:List (Bool×Nat)}{o:Oper}{l k:Nat}{C:World->Prop}(hk:ops[k]?=some o)(h:At β n Γ H F (wpList P ops (Nm λa w=>C w/\nE P ops C Q l r a w) [o])):At β n Γ H F (nE P ops C Q l ((false,k)::r)):=λa w S f s d c b=>by have:c=o:=Option.some.inj (b.symm.trans hk);subst this;exact h a w S f s d
theorem atl_go{r:List (Bool×Nat)}{l:Nat}(hH:Sel H Hk)(hF:bA F F0)(h:At β n Γ H F (nE P ops (StF β Hk F0) Q l r)):At β n Γ H F (wpList P ops (Nm λa w=>StF β Hk F0 w/\nE P ops (StF β Hk F0) Q l r a w) []):=λa w S f s k=>
 ⟨rfl,StF.sel hH hF ⟨S,s,k⟩,h a w S f s k⟩
theorem atl_last{o:Oper}{l:Nat}{C:World->Prop}(hk:ops[l]?=some o)(h:At β n Γ H F (wpList P ops (Nm (Q .normal)) [o])):At β n Γ H F (nE P ops C Q l []):=λa w S f s d c b=>by have:c=o:=Option.some.inj (b.symm.trans hk);subst this;exact h a w S f s d
theorem atl_end{K:Act->World->Prop}(h:At β n Γ H F K):At β n Γ H F (wpList P ops (Nm K) []):=λa w S f s k=>⟨rfl,h a w S f s k⟩
end
end
section
namespace X
noncomputable section
inductive T (α:Type) where
 |lf
 |nd (l:T α) (x:Option α) (r:T α)
def T.get {α:Type}(t:T α):Nat->Option α:=
 T.rec (motive:=λ_=>Nat->Option α) (λ_=>none) (λ_ x _ gl gr n=>D3 x (λm _=>M1 gr gl (B1 (D4 m 2) 0) (D5 m 2)) n) t
def T.set {α:Type}(v:Option α)(f:Nat):T α->Nat->T α:=
 D3 (motive:=λ_=>T α->Nat->T α) (λ_ _=> .lf)
  (λ_ ih t n=>T.rec (motive:=λ_=>T α)
   (D3 (.nd .lf v .lf) (λm _=>M1 (.nd .lf none (ih .lf (D5 m 2))) (.nd (ih .lf (D5 m 2)) none .lf) (B1 (D4 m 2) 0)) n)
   (λl x r _ _=>D3 (.nd l v r) (λm _=>M1 (.nd l x (ih r (D5 m 2))) (.nd (ih l (D5 m 2)) x r) (B1 (D4 m 2) 0)) n) t) f
def ob {α β:Type}(o:Option α)(f:α->Option β):Option β:=N3 none f o
def gd {β:Type}(c:Bool)(x:Option β):Option β:=M1 none x c
def sel {α:Type}(c:Bool)(x y:α):α:=M1 y x c
def oc {α β:Type}(o:Option α)(n:β)(f:α->β):β:=N3 n f o
def nthL {α:Type}(l:List α):Nat->Option α:=H5 (motive:=λ_=>Nat->Option α) (λ_=>none) (λv _ ih n=>D3 (some v) (λm _=>ih m) n) l
def allL {α:Type}(p:α->Bool)(l:List α):Bool:=H5 true (λv _ ih=>sel (p v) ih false) l
def bKv {α β:Type}(f:α->Option β)(l:List α):Option (List β):=H5 (some []) (λv _ ih=>ob (f v) λx=>ob ih λr=>some (x::r)) l
def isSm {α:Type}(o:Option α):Bool:=N3 false (λ_=>true) o
def mapZ {α β:Type}(z:β)(f:α->Option β)(l:List α):Option (List β):=gd (allL (λx=>isSm (f x)) l) (some (H5 [] (λv _ ih=>oc (f v) z (λx=>x)::ih) l))
def cutL {α:Type}(l:List α):Nat->Nat->Option (List α):=H5 (motive:=λ_=>Nat->Nat->Option (List α))
 (λo n=>D3 (D3 (some []) (λ_ _=>none) n) (λ_ _=>none) o)
 (λv _ ih o n=>D3 (D3 (some []) (λm _=>ob (ih 0 m) λr=>some (v::r)) n) (λp _=>ih p n) o) l
def pasteL{α:Type}(l:List α):Nat->List α->Option (List α):=H5 (motive:=λ_=>Nat->List α->Option (List α))
 (λo vs=>D3 (H5 (some []) (λ_ _ _=>none) vs) (λ_ _=>none) o)
 (λv t ih o vs=>D3 (H5 (some (v::t)) (λu us _=>ob (ih 0 us) λr=>some (u::r)) vs) (λp _=>ob (ih p vs) λr=>some (v::r)) o) l
def sQ {α:Type}(n:Nat)(z:List α):List α:=D3 [] (λ_ ih=>z++ih) n
section
variable {α β : Type}
theorem T.get_set_fuel(v:Option α): ∀(f:Nat) (t:T α) (n j:Nat) (u:α),(t.set v f n).get j=some u->(j=n/\v=some u)\/(j≠n/\t.get j=some u)
 |0,_,_,_,_,h=>by cases h
 |f+1,t,n,j,u,h=>by
  have ev: ∀m k:Nat,B1 (D4 m 2) 0=B1 (D4 k 2) 0->D5 m 2=D5 k 2->m=k:=λm k h1 h2=>by
   have g:m%2=0↔k%2=0:=by show D4 m 2=0↔D4 k 2=0;rw[<-D6,<-D6,h1]
   have d:m/2=k/2:=h2;omega
  cases t with
  |lf=>
   cases n with
   |zero=>
    cases j with
    |zero=>exact .inl ⟨rfl,h⟩
    |succ j=>
     exfalso
     have h:(M1 (motive:=λ_=>Nat->Option α) (λ_=>none) (λ_=>none) (B1 (D4 j 2) 0) (D5 j 2))=some u:=h;cases hb:B1 (D4 j 2) 0<;>rw[hb]at h<;>cases h
   |succ m=>
    have h:((M1 (motive:=λ_=>T α) (.nd .lf none (T.set v f .lf (D5 m 2))) (.nd (T.set v f .lf (D5 m 2)) none .lf) (B1 (D4 m 2) 0)):T α).get j=some u:=h;cases c:B1 (D4 m 2) 0<;>rw[c]at h
    .cases j with
     |zero=>cases h
     |succ j=>
      have h:(M1 (motive:=λ_=>Nat->Option α) (T.get (T.set v f .lf (D5 m 2))) (λ_=>none) (B1 (D4 j 2) 0) (D5 j 2))=some u:=h;cases a:B1 (D4 j 2) 0<;>rw[a]at h
      .rcases T.get_set_fuel v f _ _ _ _ h with ⟨e,h⟩|⟨_,h⟩
       .exact .inl ⟨by rw[ev j m (by rw[a,c]) e],h⟩
       .cases h
      .cases h
    .cases j with
     |zero=>cases h
     |succ j=>
      have h:(M1 (motive:=λ_=>Nat->Option α) (λ_=>none) (T.get (T.set v f .lf (D5 m 2))) (B1 (D4 j 2) 0) (D5 j 2))=some u:=h;cases a:B1 (D4 j 2) 0<;>rw[a]at h
      .cases h
      .rcases T.get_set_fuel v f _ _ _ _ h with ⟨e,h⟩|⟨_,h⟩
       .exact .inl ⟨by rw[ev j m (by rw[a,c]) e],h⟩
       .cases h
  |nd l x r=>
   cases n with
   |zero=>
    cases j with
    |zero=>exact .inl ⟨rfl,h⟩
    |succ j=>exact .inr ⟨m9,h⟩
   |succ m=>
    have h:((M1 (motive:=λ_=>T α) (.nd l x (T.set v f r (D5 m 2))) (.nd (T.set v f l (D5 m 2)) x r) (B1 (D4 m 2) 0)):T α).get j=some u:=h;cases c:B1 (D4 m 2) 0<;>rw[c]at h
    .cases j with
     |zero=>exact .inr ⟨m9,h⟩
     |succ j=>
      have h:(M1 (motive:=λ_=>Nat->Option α) (T.get (T.set v f r (D5 m 2))) (T.get l) (B1 (D4 j 2) 0) (D5 j 2))=some u:=h;cases a:B1 (D4 j 2) 0<;>rw[a]at h
      .rcases T.get_set_fuel v f _ _ _ _ h with ⟨e,h⟩|⟨e,h⟩
       .exact .inl ⟨by rw[ev j m (by rw[a,c]) e],h⟩
       .refine .inr ⟨λb=>e (by injection b with b;rw[b]),?_⟩;show(M1 (motive:=λ_=>Nat->Option α) (T.get r) (T.get l) (B1 (D4 j 2) 0) (D5 j 2))=some u;rw[a];exact h
      .refine .inr ⟨λb=>?_,?_⟩
       .injection b with b
        rw[b,c]at a;cases a
       .show(M1 (motive:=λ_=>Nat->Option α) (T.get r) (T.get l) (B1 (D4 j 2) 0) (D5 j 2))=some u;rw[a];exact h
    .cases j with
     |zero=>exact .inr ⟨m9,h⟩
     |succ j=>
      have h:(M1 (motive:=λ_=>Nat->Option α) (T.get r) (T.get (T.set v f l (D5 m 2))) (B1 (D4 j 2) 0) (D5 j 2))=some u:=h;cases a:B1 (D4 j 2) 0<;>rw[a]at h
      .refine .inr ⟨λb=>?_,?_⟩
       .injection b with b
        rw[b,c]at a;cases a
       .show(M1 (motive:=λ_=>Nat->Option α) (T.get r) (T.get l) (B1 (D4 j 2) 0) (D5 j 2))=some u;rw[a];exact h
      .rcases T.get_set_fuel v f _ _ _ _ h with ⟨e,h⟩|⟨e,h⟩
       .exact .inl ⟨by rw[ev j m (by rw[a,c]) e],h⟩
       .refine .inr ⟨λb=>e (by injection b with b;rw[b]),?_⟩;show(M1 (motive:=λ_=>Nat->Option α) (T.get r) (T.get l) (B1 (D4 j 2) 0) (D5 j 2))=some u;rw[a];exact h
theorem bB{o:Option α}{f:α->Option β}{b:β}(h:ob o f=some b): ∃a,o=some a/\f a=some b:=by
 cases o with
 |none=>cases h
 |some a=>exact⟨a,rfl,h⟩
theorem bQ{c:Bool}{x:Option β}{b:β}(h:gd c x=some b):c=true/\x=some b:=by
 cases c with
 |false=>cases h
 |true=>exact⟨rfl,h⟩
theorem cP(c:Bool)(x y:α):sel c x y=if c=true then x else y:=by cases c<;>rfl
theorem sY(o:Option α)(n:β)(f:α->β):oc o n f=match o with|none=>n|some a=>f a:=by cases o<;>rfl
theorem jM: ∀(l:List α) (n:Nat),nthL l n=l[n]?
 |[],_=>rfl
 |_::_,0=>rfl
 |_::r,n+1=>jM r n
theorem qD(p:α->Bool): ∀l:List α,allL p l=l.all p
 |[]=>rfl
 |v::r=>by have:allL p (v::r)=M1 false (allL p r) (p v):=rfl;rw[this,qD p r,List.all_cons];cases p v<;>rfl
theorem bGu(f:α->Option β): ∀(l:List α) (r:List β),bKv f l=some r->l.map f=r.map some
 |[],r,h=>by cases h;rfl
 |v::l,r,h=>by obtain⟨x,hx,h⟩:=bB h;obtain⟨a,hr,h⟩:=bB h;cases h;simp[hx,bGu f l a hr]
theorem bVo(z:β)(f:α->Option β): ∀(l:List α) (r:List β),mapZ z f l=some r->l.map f=r.map some
 |[],r,h=>by
  have h:some ([]:List β)=some r:=h;cases h;rfl
 |v::l,r,h=>by
  obtain⟨h1,h2⟩:=bQ h;cases h2;have h1:M1 false (allL (λx=>isSm (f x)) l) (isSm (f v))=true:=h1
  cases a:f v with
  |none=>rw[a]at h1;cases h1
  |some x=>
   rw[a]at h1;have h3:allL (λx=>isSm (f x)) l=true:=h1
   have h4:mapZ z f l=some (H5 [] (λv _ b=>oc (f v) z (λx=>x)::b) l):=by unfold mapZ;rw[h3];rfl
   have:=bVo z f l _ h4;rw[H6,this,a];show _=some (oc (f v) z λx=>x)::_;rw[a];rfl
theorem nW: ∀(l:List α) (o n:Nat) (r:List α),cutL l o n=some r->r=(l.drop o).take n/\o+n<=l.length
 |[],0,0,r,h=>by cases h;simp
 |[],0,_+1,r,h=>by cases h
 |[],_+1,_,r,h=>by cases h
 |v::l,0,0,r,h=>by cases h;simp
 |v::l,0,n+1,r,h=>by
  obtain⟨a,hr,h⟩:=bB h;cases h;obtain⟨e,hl⟩:=nW l 0 n a hr;simp at hl;simp[e,hl]
 |v::l,o+1,n,r,h=>by obtain⟨e,hl⟩:=nW l o n r h;refine⟨by simpa using e,by simp;omega⟩
theorem sB: ∀(l:List α) (o:Nat) (vs r:List α),pasteL l o vs=some r->o+vs.length<=l.length/\r=l.take o++vs++l.drop (o+vs.length)
 |[],0,[],r,h=>by cases h;simp
 |[],0,_::_,r,h=>by cases h
 |[],_+1,_,r,h=>by cases h
 |v::l,0,[],r,h=>by cases h;simp
 |v::l,0,u::us,r,h=>by
  obtain⟨a,hr,h⟩:=bB h;cases h;obtain⟨h1,h2⟩:=sB l 0 us a hr;simp at h1 h2;refine⟨by simp;omega,by simp[h2]⟩
 |v::l,o+1,vs,r,h=>by obtain⟨a,hr,h⟩:=bB h;cases h;obtain⟨h1,h2⟩:=sB l o vs a hr;refine⟨by simp;omega,?_⟩;rw[show o+1+vs.length=(o+vs.length)+1 from by omega];simp[h2]
theorem bLm(n:Nat)(z:List α):sQ n z=(List.replicate n z).flatten:=by
 induction n with
 |zero=>rfl
 |succ n ih=>
  have:sQ (n+1) z=z++sQ n z:=rfl;rw[this,ih,List.replicate_succ,List.flatten_cons]
end
end
end X
end
section
namespace X
noncomputable section
inductive Cap where
 |n (c:Nat)
 |s (c d:Nat)
inductive V where
 |b (x:Bool)|i (k:IntKind) (x:Int)|s (x:List Nat)
 |p0|p (k o:Nat)|l0|l (k o n:Nat) (c:Cap)|z (k o o' c:Nat)|y (c:Nat)|m0|m (k:Nat)
 |f (fn:Fn) (a c:List V)|f0|e0|e (t:Nat) (v:V)|g (cs:List V)|t (vs:List V)
abbrev E:=T V
abbrev Ent:=V×V×Nat
inductive Blk where
 |cells (cs:List V) (t:TypeId) (ext:Option Nat) (ro:Bool)
 |map (es:List Ent) (clock:Nat)
 |sit (s:List Nat) (pos:Nat)
 |mit (m:Option Nat) (since:Nat) (seen:List Nat) (last:Nat)
 |win (cs:List V)
 |know (n:Nat)
structure St where
 h:T Blk
 n:Nat
 c:Nat
abbrev Orc:=List V->St->Option (V×St)
abbrev Plan:=List (Bool×Nat)×List Nat
def undefV:V:= .t []
def V.cells:V->List V
 |.g cs=>cs
 |v=>[v]
def V.one:V->Bool
 |.g _=>false
 |.t _=>false
 |_=>true
def Cap.ok(c:Nat):Cap->Bool
 |.n _=>true
 |.s k _=>C2 k c
def okD (n c d:Nat):V->Bool:=D3 (motive:=λ_=>V->Bool) (λ_=>false) (λ_ ih v=>match v with
 |.p k _=>C2 k n
 |.l k _ _ cp=>C2 k n&&cp.ok c
 |.m k=>C2 k n
 |.z k _ _ cp=>C2 k n&&C2 cp c
 |.y cp=>C2 cp c
 |.f _ x y=>allL ih x&&allL ih y
 |.e _ v=>ih v
 |.g cs=>allL ih cs
 |.t vs=>allL ih vs
 |_=>true) d
def V.ok (n c:Nat)(v:V):Bool:=okD n c 5 v
def ofD (d:Nat):Value->Option V:=D3 (motive:=λ_=>Value->Option V) (λ_=>none) (λ_ ih v=>match v with
 |.bool x=>some (.b x)
 |.int k x=>some (.i k x)
 |.string s=>some (.s (s.data.toList.map N7))
 |.pointer none=>some .p0
 |.slice none 0 0=>some .l0
 |.map none=>some .m0
 |.func fn a c=>match a.toList,c.toList with
  |[],[]=>some (.f fn [] [])
  |_,_=>none
 |.nilFunc=>some .f0
 |.nilIface=>some .e0
 |.agg cs=>ob (mapZ undefV ih cs.toList) λl=>some (.g l)
 |.tuple cs=>match cs.toList with
  |[]=>some (.t [])
  |_=>none
 |_=>none) d
def ofV (v:Value):Option V:=ofD 5 v
class Ctx where
 P:Program
 gl:Nat->Option Nat
 orc:FuncId->Option Orc
 quiet:List FuncId
 known:FuncId->Bool
 n0:Nat
 plan:FuncId->Nat->Option Plan
 G:Nat->Obj->Prop
 meth:TypeId->String->Option (FuncId×Option TypeId)
 kw:Nat->Option (List V)
 kwOk: ∀n cs o,kw n=some cs->G n o->(∀v∈cs,v.one=true)/\ ∃C t z,o= .cells C t z/\ ∀(i:Nat) (v:V),cs[i]?=some v-> ∃u,C[i]?=some u/\ofV u=some v
section
variable {β : Type}
def asB (v:V):(Bool->Option β)->Option β:=match v with
 |.b x=>λf=>f x
 |_=>λ_=>none
def asI (v:V):(IntKind->Int->Option β)->Option β:=match v with
 |.i k x=>λf=>f k x
 |_=>λ_=>none
def asN (v:V):(Nat->Option β)->Option β:=match v with
 |.i _ (.ofNat n)=>λf=>f n
 |_=>λ_=>none
def asP (v:V):(Nat->Nat->Option β)->Option β:=match v with
 |.p k o=>λf=>f k o
 |_=>λ_=>none
def asS (v:V):(List Nat->Option β)->Option β:=match v with
 |.s a=>λf=>f a
 |_=>λ_=>none
def asG (v:V):(List V->Option β)->Option β:=match v with
 |.g cs=>λf=>f cs
 |_=>λ_=>none
def asT (v:V):(List V->Option β)->Option β:=match v with
 |.t cs=>λf=>f cs
 |_=>λ_=>none
def asM (v:V):(Nat->Option β)->Option β:=match v with
 |.m k=>λf=>f k
 |_=>λ_=>none
def Blk.row0:Blk->Option (List V)
 |.cells cs _ _ _=>some cs
 |.win cs=>some cs
 |_=>none
def rowX0 (s:St)(k o n:Nat):Option (List V):=ob (s.h.get k) λx=>ob x.row0 λcs=>cutL cs o n
def Blk.row [Ctx]:Blk->Option (List V)
 |.cells cs _ _ _=>some cs
 |.win cs=>some cs
 |.know n=>Ctx.kw n
 |_=>none
def asC (x:Blk):(List V->TypeId->Option Nat->Bool->Option β)->Option β:=match x with
 |.cells cs t ext ro=>λf=>f cs t ext ro
 |_=>λ_=>none
def asMap (x:Blk):(List Ent->Nat->Option β)->Option β:=match x with
 |.map es c=>λf=>f es c
 |_=>λ_=>none
end
def ieq (a b:Int):Bool:=match a with
 |.ofNat x=>match b with
  |.ofNat y=>B1 x y
  |.negSucc _=>false
 |.negSucc x=>match b with
  |.ofNat _=>false
  |.negSucc y=>B1 x y
def ilt (a b:Int):Bool:=match a with
 |.ofNat x=>match b with
  |.ofNat y=>C2 x y
  |.negSucc _=>false
 |.negSucc x=>match b with
  |.ofNat _=>true
  |.negSucc y=>C2 y x
def lim:IntKind->Nat
 |.i8=>128|.i16=>32768|.i32=>2147483648|.i64=>9223372036854775808
 |.u8=>256|.u16=>65536|.u32=>4294967296|.u64=>18446744073709551616
def isI64:IntKind->Bool
 |.i64=>true
 |_=>false
def wrapF (k:IntKind)(x:Int):Int:=match x with
 |.ofNat m=>sel (C2 m (lim k)) (.ofNat m) (k.wrap (.ofNat m))
 |.negSucc m=>sel (isI64 k) (sel (C2 m 9223372036854775808) (.negSucc m) (k.wrap (.negSucc m))) (k.wrap (.negSucc m))
def bitX (f:(n:Nat)->BitVec n->BitVec n->BitVec n)(k:IntKind)(a b:Int):V:= .i k (k.wrap ((f k.bits (BitVec.ofInt k.bits a) (BitVec.ofInt k.bits b)).toNat:Nat))
def arithX(op:BinOp):IntKind->Int->Int->Option V:=match op with
 |.add=>λk a b=>some (.i k (wrapF k (Int.add a b)))
 |.sub=>λk a b=>some (.i k (wrapF k (Int.sub a b)))
 |.mul=>λk a b=>some (.i k (wrapF k (Int.mul a b)))
 |.or=>λk a b=>some (bitX (λ_ x y=>x ||| y) k a b)
 |.and=>λk a b=>some (bitX (λ_ x y=>x&&&y) k a b)
 |.xor=>λk a b=>some (bitX (λ_ x y=>x^^^y) k a b)
 |.quo=>λk a b=>gd (!ieq b 0) (some (.i k (wrapF k (a.tdiv b))))
 |.rem=>λk a b=>gd (!ieq b 0) (some (.i k (a.tmod b)))
 |.eql=>λ_ a b=>some (.b (ieq a b))
 |.neq=>λ_ a b=>some (.b (!ieq a b))
 |.lss=>λ_ a b=>some (.b (ilt a b))
 |.leq=>λ_ a b=>some (.b (!ilt b a))
 |.gtr=>λ_ a b=>some (.b (ilt b a))
 |.geq=>λ_ a b=>some (.b (!ilt a b))
 |_=>λ_ _ _=>none
def shlX (k:IntKind)(a b:Int):Option V:=match b with
 |.ofNat n=>some (.i k (k.wrap (a*2^min n k.bits)))
 |_=>none
def shrX (k:IntKind)(a b:Int):Option V:=match b with
 |.ofNat n=>some (.i k (a.fdiv (2^min n k.bits)))
 |_=>none
def seq:List Nat->List Nat->Bool
 |[],[]=>true
 |a::x,b::y=>B1 (a%256) (b%256)&&seq x y
 |_,_=>false
def strX (op:BinOp):List Nat->List Nat->Option V:=match op with
 |.add=>λa b=>gd (C2 (a.length+b.length) 9223372036854775808) (some (.s (a++b)))
 |.eql=>λa b=>some (.b (seq a b))
 |.neq=>λa b=>some (.b (!seq a b))
 |_=>λ_ _=>none
section
variable [Ctx]
def glX (g:Nat):Option V:=ob (Ctx.gl g) λk=>some (.p k 0)
def evX (x:Operand):E->Option V:=match x with
 |.tmp t=>λe=>e.get t
 |.const v=>λ_=>ofV v
 |.global g=>λ_=>glX g
 |.func f=>λ_=>some (.f (.func f) [] [])
def evsX (l:List Operand)(e:E):Option (List V):=bKv (λx=>evX x e) l
def sizeX (t:TypeId):Option Nat:=ob (Ctx.P.info? t) λi=>some i.size
def zeroX (t:TypeId):Option V:=ob (Ctx.P.info? t) λi=>ob i.zero ofV
def aggX (t:TypeId):Option Bool:=ob (Ctx.P.underlying t) λd=>match d with
 |.struct _=>some true
 |.array _ _=>some true
 |_=>some false
def wideX (t:TypeId):Option (Option Nat):=ob (aggX t) λa=>sel a (ob (sizeX t) λn=>some (some n)) (some none)
def bEf (t:TypeId)(cs:List V)(o:Nat):Option V:=ob (wideX t) λw=>oc w (nthL cs o) λn=>ob (cutL cs o n) λl=>some (.g l)
def eqFs (eq:TypeId->V->V->Option Bool)(xs ys:List V):List Field->Option Bool
 |[]=>some true
 |f::r=>sel (f.name== "_") (eqFs eq xs ys r) (ob (bEf f.type xs f.offset) λx=>ob (bEf f.type ys f.offset) λy=>ob (eq f.type x y) λc=>sel c (eqFs eq xs ys r) (some false))
def eqEs (eq:V->V->Option Bool)(e n:Nat)(xs ys:List V):Nat->Nat->Option Bool
 |0,_=>some true
 |m+1,i=>ob (bEf e xs (i*n)) λx=>ob (bEf e ys (i*n)) λy=>ob (eq x y) λc=>sel c (eqEs eq e n xs ys m (i+1)) (some false)
def eqBool:V->V->Option Bool
 |.b x,.b y=>some (x==y)
 |_,_=>none
def eqInt:V->V->Option Bool
 |.i k x,.i k' y=>gd (sameKind k k') (some (ieq x y))
 |_,_=>none
def eqStr:V->V->Option Bool
 |.s x,.s y=>some (seq x y)
 |_,_=>none
def eqPtr:V->V->Option Bool
 |.p0,.p0=>some true
 |.p0,.p _ _=>some false
 |.p _ _,.p0=>some false
 |.p k o,.p k' o'=>gd (B1 k k') (some (B1 o o'))
 |_,_=>none
def eqIface:V->V->Option Bool
 |.e0,.e0=>some true
 |.e0,.e _ _=>some false
 |.e _ _,.e0=>some false
 |_,_=>none
def eqSlice:V->V->Option Bool
 |.l0,.l0=>some true
 |.l0,.l _ _ _ _=>some false
 |.l _ _ _ _,.l0=>some false
 |.l0,.z _ _ _ _=>some false
 |.z _ _ _ _,.l0=>some false
 |_,_=>none
def eqMap:V->V->Option Bool
 |.m0,.m0=>some true
 |.m0,.m _=>some false
 |.m _,.m0=>some false
 |_,_=>none
def eqFunc:V->V->Option Bool
 |.f0,.f0=>some true
 |.f0,.f _ _ _=>some false
 |.f _ _ _,.f0=>some false
 |_,_=>none
def eqX:Nat->TypeId->V->V->Option Bool
 |0,_=>λ_ _=>none
 |d+1,t=>match Ctx.P.underlying t with
  |some .bool=>eqBool
  |some (.int _)=>eqInt
  |some .string=>eqStr
  |some (.pointer el)=>λx y=>ob (sizeX el) λn=>gd (!B1 n 0) (eqPtr x y)
  |some (.interface _)=>eqIface
  |some (.slice _)=>eqSlice
  |some (.map _ _)=>eqMap
  |some (.func _ _ _)=>eqFunc
  |some (.struct fs)=>λx y=>asG x λxs=>asG y λys=>gd (!Ctx.P.stoodInHeld t) (eqFs (eqX d) xs ys fs.toList)
  |some (.array len e)=>λx y=>asG x λxs=>asG y λys=>ob (sizeX e) λn=>eqEs (eqX d e) e n xs ys len 0
  |_=>λ_ _=>none
def bLs:Operand->Bool
 |.const _=>true
 |_=>false
def guardX(t:TypeId)(x y:Operand)(u v:V):Bool:=match u with
 |.e0=>match v with
  |.e0=>bLs x || bLs y
  |_=>true
 |.g _=>match v with
  |.g _=>!Ctx.P.eqGuardType Ctx.P.depth t
  |_=>true
 |_=>true
def eqOp (t:TypeId)(x y:Operand)(u v:V):Option Bool:=gd (guardX t x y u v) (eqX 12 t u v)
def binI (op:BinOp):IntKind->Int->IntKind->Int->Option V:=match op with
 |.shl=>λk a _ b=>shlX k a b
 |.shr=>λk a _ b=>shrX k a b
 |op=>λk a k' b=>gd (sameKind k k') (arithX op k a b)
def binE (op:BinOp)(t:TypeId)(x y:Operand)(u v:V):Option V:=match op with
 |.eql=>ob (eqOp t x y u v) λr=>some (.b r)
 |.neq=>ob (eqOp t x y u v) λr=>some (.b (!r))
 |_=>none
def binX (op:BinOp)(t:TypeId)(x y:Operand)(u v:V):Option V:=match u with
 |.i k a=>asI v (binI op k a)
 |.s a=>asS v (strX op a)
 |u=>binE op t x y u v
def Cap.least:Cap->Nat
 |.n c=>c
 |.s _ d=>d
def lL (x:Option Operand)(d:Nat)(e:E):Option Nat:=oc x (some d) λx=>ob (evX x e) λv=>asN v some
def slStr (a:List Nat)(l h:Nat):Option V:=gd (C7 l h&&C7 h a.length) (some (.s ((a.drop l).take (h-l))))
def slCap (k o sz l h:Nat):Cap->Option V
 |.n cc=>some (.l k (sel (B1 cc l) o (o+l*sz)) (h-l) (.n (cc-l)))
 |.s cn d=>sel (B1 l 0) (some (.l k o h (.s cn d))) (sel (C2 l d) (some (.l k (o+l*sz) (h-l) (.s cn (d-l)))) (some (.z k o (o+l*sz) cn)))
def slRow (k o n sz:Nat)(c:Cap)(lo hi mx:Option Operand)(e:E):Option V:=ob (lL lo 0 e) λl=>ob (lL hi n e) λh=>oc mx
 (gd (C7 l h&&C7 h c.least) (slCap k o sz l h c))
 λ_=>ob (lL mx 0 e) λm=>gd (hi.isSome&&(C7 l h&&(C7 h m&&C7 m c.least))) (some (.l k (sel (B1 m l) o (o+l*sz)) (h-l) (.n (m-l))))
def slNil (lo hi mx:Option Operand)(e:E):Option V:=ob (lL lo 0 e) λl=>ob (lL hi 0 e) λh=>ob (lL mx 0 e) λm=>gd ((hi.isSome || !mx.isSome)&&(B1 l 0&&(B1 h 0&&B1 m 0))) (some .l0)
def slArr (k o n sz:Nat)(lo hi mx:Option Operand)(e:E):Option V:=ob (lL lo 0 e) λl=>ob (lL hi n e) λh=>oc mx
 (gd (C7 l h&&C7 h n) (some (.l k (sel (B1 n l) o (o+l*sz)) (h-l) (.n (n-l))))) λ_=>none
def slS (a:List Nat)(lo hi mx:Option Operand)(e:E):Option V:=ob (lL lo 0 e) λl=>ob (lL hi a.length e) λh=>oc mx (slStr a l h) λ_=>none
def elemOf(t:TypeId):Option (Option Nat×TypeId×Nat):=ob (Ctx.P.underlying t) λd=>match d with
 |.slice el=>ob (sizeX el) λsz=>some (none,el,sz)
 |.array n el=>ob (sizeX el) λsz=>some (some n,el,sz)
 |_=>none
def sliceV(n:Option Nat)(sz:Nat)(u:V):Option Operand->Option Operand->Option Operand->E->Option V:=match u with
 |.l0=>oc n slNil λ_ _ _ _ _=>none
 |.l k o m c=>oc n (slRow k o m sz c) λ_ _ _ _ _=>none
 |.p k o=>oc n (λ_ _ _ _=>none) λn=>slArr k o n sz
 |_=>λ_ _ _ _=>none
def isStr (t:TypeId):Bool:=match Ctx.P.underlying t with
 |some .string=>true
 |_=>false
def sliceX(t:TypeId)(u:V)(lo hi mx:Option Operand)(e:E):Option V:=sel (isStr t) (asS u λa=>slS a lo hi mx e) (ob (elemOf t) λq=>sliceV q.1 q.2.2 u lo hi mx e)
def placesX:List Field->Option (List (Nat×Nat)):=bKv λf=>ob (sizeX f.type) λn=>some (f.offset,n)
def bQx (place:Nat->Option (Nat×Nat))(cs:List V)(l:List (Nat×V)):Option (List V):=H5 (motive:=λ_=>List V->Option (List V)) (λcs=>some cs)
 (λx _ ih cs=>ob (place x.1) λq=>gd (B1 x.2.cells.length q.2) (ob (pasteL cs q.1 x.2.cells) ih)) l cs
def partsX(l:List (Nat×Operand))(e:E):Option (List (Nat×V)):=bKv (λx=>ob (evX x.2 e) λv=>some (x.1,v)) l
def placeOf(t:TypeId):Option (Nat->Option (Nat×Nat)):=ob (Ctx.P.underlying t) λd=>match d with
 |.struct fs=>ob (placesX fs.toList) λpl=>some (nthL pl)
 |.array _ el=>ob (sizeX el) λsz=>some λi=>some (i*sz,sz)
 |_=>none
def addO (o k:Nat):Nat:=Nat.add o k
def unX (op:UnOp)(v:V):Option V:=match op with
 |.not=>asB v λx=>some (.b (!x))
 |.neg=>asI v λk a=>some (.i k (wrapF k (Int.sub 0 a)))
 |_=>none
def byteX (v:V):Option Nat:=match v with
 |.i .u8 (.ofNat x)=>gd (C2 x 256) (some x)
 |_=>none
def bIh (s:St)(k o n:Nat):Option (List V):=ob (s.h.get k) λx=>ob x.row λcs=>cutL cs o n
def isU8 (t:TypeId):Bool:=match Ctx.P.underlying t with
 |some (.int .u8)=>true
 |_=>false
def isUns (t:TypeId):Bool:=match Ctx.P.underlying t with
 |some .unsafePointer=>true
 |_=>false
def cvBytes(el d:TypeId)(u:V)(s:St):Option V:=gd (isU8 el&&isStr d) (match u with
 |.l0=>some (.s [])
 |.l k o n _=>ob (bIh s k o n) λl=>ob (bKv byteX l) λa=>some (.s a)
 |_=>none)
def cvPtr (t d:TypeId)(u:V)(s:St):Option V:=asP u λk o=>ob (sizeX t) λn=>gd (isUns d&& !B1 n 0) (ob (s.h.get k) λx=>asC x λcs _ ext _=>oc ext (gd (C2 o cs.length) (some (.p k o))) λ_=>none)
def ptrTo (t:TypeId):Option TypeId:=ob (Ctx.P.underlying t) λd=>match d with
 |.pointer el=>some el
 |_=>none
def cvUns (d:TypeId)(u:V)(s:St):Option V:=ob (ptrTo d) λt=>asP u λk o=>ob (sizeX t) λn=>gd (!B1 n 0) (ob (s.h.get k) λx=>asC x λcs el ext _=>
 oc ext (gd (liesAt Ctx.P Ctx.P.depth el (cs.length/Ctx.P.cellsOf el) o t 1) (some (.p k o))) λ_=>none)
def cvOne (d:TypeId)(u:V):Option V:=ob (Ctx.P.underlying d) λd=>match d with
 |.int k=>asI u λ_ a=>some (.i k (wrapF k a))
 |.string=>asS u λa=>some (.s a)
 |_=>none
def cvX (src d:TypeId)(u:V):St->Option V:=match Ctx.P.underlying src with
 |none=>λ_=>none
 |some (.slice el)=>cvBytes el d u
 |some (.pointer t)=>cvPtr t d u
 |some .unsafePointer=>cvUns d u
 |some _=>λ_=>cvOne d u
def loadX (t:TypeId)(k o:Nat)(s:St):Option V:=ob (s.h.get k) λx=>ob x.row λcs=>bEf t cs o
def bFq (t:TypeId)(f:Nat):Option (TypeId×Nat):=ob (Ctx.P.underlying t) λd=>match d with
 |.struct fs=>ob (nthL fs.toList f) λfd=>some (fd.type,fd.offset)
 |_=>none
def fieldAt(t:TypeId)(f:Nat):Option Nat:=ob (bFq t f) λq=>ob (sizeX q.1) λn=>gd (!B1 n 0) (some q.2)
def idxX (u:V)(n:Option Nat)(sz z:Nat):Option V:=match u with
 |.l k o m _=>oc n (gd (C2 z m) (some (.p k (addO o (z*sz))))) λ_=>none
 |.p k o=>oc n none λn=>gd (C2 z n) (some (.p k (addO o (z*sz))))
 |_=>none
def atX (t:TypeId)(u:V)(z:Nat):Option V:=match u with
 |.s a=>gd (isStr t) (ob (nthL a z) λx=>some (.i .u8 (.ofNat (x%256))))
 |.g cs=>ob (elemOf t) λq=>oc q.1 none λn=>gd (C2 z n) (bEf q.2.1 cs (z*q.2.2))
 |_=>none
def nilX (u:V):Option V:=match u with
 |.p k o=>some (.p k o)
 |.f (.func f) a c=>some (.f (.func f) a c)
 |_=>none
def isIf (t:TypeId):Option Bool:=ob (Ctx.P.underlying t) λd=>match d with
 |.interface _=>some true
 |_=>some false
def asE {β:Type}(v:V):(TypeId->V->Option β)->Option β:=match v with
 |.e t v=>λf=>f t v
 |_=>λ_=>none
def lenD (d:TypeDesc)(u:V)(s:St):Option Nat:=match d with
 |.string=>asS u λa=>some a.length
 |.array n _=>some n
 |.slice _=>match u with
  |.l0=>some 0
  |.l _ _ n _=>some n
  |.z _ _ _ _=>some 0
  |.y _=>some 0
  |_=>none
 |.map _ _=>match u with
  |.m0=>some 0
  |.m k=>ob (s.h.get k) λx=>asMap x λes _=>some es.length
  |_=>none
 |_=>none
def isSl (t:TypeId):Bool:=match Ctx.P.underlying t with
 |some (.slice _)=>true
 |_=>false
def capX (u:V):Option V:=match u with
 |.l0=>some (.i .i64 0)
 |.l _ _ _ (.n c)=>some (.i .i64 (.ofNat c))
 |_=>none
def dataX (u:V):Option V:=match u with
 |.l0=>some .p0
 |.l k o _ c=>gd (!B1 c.least 0) (some (.p k o))
 |_=>none
section
variable (e : E)
def pLen (x:Operand)(t:TypeId)(s:St):Option V:=ob (evX x e) λu=>ob (Ctx.P.underlying t) λd=>ob (lenD d u s) λn=>some (.i .i64 (.ofNat n))
def pMost (hi:Bool)(x y:Operand):Option V:=ob (evX x e) λu=>ob (evX y e) λv=>asI u λk a=>asI v λ_ c=>some (.i k (sel (sel hi (ilt a c) (ilt c a)) c a))
end
def pCall (b:Builtin)(args:List Operand)(ts:List TypeId)(s:St)(e:E):Option V:=match b with
 |.len=>match args,ts with
  |[x],[t]=>pLen e x t s
  |_,_=>none
 |.cap=>match args,ts with
  |[x],[t]=>ob (evX x e) λu=>gd (isSl t) (capX u)
  |_,_=>none
 |.unsafeSliceData=>match args with
  |[x]=>ob (evX x e) dataX
  |_=>none
 |.max=>match args with
  |[x,y]=>pMost e true x y
  |_=>none
 |.min=>match args with
  |[x,y]=>pMost e false x y
  |_=>none
 |_=>none
def yL (kt:TypeId)(k:V):Bool:=match Ctx.P.underlying kt with
 |some (.int _)=>match k with|.i _ _=>true|_=>false
 |some .string=>match k with|.s _=>true|_=>false
 |_=>false
def bGq (kt:TypeId)(k:V):List Ent->Nat->Option (Option (Nat×V))
 |[],_=>some none
 |x::r,i=>ob (eqX 1 kt k x.1) λc=>sel c (some (some (i,x.2.1))) (bGq kt k r (i+1))
def bNc (t:TypeId):Option (TypeId×TypeId):=ob (Ctx.P.underlying t) λd=>match d with
 |.map kt et=>some (kt,et)
 |_=>none
def mapOf (u:V)(s:St):Option (List Ent):=match u with
 |.m0=>some []
 |.m r=>ob (s.h.get r) λx=>asMap x λes _=>some es
 |_=>none
def foundX(ok:Bool)(et:TypeId)(r:Option (Nat×V)):Option V:=oc r (ob (zeroX et) λz=>some (sel ok (.t [z,.b false]) z)) λq=>some (sel ok (.t [q.2,.b true]) q.2)
def pLookup(t:TypeId)(x ix:Operand)(ok:Bool)(s:St)(e:E):Option V:=ob (bNc t) λq=>ob (evX x e) λu=>ob (evX ix e) λk=>gd (yL q.1 k) (ob (mapOf u s) λes=>ob (bGq q.1 k es 0) (foundX ok q.2))
def pureC (c:Call):St->E->Option V:=match c with
 |⟨.builtin b,args,ts⟩=>pCall b args.toList ts.toList
 |_=>λ_ _=>none
def pureX (o:Op):St->E->Option V:=match o with
 |.move x=>λ_ e=>evX x e
 |.assign x=>λ_ e=>evX x e
 |.pick c a b=>λ_ e=>ob (evX c e) λv=>asB v λt=>sel t (evX a e) (evX b e)
 |.binOp op t x y _=>λ_ e=>ob (evX x e) λu=>ob (evX y e) (binX op t x y u)
 |.unOp op _ x=>λ_ e=>ob (evX x e) (unX op)
 |.convert src d x=>λs e=>ob (evX x e) λu=>cvX src d u s
 |.extract x i=>λ_ e=>ob (evX x e) λv=>asT v λvs=>nthL vs i
 |.load t a=>λs e=>ob (evX a e) λv=>asP v λk o=>loadX t k o s
 |.fieldAddr t x f=>λ_ e=>ob (fieldAt t f) λfo=>ob (evX x e) λv=>asP v λk o=>some (.p k (addO o fo))
 |.field t x f=>λ_ e=>ob (bFq t f) λq=>ob (evX x e) λv=>asG v λcs=>bEf q.1 cs q.2
 |.indexAddr t x i=>λ_ e=>ob (evX i e) λv=>asN v λz=>ob (elemOf t) λq=>ob (evX x e) λu=>idxX u q.1 q.2.2 z
 |.index t x i=>λ_ e=>ob (evX i e) λv=>asN v λz=>ob (evX x e) λu=>atX t u z
 |.slice t x lo hi mx=>λ_ e=>ob (evX x e) λu=>sliceX t u lo hi mx e
 |.nilCheck x=>λ_ e=>ob (evX x e) nilX
 |.makeFunc fn first cap=>λ_ e=>ob (evsX first.toList e) λa=>ob (evsX cap.toList e) λc=>some (.f fn a c)
 |.makeInterface t x=>λ_ e=>ob (isIf t) λq=>gd (!q) (ob (evX x e) λv=>some (.e t v))
 |.typeAssert x _ t ok=>λ_ e=>ob (isIf t) λq=>gd (!q) (ob (evX x e) λv=>asE v λt' w=>gd (B1 t' t) (some (sel ok (.t [w,.b true]) w)))
 |.build t parts=>λ_ e=>ob (zeroX t) λz=>ob (placeOf t) λpl=>ob (partsX parts.toList e) λps=>ob (bQx pl z.cells ps) λcs=>some (.g cs)
 |.call c=>pureC c
 |.lookup t x ix ok=>pLookup t x ix ok
 |_=>λ_ _=>none
end
end
end X
end
section
namespace X
noncomputable section
inductive R where
 |v (v:V) (s:St)
 |sk (s:St)
 |call (f:FuncId) (args:List V) (s:St)
section
variable [Ctx]
def fuelT:Nat:=40
def St.put(s:St)(k:Nat)(x:Blk):St:={s with h:=s.h.set (some x) fuelT k}
def St.new(s:St)(x:Blk):St:={s with h:=s.h.set (some x) fuelT s.n,n:=s.n+1}
def St.drop(s:St)(k:Nat):St:={s with h:=s.h.set none fuelT k}
def newsX (sz:Nat)(u:V)(s:St):Option (Nat×List V):=match u with
 |.l0=>some (0,[])
 |.z _ _ _ _=>some (0,[])
 |.y _=>some (0,[])
 |.l k o n _=>ob (bIh s k o (n*sz)) λcs=>some (n,cs)
 |.s a=>gd (B1 sz 1) (some (a.length,a.map λx=>V.i .u8 (.ofNat (x%256))))
 |_=>none
def pow47:Nat:=140737488355328
def bDo (k o:Nat)(vs:List V)(s:St):Option St:=ob (s.h.get k) λx=>asC x λcs t ext ro=>gd (!ro) (ob (pasteL cs o vs) λcs'=>some (s.put k (.cells cs' t ext false)))
def bOm (el:TypeId)(n:Nat)(cs:List V)(s:St):R:= .v (.l s.n 0 n (.s s.c n)) {h:=s.h.set (some (.cells cs el (some s.c) false)) fuelT s.n,n:=s.n+1,c:=s.c+1}
def apNil (el:TypeId)(by_ n:Nat)(news:List V)(s:St):Option R:=sel (B1 n 0) (some (.v .l0 s)) (gd (C7 n pow47&&C7 (n*by_) pow47) (some (bOm el n news s)))
def apFits(k o m:Nat)(c:Cap)(sz n:Nat)(news:List V)(s:St):Option R:=sel (B1 n 0) (some (.v (.l k o m c) s)) (ob (bDo k (o+m*sz) news s) λs'=>some (.v (.l k o (m+n) c) s'))
def apGrows(el:TypeId)(by_ k o m sz n:Nat)(news:List V)(s:St):Option R:=gd (C7 (m+n) pow47&&C7 ((m+n)*by_) pow47) (ob (bIh s k o (m*sz)) λolds=>some (bOm el (m+n) (olds++news) s))
def apRow (el:TypeId)(by_ k m cn d sz n:Nat)(news:List V)(s:St):Option R:=ob (s.h.get k) λx=>asC x λcs el' ext ro=>oc ext none λcn'=>
 gd (!ro&&(B1 cn cn'&&(B1 el el'&&(B1 (d*sz) cs.length&&(C7 m d&&(C7 (m+n) pow47&&C7 ((m+n)*by_) pow47)))))) (ob (cutL cs 0 (m*sz)) λolds=>some (bOm el (m+n) (olds++news) (s.drop k)))
def apL (el:TypeId)(by_ sz k o m n:Nat)(news:List V)(c:Cap):St->Option R:=match c with
 |.n c=>sel (C7 (m+n) c) (apFits k o m (.n c) sz n news) (apGrows el by_ k o m sz n news)
 |.s cn d=>sel (C7 (m+n) d) (apFits k o m (.s cn d) sz n news) λs=>gd (B1 o 0) (apRow el by_ k m cn d sz n news s)
def apX (el:TypeId)(sz by_:Nat)(u:V)(n:Nat)(news:List V):St->Option R:=match u with
 |.l0=>apNil el by_ n news
 |.l k o m c=>apL el by_ sz k o m n news c
 |_=>λ_=>none
def appendX(el:TypeId)(sz by_:Nat)(u v:V)(s:St):Option R:=ob (newsX sz v s) λq=>apX el sz by_ u q.1 q.2 s
def setV:List Ent->Nat->V->List Ent
 |[],_,_=>[]
 |(k,_,x)::r,0,v=>(k,v,x)::r
 |x::r,n+1,v=>x::setV r n v
def findB:List Ent->Nat->Nat->Option Nat
 |[],_,_=>none
 |x::r,j,i=>sel (B1 x.2.2 j) (some i) (findB r j (i+1))
def runeX (s:List Nat)(p:Nat):Option Nat:=ob (nthL s p) λx=>gd (C2 (x%256) 128) (some (x%256))
structure Found where
 r:Nat
 k:V
 et:TypeId
 es:List Ent
 clock:Nat
 at_:Option (Nat×V)
def mapAt (t:TypeId)(m k:Operand)(s:St)(e:E):Option Found:=ob (bNc t) λq=>ob (evX m e) λu=>asM u λr=>ob (evX k e) λkv=>ob (s.h.get r) λx=>asMap x λes clock=>
 gd (yL q.1 kv) (ob (bGq q.1 kv es 0) λf=>some ⟨r,kv,q.2,es,clock,f⟩)
def bMg (t:TypeId)(m k x:Operand)(s:St)(e:E):Option R:=ob (mapAt t m k s e) λf=>ob (evX x e) λv=>some (.sk (s.put f.r (oc f.at_ (.map (f.es++[(f.k,v,f.clock)]) (f.clock+1)) λq=> .map (setV f.es q.1 v) f.clock)))
def delE:List Ent->Nat->List Ent
 |[],_=>[]
 |_::r,0=>r
 |x::r,n+1=>x::delE r n
def oDelete(m k:Operand)(t:TypeId)(s:St)(e:E):Option R:=ob (mapAt t m k s e) λf=>some (.v (.t []) (s.put f.r (.map (oc f.at_ f.es λq=>delE f.es q.1) f.clock)))
def clearX(el:TypeId)(sz k o n:Nat)(s:St):Option R:=ob (zeroX el) λz=>gd (B1 z.cells.length sz&&allL V.one z.cells) (ob (bDo k o (sQ n z.cells) s) λs'=>some (.v (.t []) s'))
def clearV(el:TypeId)(sz:Nat)(u:V)(s:St):Option R:=match u with
 |.l0=>some (.v (.t []) s)
 |.z _ _ _ _=>some (.v (.t []) s)
 |.l k o n _=>sel (B1 n 0) (some (.v (.t []) s)) (clearX el sz k o n s)
 |_=>none
def oClear(x:Operand)(t:TypeId)(s:St)(e:E):Option R:=ob (elemOf t) λq=>oc q.1 (ob (evX x e) λu=>clearV q.2.1 q.2.2 u s) λ_=>none
def oAlloc(t:TypeId)(s:St)(_e:E):Option R:=ob (zeroX t) λz=>gd (allL V.one z.cells) (some (.v (.p s.n 0) (s.new (.cells z.cells t none false))))
def oBox (t:TypeId)(x:Operand)(s:St)(e:E):Option R:=ob (evX x e) λv=>gd (allL V.one v.cells) (some (.v (.p s.n 0) (s.new (.cells v.cells t none false))))
def uW (t:TypeId)(n:Nat)(parts:Array (Nat×Operand))(s:St)(e:E):Option R:=ob (elemOf t) λq=>oc q.1 (ob (zeroX q.2.1) λz=>ob (partsX parts.toList e) λps=>
 gd (C7 (n*q.2.2) 16777216&&B1 z.cells.length q.2.2) (ob (bQx (λi=>some (i*q.2.2,q.2.2)) (sQ n z.cells) ps) λcs=>gd (allL V.one cs) (some (.v (.l s.n 0 n (.n n)) (s.new (.cells cs q.2.1 none false)))))) λ_=>none
def oStore(t:TypeId)(a x:Operand)(s:St)(e:E):Option R:=ob (evX a e) λu=>asP u λk o=>ob (evX x e) λv=>ob (sizeX t) λsz=>gd (B1 v.cells.length sz&&allL V.one v.cells) (ob (bDo k o v.cells s) λs'=>some (.sk s'))
def bytesOf(t:TypeId):Option Nat:=ob (Ctx.P.info? t) λi=>some i.bytes
def bPz (t:TypeId)(l c:Operand)(s:St)(e:E):Option R:=ob (elemOf t) λq=>oc q.1 (ob (zeroX q.2.1) λz=>ob (bytesOf q.2.1) λw=>ob (evX l e) λl=>asN l λl=>ob (evX c e) λc=>asN c λc=>
 gd (C7 l c&&(C7 (w*c) pow47&&(C2 c 9223372036854775808&&(B1 z.cells.length q.2.2&&allL V.one z.cells)))) (some (.v (.l s.n 0 l (.n c)) (s.new (.cells (sQ c z.cells) q.2.1 none false))))) λ_=>none
def oMakeMap(t:TypeId)(x:Option Operand)(s:St)(e:E):Option R:=oc x (some (.v (.m s.n) (s.new (.map [] 0)))) λx=>ob (bNc t) λ_=>ob (evX x e) λu=>asI u λ_ _=>some (.v (.m s.n) (s.new (.map [] 0)))
def bVk (t:TypeId)(m k:Operand)(s:St)(e:E):Option R:=ob (mapAt t m k s e) λf=>oc f.at_
 (ob (zeroX f.et) λz=>some (.v (.t [z,.i .i64 (.ofNat f.clock)]) (s.put f.r (.map (f.es++[(f.k,z,f.clock)]) (f.clock+1)))))
 λq=>ob (nthL f.es q.1) λx=>some (.v (.t [q.2,.i .i64 (.ofNat x.2.2)]) s)
def bJs (m st x:Operand)(s:St)(e:E):Option R:=ob (evX m e) λu=>asM u λr=>ob (evX st e) λb=>asN b λb=>ob (evX x e) λv=>ob (s.h.get r) λx=>asMap x λes clock=>ob (findB es b 0) λi=>some (.sk (s.put r (.map (setV es i v) clock)))
def oRange(t:TypeId)(x:Operand)(s:St)(e:E):Option R:=ob (evX x e) λu=>gd (isStr t) (asS u λa=>some (.v (.p s.n 0) (s.new (.sit a 0))))
def nxStr (k:Nat)(a:List Nat)(p:Nat)(s:St):Option R:=sel (C2 p a.length) (ob (runeX a p) λc=>some (.v (.t [.b true,.i .i64 (.ofNat p),.i .i32 (.ofNat c)]) (s.put k (.sit a (p+1))))) (some (.v (.t [.b false]) s))
def oNext (it:Operand)(str:Bool)(s:St)(e:E):Option R:=gd str (ob (evX it e) λu=>asP u λk o=>gd (B1 o 0) (ob (s.h.get k) λx=>match x with
 |.sit a p=>nxStr k a p s
 |_=>none))
def oAppend0(x y:Operand)(t t':TypeId)(s:St)(e:E):Option R:=gd (isSl t' || isStr t') (ob (elemOf t) λq=>oc q.1 (ob (zeroX q.2.1) λz=>gd (B1 z.cells.length q.2.2) (ob (bytesOf q.2.1) λw=>ob (evX x e) λu=>ob (evX y e) λv=>appendX q.2.1 q.2.2 w u v s)) λ_=>none)
def isIntT(t:TypeId):Bool:=match Ctx.P.underlying t with
 |some (.int _)=>true
 |_=>false
def isL0:V->Bool
 |.l0=>true
 |_=>false
def oZeros(x y:Operand)(t:TypeId)(s:St)(e:E):Option R:=ob (elemOf t) λq=>oc q.1 (ob (zeroX q.2.1) λz=>ob (bytesOf q.2.1) λw=>ob (evX x e) λu=>ob (evX y e) λv=>asN v λn=>
 gd (isL0 u&&(C2 0 n&&(C2 0 q.2.2&&(B1 z.cells.length q.2.2&&(allL V.one z.cells&&(C7 n pow47&&C7 (n*w) pow47)))))) (some (bOm q.2.1 n (sQ n z.cells) s))) λ_=>none
def oAppend(x y:Operand)(t t':TypeId)(s:St)(e:E):Option R:=sel (isIntT t') (oZeros x y t s e) (oAppend0 x y t t' s e)
def copyX (sz k o m:Nat)(v:V)(s:St):Option R:=match v with
 |.l0=>some (.v (.i .i64 0) s)
 |.l k' o' m' _=>ob (bIh s k' o' ((Nat.min m' m)*sz)) λcs=>ob (bDo k o cs s) λs'=>some (.v (.i .i64 (.ofNat (Nat.min m' m))) s')
 |_=>none
def oCopy (x y:Operand)(t:TypeId)(s:St)(e:E):Option R:=ob (elemOf t) λq=>oc q.1 (ob (evX x e) λu=>ob (evX y e) λv=>match u with
 |.l k o m _=>copyX q.2.2 k o m v s
 |_=>none) λ_=>none
def ustrX (q k n:Nat)(s:St):Option R:=ob (s.h.get k) λx=>asC x λcs el _ ro=>gd (!ro&&(B1 q el&&(isU8 el&&C7 n pow47))) (ob (cutL cs 0 n) λl=>ob (bKv byteX l) λa=>some (.v (.s a) (s.drop k)))
def asN6 {β:Type}(v:V):(Nat->Option β)->Option β:=match v with
 |.i .i64 (.ofNat n)=>λf=>f n
 |_=>λ_=>none
def usNil (u:V)(s:St):Option R:=match u with
 |.p0=>some (.v (.s []) s)
 |.p _ _=>some (.v (.s []) s)
 |_=>none
def bNk (x y:Operand)(t:TypeId)(s:St)(e:E):Option R:=ob (evX x e) λu=>ob (evX y e) λv=>asN6 v λn=>sel (B1 n 0) (usNil u s) (asP u λk o=>gd (B1 o 0) (ob (ptrTo t) λq=>ob (sizeX q) λz=>gd (B1 z 1) (ustrX q k n s)))
def oCallV(f:Operand)(args:List Operand)(s:St)(e:E):Option R:=ob (evX f e) λv=>match v with
 |.f (.func f) first cap=>ob (evsX args e) λvs=>some (.call f (first++(vs++cap)) s)
 |_=>none
def recvX (el:Option TypeId)(v:V)(s:St):Option V:=oc el (some v) λel=>asP v λk o=>ob (loadX el k o s) λr=>gd (r.ok s.n s.c) (some r)
def oInvoke(r:Operand)(name:String)(args:List Operand)(s:St)(e:E):Option R:=ob (evX r e) λu=>asE u λt v=>ob (Ctx.meth t name) λf=>ob (recvX f.2 v s) λq=>ob (evsX args e) λvs=>some (.call f.1 (q::vs) s)
def two (args:List Operand)(ts:List TypeId)(f:Operand->Operand->TypeId->TypeId->St->E->Option R):St->E->Option R:=match args,ts with
 |[x,y],[t,t']=>f x y t t'
 |_,_=>λ_ _=>none
def one1 (args:List Operand)(ts:List TypeId)(f:Operand->TypeId->St->E->Option R):St->E->Option R:=match args,ts with
 |[x],[t]=>f x t
 |_,_=>λ_ _=>none
def oBuiltin(b:Builtin)(args:List Operand)(ts:List TypeId):St->E->Option R:=match b with
 |.append=>two args ts oAppend
 |.unsafeString=>two args ts λx y t _=>bNk x y t
 |.delete=>two args ts λm k t _=>oDelete m k t
 |.clear=>one1 args ts oClear
 |.copy=>two args ts λx y t _=>oCopy x y t
 |b=>λs e=>ob (pCall b args ts s e) λv=>some (.v v s)
def oCall (c:Call):St->E->Option R:=match c with
 |⟨.builtin b,args,ts⟩=>oBuiltin b args.toList ts.toList
 |⟨.value f,args,_⟩=>oCallV f args.toList
 |⟨.invoke r name,args,_⟩=>oInvoke r name args.toList
def oPure (o:Op)(s:St)(e:E):Option R:=ob (pureX o s e) λv=>some (.v v s)
def opX (o:Op):St->E->Option R:=match o with
 |.alloc t=>oAlloc t
 |.box t x=>oBox t x
 |.buildSlice t n parts=>uW t n parts
 |.store t a x=>oStore t a x
 |.makeSlice t l c=>bPz t l c
 |.makeMap t r=>oMakeMap t r
 |.mapUpdate t m k x=>bMg t m k x
 |.insert t m k x=>bMg t m k x
 |.mapEntry t m k=>bVk t m k
 |.entryStore _ m st x=>bJs m st x
 |.range t x=>oRange t x
 |.next it str=>oNext it str
 |.call c=>oCall c
 |o=>oPure o
def wantG (ops:Array Oper)(j:Nat)(c:Bool)(e:E):Option Bool:=ob (nthL ops.toList j) λo=>ob o.dst λd=>ob (e.get d) λv=>match v with
 |.b x=>some (x==c)
 |.t _=>some false
 |_=>none
def bCb (ops:Array Oper)(o:Oper)(e:E):Option Bool:=oc o.guard (some true) λq=>wantG ops q.1 q.2 e
def putX (N:Nat)(d:Option Tmp)(v:V)(s:St)(e:E):Option (E×St):=oc d (some (e,s)) λd=>gd (C2 d N&&v.ok s.n s.c) (some (e.set (some v) fuelT d,s))
inductive Ex where
 |nm|ex (id:Nat)|rt
abbrev Res:=Option (Ex×E×St)
abbrev Rec:=FuncId->Nat->Code->E->St->Res
def argsE (n:Nat)(l:List V)(e:E):E:=H5 (motive:=λ_=>Nat->E->E) (λ_ e=>e) (λv _ ih i e=>ih (i+1) (e.set (some v) fuelT i)) l n e
def resV (e:E)(s:St)(r:ResultVar):Option V:=match r with
 |.tmp t=>e.get t
 |.cell a t=>ob (e.get a) λu=>asP u λk o=>loadX t k o s
def oneRes:List V->V
 |[v]=>v
 |l=> .t l
def endR:Ex->Bool
 |.ex _=>false
 |_=>true
def callB (f:FuncId)(fn:Func)(c:Code)(rec:Rec)(args:List V)(s:St):Option (V×St):=gd (C7 args.length fn.ntmps&&(allL (V.ok s.n s.c) args&& !(fn.name== "runtime.NumGoroutine"))) (ob (rec f fn.ntmps c (argsE 0 args .lf) s) λq=>
 gd (endR q.1) (ob (bKv (resV q.2.1 q.2.2) fn.results.toList) λl=>some (oneRes l,q.2.2)))
def callF (f:FuncId)(rec:Rec)(args:List V)(s:St):Option (V×St):=gd (Ctx.known f) (ob (Ctx.P.funcs[f]?) λfn=>ob fn.body λc=>callB f fn c rec args s)
def callX (f:FuncId)(rec:Rec)(args:List V)(s:St):Option (V×St):=oc (Ctx.orc f) (callF f rec args s) λh=>h args s
def doneX (rec:Rec)(N:Nat)(d:Option Tmp)(e:E)(r:R):Option (E×St):=match r with
 |.v v s=>putX N d v s e
 |.sk s=>putX N d undefV s e
 |.call f args s=>ob (callX f rec args s) λq=>putX N d q.1 q.2 e
def bBw (rec:Rec)(N:Nat)(ops:Array Oper)(o:Oper)(e:E)(s:St):Option (E×St):=ob (bCb ops o e) λw=>sel w (ob (opX o.op s e) (doneX rec N o.dst e)) (putX N o.dst undefV s e)
def opsX (rec:Rec)(N:Nat)(ops:Array Oper)(l:List Oper)(e:E)(s:St):Option (E×St):=H5 (motive:=λ_=>E->St->Option (E×St)) (λe s=>some (e,s)) (λo _ ih e s=>ob (bBw rec N ops o e s) λq=>ih q.1 q.2) l e s
def looksB:Builtin->Bool
 |.len=>true
 |.cap=>true
 |.max=>true
 |.min=>true
 |.unsafeSliceData=>true
 |_=>false
def looks:Op->Bool
 |.move _|.assign _|.pick ..|.binOp ..|.unOp ..|.extract ..|.load ..|.fieldAddr ..|.field ..|.indexAddr ..|.index ..|.slice ..|.nilCheck _|.makeFunc ..|.makeInterface ..|.typeAssert ..|.build ..|.lookup ..|.convert .. =>true
 |.call ⟨.builtin b,_,_⟩=>looksB b
 |_=>false
def bLt:Op->Option (FuncId×List Operand)
 |.call ⟨.value (.func f),args,_⟩=>gd (Ctx.quiet.any (B1 f)) (some (f,args.toList))
 |_=>none
def lateO (o:Oper):Bool:=match o.op with
 |.buildSlice _ _ _=>o.guard.isNone&&o.dst.isSome
 |.alloc _=>o.guard.isNone&&o.dst.isSome
 |.box _ _=>o.guard.isNone&&o.dst.isSome
 |_=>false
def bEs (ops:Array Oper)(j l:Nat):Bool:=oc ops[j]? false λoj=>oc ops[l]? false λol=>lateO ol&&(ol.apart ops oj&&(C2 j 4096&& !B1 j l))
def pairB (md:Region.Mode)(ops:Array Oper)(j l:Nat)(listed:Array Bool):Bool:=bEs ops j l&&((I4 md ops listed==[j,l] || I4 md ops listed==[l,j])&&(I4 md ops (listed.setIfInBounds j true)==[l]&&I4 md ops (listed.setIfInBounds l true)==[j]))
def isAl:Op->Bool
 |.alloc _=>true
 |_=>false
def bVy (ops:Array Oper)(j l:Nat):Bool:=bEs ops j l&&(C2 l 4096&&oc ops[l]? false λol=>isAl ol.op)
def zE:Nat:=16777216
def rG (k:Nat):Nat:=D4 k 4096
def uH (k:Nat):Nat:=Nat.sub (D5 k 4096) 4096
def earlyB(md:Region.Mode)(ops:Array Oper)(j l:Nat)(listed:Array Bool):Bool:=bVy ops j l&&((I4 md ops listed==[j,l] || I4 md ops listed==[l,j])&&I4 md ops (listed.setIfInBounds l true)==[j])
def bVs (md:Region.Mode)(ops:Array Oper):List Nat->Array Bool->Bool
 |[],listed=>(I4 md ops listed).isEmpty
 |l::r,listed=>(I4 md ops listed==[l])&&bVs md ops r (listed.setIfInBounds l true)
def nameOf:V->List Nat
 |.p k _=>[k]
 |.l k _ _ _=>[k]
 |.m k=>[k]
 |_=>[]
def namesAt(x:Operand)(e:E):List Nat:=oc (evX x e) [] nameOf
def mapName:V->List Nat
 |.m k=>[k]
 |_=>[]
def readsX(e:E):Op->List Nat
 |.load _ a=>namesAt a e
 |.convert _ _ a=>namesAt a e
 |.lookup _ a _ _=>namesAt a e
 |.call ⟨.builtin .len,args,_⟩=>oc (nthL args.toList 0) [] λx=>oc (evX x e) [] mapName
 |_=>[]
def bSq (N:Nat)(s:St)(ops:Array Oper):List (Bool×Nat)->E->List Nat
 |[],_=>[]
 |(q,k)::r,e=>sel q (oc (nthL ops.toList k) [] λo=>readsX e o.op++bSq N s ops r (oc (pureX o.op s e) e λv=>oc (putX N o.dst v s e) e Prod.fst)) (bSq N s ops r e)
def wS {α:Type}(p:α->α->Bool):List α->List α->Bool
 |[],[]=>true
 |x::a,y::b=>p x y&&wS p a b
 |_,_=>false
def capEq:Cap->Cap->Bool
 |.n a,.n b=>B1 a b
 |.s a b,.s a' b'=>B1 a a'&&B1 b b'
 |_,_=>false
def beqD (d:Nat):V->V->Bool:=D3 (motive:=λ_=>V->V->Bool) (λ_ _=>false) (λ_ ih u v=>match u,v with
 |.b x,.b y=>x==y
 |.i k x,.i k' y=>sameKind k k'&&ieq x y
 |.s x,.s y=>wS B1 x y
 |.p0,.p0=>true
 |.p k o,.p k' o'=>B1 k k'&&B1 o o'
 |.l0,.l0=>true
 |.l k o n c,.l k' o' n' c'=>B1 k k'&&(B1 o o'&&(B1 n n'&&capEq c c'))
 |.z k o n c,.z k' o' n' c'=>B1 k k'&&(B1 o o'&&(B1 n n'&&B1 c c'))
 |.y c,.y c'=>B1 c c'
 |.m0,.m0=>true
 |.m k,.m k'=>B1 k k'
 |.f (.func f) a c,.f (.func f') a' c'=>B1 f f'&&(wS ih a a'&&wS ih c c')
 |.f0,.f0=>true
 |.e0,.e0=>true
 |.e t v,.e t' v'=>B1 t t'&&ih v v'
 |.g a,.g b=>wS ih a b
 |.t a,.t b=>wS ih a b
 |_,_=>false) d
def oeq:Option Nat->Option Nat->Bool
 |none,none=>true
 |some a,some b=>B1 a b
 |_,_=>false
def entEq (x y:Ent):Bool:=beqD 4 x.1 y.1&&(beqD 4 x.2.1 y.2.1&&B1 x.2.2 y.2.2)
def Blk.beq:Blk->Blk->Bool
 |.cells cs t x ro,.cells cs' t' x' ro'=>B1 t t'&&(oeq x x'&&((ro==ro')&&wS (beqD 4) cs cs'))
 |.map es c,.map es' c'=>B1 c c'&&wS entEq es es'
 |.win a,.win b=>wS (beqD 4) a b
 |.know a,.know b=>B1 a b
 |_,_=>false
def restX (s:St)(D:List Nat):T Blk:=H5 .lf (λk _ ih=>ih.set (s.h.get k) fuelT k) D
def emptyS:St:={h:= .lf,n:=Ctx.n0,c:=0}
def quietX(f:FuncId)(args:List Operand)(rec:Rec)(e:E):Option V:=ob (evsX args e) λvs=>gd (allL (V.ok 0 0) vs) (ob (callF f rec vs emptyS) λq=>gd (q.1.ok 0 0) (some q.1))
def lookX (rec:Rec)(o:Op)(s0:St)(e:E):Option V:=oc (bLt o) (pureX o s0 e) λq=>quietX q.1 q.2 rec e
def lookL (rec:Rec)(N:Nat)(ops:Array Oper)(o:Oper)(h0:T Blk)(e:E)(s:St):Option (E×St):=ob (bCb ops o e) λw=>sel w (ob (lookX rec o.op {s with h:=h0} e) λv=>putX N o.dst v s e) (putX N o.dst undefV s e)
def yM (h0:T Blk)(D:List Nat)(s:St):Bool:=allL (λk=>oc (h0.get k) false λa=>oc (s.h.get k) false λb=>a.beq b) D
def bsX (o:Op)(e:E):Option (TypeId×Option Nat×List V):=match o with
 |.buildSlice t n parts=>ob (elemOf t) λq=>oc q.1 (ob (zeroX q.2.1) λz=>ob (partsX parts.toList e) λps=>
   gd (C7 (n*q.2.2) 16777216&&B1 z.cells.length q.2.2) (ob (bQx (λi=>some (i*q.2.2,q.2.2)) (sQ n z.cells) ps) λcs=>gd (allL V.one cs) (some (q.2.1,some n,cs)))) λ_=>none
 |.alloc t=>ob (zeroX t) λz=>gd (allL V.one z.cells) (some (t,none,z.cells))
 |.box t x=>ob (evX x e) λv=>gd (allL V.one v.cells) (some (t,none,v.cells))
 |_=>none
def bKl (k:Nat)(n:Option Nat):V:=oc n (.p k 0) λn=> .l k 0 n (.n n)
def sameBs(b b':TypeId×Option Nat×List V):Bool:=B1 b.1 b'.1&&(oeq b.2.1 b'.2.1&&wS (beqD 4) b.2.2 b'.2.2)
def pairX (rec:Rec)(N:Nat)(ops:Array Oper)(D:List Nat)(h0:T Blk)(j l:Nat)(e:E)(s:St):Option (E×St):=ob (nthL ops.toList j) λoj=>ob (nthL ops.toList l) λol=>ob (bsX ol.op e) λb=>ob (bBw rec N ops oj e s) λq=>gd (yM h0 D q.2)
 (ob (bsX ol.op q.1) λb'=>gd (sameBs b b') (ob (bBw rec N ops ol q.1 q.2) λr=>gd (yM h0 D r.2) (some r)))
def zW (rec:Rec)(N:Nat)(ops:Array Oper)(D:List Nat)(h0:T Blk)(l:List (Bool×Nat))(e:E)(s:St):Option (E×St):=H5 (motive:=λ_=>E->St->Option (E×St)) (λe s=>some (e,s))
 (λx _ ih e s=>sel x.1 (ob (nthL ops.toList x.2) λo=>ob (lookL rec N ops o h0 e s) λq=>ih q.1 q.2) (sel (C2 x.2 4096) (ob (nthL ops.toList x.2) λo=>ob (bBw rec N ops o e s) λq=>gd (yM h0 D q.2) (ih q.1 q.2))<| sel (C7 zE x.2) (ob (nthL ops.toList (rG x.2)) λo=>ob (bBw rec N ops o e s) λq=>gd (yM h0 D q.2) (ih q.1 q.2))
  (ob (pairX rec N ops D h0 (D4 x.2 4096) (Nat.pred (D5 x.2 4096)) e s) λq=>ih q.1 q.2))) l e s
def lastR (rec:Rec)(N:Nat)(ops:Array Oper)(l:List Nat)(e:E)(s:St):Option (E×St):=H5 (motive:=λ_=>E->St->Option (E×St)) (λe s=>some (e,s)) (λk _ ih e s=>ob (nthL ops.toList k) λo=>ob (bBw rec N ops o e s) λq=>ih q.1 q.2) l e s
def drawX (rec:Rec)(N:Nat)(ops:Array Oper)(od:List (Bool×Nat))(l:List Nat)(D:List Nat)(e:E)(s:St):Option (E×St):=ob (zW rec N ops D (restX s D) od e s) λq=>lastR rec N ops l q.1 q.2
def regX (rec:Rec)(f N id:Nat)(ops:Array Oper)(draw:Bool)(e:E)(s:St):Option (E×St):=sel draw
 (ob (Ctx.plan f id) λq=>drawX rec N ops q.1 q.2 (bSq N s ops q.1 e) e s)
 (opsX rec N ops ops.toList e s)
def zY (ops:Array Oper)(l:Nat):List (Bool×Nat)->Bool
 |[]=>false
 |(true,k)::r=>oc ops[l]? false (λol=>oc ops[k]? false λo=>ol.apart ops o)&&zY ops l r
 |(false,k)::_=>B1 k l
def iN (ops:Array Oper):List (Bool×Nat)->Bool
 |[]=>true
 |(true,_)::r=>iN ops r
 |(false,k)::r=>if k<4096 then iN ops r else if zE<=k then (bVy ops (rG k) (uH k)&&zY ops (uH k) r)&&iN ops r else bEs ops (k%4096) (k/4096-1)&&iN ops r
def yS:List (Bool×Nat)->Option Nat->Nat
 |[],_=>0
 |(true,_)::r,p=>yS r p+1
 |(false,k)::r,p=>if p=some k then yS r none else if k<4096 then yS r p+1 else if zE<=k then yS r p+1 else yS r p+2
def waitsT(md:Region.Mode)(ops:Array Oper)(ls:List Nat)(k:Nat):Bool:=match ls with
 |[]=>true
 |l::_=>waits md ops l k
def jT (md:Region.Mode)(ops:Array Oper)(ls:List Nat):List (Bool×Nat)->Option Nat->Array Bool->Bool
 |[],p,listed=>p.isNone&&bVs md ops ls listed
 |(true,k)::r,p,listed=>(I4 md ops listed).contains k&&(I6 md ops listed k&&(waitsT md ops ls k&&jT md ops ls r p (listed.setIfInBounds k true)))
 |(false,k)::r,p,listed=>if p=some k then jT md ops ls r none listed else if k<4096 then (I4 md ops listed==[k])&&jT md ops ls r p (listed.setIfInBounds k true)
   else if zE<=k then earlyB md ops (rG k) (uH k) listed&&(zY ops (uH k) r&&(p.isNone&&(jT md ops ls r none (listed.setIfInBounds (rG k) true)&&jT md ops ls r (some (uH k)) ((listed.setIfInBounds (uH k) true).setIfInBounds (rG k) true))))
   else pairB md ops (k%4096) (k/4096-1) listed&&jT md ops ls r p ((listed.setIfInBounds (k%4096) true).setIfInBounds (k/4096-1) true)
def zH (ls:List Nat)(od:List (Bool×Nat))(ops:Array Oper):Bool:=I7 ops&&(B1 (yS od none+ls.length) ops.size&&jT .any ops ls od none (E5 ops.size false))
def seqX (rec:Rec)(f N:Nat)(c:Code)(q:Ex×E×St):Res:=match q.1 with
 |.nm=>rec f N c q.2.1 q.2.2
 |_=>some q
def blockX(id:Nat)(q:Ex×E×St):Res:=match q.1 with
 |.ex i=>some (sel (B1 i id) (.nm,q.2) q)
 |_=>some q
def nmX (q:E×St):Res:=some (.nm,q)
def planOk(ops:Array Oper)(q:Plan):Bool:=zH q.2 q.1 ops
def nK (f:FuncId):Code->Bool
 |.region id ops draw=>!draw || oc (Ctx.plan f id) true (planOk ops)
 |.seq a b=>nK f a&&nK f b
 |.cond _ a b=>nK f a&&nK f b
 |.block _ a=>nK f a
 |.loop a=>nK f a
 |.scope a=>nK f a
 |_=>true
def stepX (rec:Rec)(f N:Nat)(c:Code):E->St->Res:=match c with
 |.skip=>λe s=>some (.nm,e,s)
 |.label _=>λe s=>some (.nm,e,s)
 |.exit id=>λe s=>some (.ex id,e,s)
 |.ret=>λe s=>some (.rt,e,s)
 |.region id ops draw=>λe s=>ob (regX rec f N id ops draw e s) nmX
 |.seq a b=>λe s=>ob (rec f N a e s) (seqX rec f N b)
 |.cond c a b=>λe s=>ob (evX c e) λv=>asB v λt=>sel t (rec f N a e s) (rec f N b e s)
 |.block id a=>λe s=>ob (rec f N a e s) (blockX id)
 |.loop a=>λe s=>ob (rec f N a e s) (seqX rec f N (.loop a))
 |.scope a=>rec f N a
 |_=>λ_ _=>none
def bDd (n:Nat):Rec:=D3 (λ_ _ _ _ _=>none) (λ_ r=>stepX r) n
end
end
end X
end
section
namespace X
open Go.RowKit
structure As where
 blk:Nat->Nat
 room:Nat->Nat
 place:Nat->Option Addr
def Cap.inst(α:As):Cap->Nat
 |.n c=>c
 |.s k d=>d+α.room k
def bW (x:List Nat):ByteArray:=⟨(x.map N8).toArray⟩
mutual
def V.inst(α:As)(v:V):Value:=match v with
 |.b x=> .bool x
 |.i k x=> .int k x
 |.s x=> .string (bW x)
 |.p0=> .pointer none
 |.p k o=> .pointer (some ⟨α.blk k,o,none⟩)
 |.l0=> .slice none 0 0
 |.l k o n c=> .slice (some ⟨α.blk k,o,none⟩) n (c.inst α)
 |.z k o o' c=> .slice (some ⟨α.blk k,if α.room c=0 then o else o',none⟩) 0 (α.room c)
 |.y c=> .slice (α.place c) 0 (α.room c)
 |.m0=> .map none
 |.m k=> .map (some (α.blk k))
 |.f fn x w=> .func fn (V.instL α x).toArray (V.instL α w).toArray
 |.f0=> .nilFunc
 |.e0=> .nilIface
 |.e q u=> .iface q (V.inst α u)
 |.g cs=> .agg (V.instL α cs).toArray
 |.t vs=> .tuple (V.instL α vs).toArray
def V.instL(α:As)(l:List V):List Value:=match l with
 |[]=>[]
 |v::r=>V.inst α v::V.instL α r
end
theorem V.instL_eq(α:As): ∀l:List V,V.instL α l=l.map (V.inst α)
 |[]=>rfl
 |v::r=>by simp[V.instL,V.instL_eq α r]
theorem qO(α:As)(cs:List V):(V.g cs).inst α= .agg (cs.map (V.inst α)).toArray:=by simp[V.inst,V.instL_eq]
theorem inst_t(α:As)(cs:List V):(V.t cs).inst α= .tuple (cs.map (V.inst α)).toArray:=by simp[V.inst,V.instL_eq]
theorem bOf(α:As)(fn:Fn)(x y:List V):(V.f fn x y).inst α= .func fn (x.map (V.inst α)).toArray (y.map (V.inst α)).toArray:=by simp[V.inst,V.instL_eq]
theorem yB(α:As):undefV.inst α=undef:=by simp[undefV,inst_t,undef]
structure nM (n c:Nat) (α β:As):Prop where
 blk: ∀k,k<n->α.blk k=β.blk k
 room: ∀k,k<c->α.room k=β.room k
 place: ∀k,k<c->α.place k=β.place k
theorem nM.refl(n c:Nat)(α:As):nM n c α α:=⟨λ_ _=>rfl,λ_ _=>rfl,λ_ _=>rfl⟩
theorem nM.trans{n c n' c':Nat}{α β γ:As}(h:nM n c α β)(k:nM n' c' β γ)(hn:n<=n')(hc:c<=c'):nM n c α γ:=
 ⟨λi a=>(h.blk i a).trans (k.blk i (B2 a hn)),λi a=>(h.room i a).trans (k.room i (B2 a hc)),λi a=>(h.place i a).trans (k.place i (B2 a hc))⟩
def V.Sc (n c:Nat)(v:V):Prop:= ∃d,okD n c d v=true
theorem jY(n c d:Nat)(v:V):okD n c (d+1) v=(match v with
 |.p k _=>C2 k n
 |.l k _ _ cp=>C2 k n&&cp.ok c
 |.m k=>C2 k n
 |.z k _ _ cp=>C2 k n&&C2 cp c
 |.y cp=>C2 cp c
 |.f _ x y=>allL (okD n c d) x&&allL (okD n c d) y
 |.e _ v=>okD n c d v
 |.g cs=>allL (okD n c d) cs
 |.t vs=>allL (okD n c d) vs
 |_=>true):=rfl
theorem cap_ext{n c:Nat}{α β:As}(h:nM n c α β){x:Cap}(hx:x.ok c=true):x.inst α=x.inst β:=by
 cases x with
 |n _=>rfl
 |s k d=>
  simp only[Cap.ok,D7]at hx;simp[Cap.inst,h.room k hx]
theorem okD_ext{n c:Nat}{α β:As}(h:nM n c α β): ∀(d:Nat) (v:V),okD n c d v=true->v.inst α=v.inst β:=by
 intro d
 induction d with
 |zero=>intro v a;cases a
 |succ d ih=>
  intro v a
  have hl: ∀l:List V,allL (okD n c d) l=true->l.map (V.inst α)=l.map (V.inst β):=λl hl=>by rw[qD,G0]at hl;exact H7 λx hx=>ih x (hl x hx)
  rw[jY]at a;cases v<;>simp only[L9,D7]at a<;>try rfl
  case p k o=>simp[V.inst,h.blk k a]
  case l k o m cp=>simp[V.inst,h.blk k a.1,cap_ext h a.2]
  case z k o o' cp=>simp[V.inst,h.blk k a.1,h.room cp a.2]
  case y cp=>simp[V.inst,h.room cp a,h.place cp a]
  case m k=>simp[V.inst,h.blk k a]
  case f fn x y=>simp[bOf,hl x a.1,hl y a.2]
  case e t v=>simp[V.inst,ih v a]
  case g cs=>simp[qO,hl cs a]
  case t cs=>simp[inst_t,hl cs a]
theorem V.Sc.ext{n c:Nat}{α β:As}{v:V}(h:v.Sc n c)(hs:nM n c α β):v.inst α=v.inst β:=h.elim λd hd=>okD_ext hs d v hd
theorem okD_mono{n c n' c':Nat}(hn:n<=n')(hc:c<=c'): ∀(d:Nat) (v:V),okD n c d v=true->okD n' c' d v=true:=by
 intro d
 induction d with
 |zero=>intro v a;cases a
 |succ d ih=>
  intro v a
  have hl: ∀l:List V,allL (okD n c d) l=true->allL (okD n' c' d) l=true:=λl hl=>by rw[qD,G0]at*;exact λx hx=>ih x (hl x hx)
  rw[jY]at a⊢;cases v<;>simp only[L9,D7]at a⊢ <;>try omega
  case l k o m cp=>
   refine⟨j5,?_⟩
   cases cp with
   |n _=>rfl
   |s j d=>have:=a.2;simp only[Cap.ok,D7]at this⊢;omega
  case f fn x y=>exact⟨hl x a.1,hl y a.2⟩
  case e t v=>exact ih v a
  case g cs=>exact hl cs a
  case t cs=>exact hl cs a
theorem V.Sc.mono{n c n' c':Nat}{v:V}(h:v.Sc n c)(hn:n<=n')(hc:c<=c'):v.Sc n' c':=h.elim λd hd=>⟨d,okD_mono hn hc d v hd⟩
theorem V.Sc.of{n c:Nat}{v:V}(h:v.ok n c=true):v.Sc n c:=⟨5,h⟩
theorem V.Sc.cells{n c:Nat}{v:V}(h:v.Sc n c): ∀x∈v.cells,x.Sc n c:=λx hx=>by
 obtain⟨d,hd⟩:=h;cases v
 case g cs=>
  cases d with
  |zero=>cases hd
  |succ d=>
   rw[jY]at hd;simp only[qD,G0]at hd;exact⟨d,hd x hx⟩
 all_goals
  have:x=_:=List.mem_singleton.1 hx;rw[this];exact⟨d,hd⟩
theorem jB(α:As)(v:V):(v.inst α).cells=(v.cells.map (V.inst α)).toArray:=by cases v<;>simp[V.cells,Value.cells,V.inst,V.instL_eq]
theorem one_inst(α:As){v:V}(h:v.one=true):(v.inst α).oneCell'=true:=by cases v<;>simp[V.one,V.inst,Value.oneCell']at h⊢
theorem byte_back(s:ByteArray):bW (s.data.toList.map N7)=s:=by
 have:(s.data.toList.map N7).map N8=s.data.toList:=by
  rw[List.map_map]
  conv=>rhs;rw[<-List.map_id s.data.toList]
  exact H7 λx _=>by simp
 unfold bW;rw[this]
theorem ofD_succ(d:Nat)(v:Value):ofD (d+1) v=(match v with
   |.bool x=>some (.b x)
   |.int k x=>some (.i k x)
   |.string s=>some (.s (s.data.toList.map N7))
   |.pointer none=>some .p0
   |.slice none 0 0=>some .l0
   |.map none=>some .m0
   |.func fn a c=>match a.toList,c.toList with
    |[],[]=>some (.f fn [] [])
    |_,_=>none
   |.nilFunc=>some .f0
   |.nilIface=>some .e0
   |.agg cs=>ob (mapZ undefV (ofD d) cs.toList) λl=>some (.g l)
   |.tuple cs=>match cs.toList with
    |[]=>some (.t [])
    |_=>none
   |_=>none):=rfl
theorem ofD_inst(α:As): ∀(d:Nat) (v:Value) (u:V),ofD d v=some u->u.inst α=v/\ ∀n c,okD n c d u=true:=by
 intro d
 induction d with
 |zero=>intro v u h;cases h
 |succ d ih=>
  intro v u h;rw[ofD_succ]at h;split at h
  .cases h;exact⟨rfl,λ_ _=>rfl⟩
  .cases h;exact⟨rfl,λ_ _=>rfl⟩
  .cases h;exact⟨by simp[V.inst,byte_back],λ_ _=>rfl⟩
  .cases h;exact⟨rfl,λ_ _=>rfl⟩
  .cases h;exact⟨rfl,λ_ _=>rfl⟩
  .cases h;exact⟨rfl,λ_ _=>rfl⟩
  .rename_i m a c;split at h
   .rename_i j e;cases h;refine⟨?_,λ_ _=>rfl⟩;have k:a= #[]:=by apply E2;simpa using j
    have f:c= #[]:=by apply E2;simpa using e
    subst k f;rfl
   .cases h
  .cases h;exact⟨rfl,λ_ _=>rfl⟩
  .cases h;exact⟨rfl,λ_ _=>rfl⟩
  .rename_i g;obtain⟨l,hl,h⟩:=bB h;cases h;have i:=bVo _ _ _ _ hl
   have key: ∀(b:List Value) (l:List V),b.map (ofD d)=l.map some->l.map (V.inst α)=b/\ ∀n c,l.all (okD n c d)=true:=by
    intro b
    induction b with
    |nil=>
     intro l h
     cases l with
     |nil=>exact⟨rfl,λ_ _=>rfl⟩
     |cons _ _=>cases h
    |cons x b ihx=>
     intro l h
     cases l with
     |nil=>cases h
     |cons y l=>
      simp only[H6,List.cons.injEq]at h;obtain⟨h1,h2⟩:=ih x y h.1;obtain⟨h3,h4⟩:=ihx l h.2;exact⟨by simp[h1,h3],λn c=>by simp[h2 n c,h4 n c]⟩
   obtain⟨h1,h2⟩:=key g.toList l i;refine⟨by simp[qO,h1],λn c=>?_⟩;rw[jY];simp only[qD,h2]
  .rename_i g;split at h
   .rename_i e;cases h;have f:g= #[]:=by apply E2;simpa using e
    subst f;exact⟨by simp[inst_t],λ_ _=>rfl⟩
   .cases h
  .cases h
theorem vZ{α:As}{v:Value}{u:V}(h:ofV v=some u):u.inst α=v:=(ofD_inst α _ v u h).1
theorem ofV_sc{v:Value}{u:V}(h:ofV v=some u)(n c:Nat):u.Sc n c:=⟨_,(ofD_inst ⟨λ_=>0,λ_=>0,λ_=>none⟩ _ v u h).2 n c⟩
section
variable {β : Type} {x : β} {v : V}
theorem bRi{f:Bool->Option β}(h:asB v f=some x): ∃t,v= .b t/\f t=some x:=by cases v<;>first|exact⟨_,rfl,h⟩|cases h
theorem mM{f:IntKind->Int->Option β}(h:asI v f=some x): ∃k n,v= .i k n/\f k n=some x:=by cases v<;>first|exact⟨_,_,rfl,h⟩|cases h
theorem uN{f:Nat->Option β}(h:asN v f=some x): ∃k n,v= .i k (.ofNat n)/\f n=some x:=by
 cases v
 case i k n=>
  cases n
  .exact⟨_,_,rfl,h⟩
  .cases h
 all_goals cases h
theorem qQ{f:Nat->Nat->Option β}(h:asP v f=some x): ∃k o,v= .p k o/\f k o=some x:=by cases v<;>first|exact⟨_,_,rfl,h⟩|cases h
theorem lO{f:List Nat->Option β}(h:asS v f=some x): ∃a,v= .s a/\f a=some x:=by cases v<;>first|exact⟨_,rfl,h⟩|cases h
theorem wJ{f:List V->Option β}(h:asG v f=some x): ∃a,v= .g a/\f a=some x:=by cases v<;>first|exact⟨_,rfl,h⟩|cases h
theorem asT_some{f:List V->Option β}(h:asT v f=some x): ∃a,v= .t a/\f a=some x:=by cases v<;>first|exact⟨_,rfl,h⟩|cases h
theorem asM_some{f:Nat->Option β}(h:asM v f=some x): ∃k,v= .m k/\f k=some x:=by cases v<;>first|exact⟨_,rfl,h⟩|cases h
theorem asE_some{f:TypeId->V->Option β}(h:asE v f=some x): ∃t u,v= .e t u/\f t u=some x:=by cases v<;>first|exact⟨_,_,rfl,h⟩|cases h
theorem zQ{y:Blk}{f:List V->TypeId->Option Nat->Bool->Option β}(h:asC y f=some x): ∃cs t ext ro,y= .cells cs t ext ro/\f cs t ext ro=some x:=by cases y<;>first|exact⟨_,_,_,_,rfl,h⟩|cases h
theorem xG{y:Blk}{f:List Ent->Nat->Option β}(h:asMap y f=some x): ∃es c,y= .map es c/\f es c=some x:=by cases y<;>first|exact⟨_,_,rfl,h⟩|cases h
end
theorem bIt(a b:Int):ieq a b=(a==b):=by rw[M2];cases a<;>cases b<;>simp[ieq]<;>omega
theorem ilt_eq(a b:Int):ilt a b=decide (a<b):=by
 cases a with
 |ofNat x=>
  cases b with
  |ofNat y=>
   have:(M5 x<M5 y)↔x<y:=M6;simp only[ilt,this]
   cases h:C2 x y with
   |true=>simp[D7]at h;simp[h]
   |false=>
    have: ¬x<y:=λc=>by rw[<-D7,h]at c;cases c
    simp[this]
  |negSucc y=>simp[ilt];omega
 |negSucc x=>
  cases b with
  |ofNat y=>simp[ilt];omega
  |negSucc y=>
   have:(M7 x<M7 y)↔y<x:=j5
   simp only[ilt,this]
   cases h:C2 y x with
   |true=>simp[D7]at h;simp[h]
   |false=>
    have: ¬y<x:=λc=>by rw[<-D7,h]at c;cases c
    simp[this]
theorem bEp(k:IntKind)(x:Int):wrapF k x=k.wrap x:=by
 unfold wrapF
 cases x with
 |ofNat m=>
  show sel (C2 m (lim k)) (M5 m) (k.wrap (.ofNat m))=k.wrap (.ofNat m);rw[cP];split
  .rename_i h;rw[D7]at h;have h0:(0:Int)<=M5 m:=M8 m;have h1:(M5 m:Int)<(lim k:Nat):=M6.2 h;generalize M5 m=z at*;cases k<;>simp only[lim]at h1
   .exact(IntWalk.i8_in z j5).symm
   .exact(IntWalk.i16_in z j5).symm
   .exact(IntWalk.i32_in z j5).symm
   .exact(IntWalk.i64_in z j5).symm
   .exact(IntWalk.u8_in z j5).symm
   .exact(IntWalk.u16_in z j5).symm
   .exact(IntWalk.u32_in z j5).symm
   .exact(IntWalk.u64_in z j5).symm
  .rfl
 |negSucc m=>
  show sel (isI64 k) (sel (C2 m 9223372036854775808) (M7 m) (k.wrap (.negSucc m))) (k.wrap (.negSucc m))=k.wrap (.negSucc m);rw[cP,cP];split
  .split
   .rename_i a h;rw[D7]at h;cases k<;>simp[isI64]at a
    exact(IntWalk.i64_in _ j5).symm
   .rfl
  .rfl
end X
end
section
namespace X
open Go.RowKit
theorem bMy(x y:List Nat):seq x y=((bW x).toList==(bW y).toList):=by
 rw[ByteArray.toList_eq,ByteArray.toList_eq];show seq x y=(x.map N8==y.map N8)
 induction x generalizing y with
 |nil=>cases y<;>rfl
 |cons a x ih=>
  cases y with
  |nil=>rfl
  |cons b y=>
   have hb:B1 (a%256) (b%256)=(N8 a==N8 b):=by rw[M2,D6,beq_iff_eq,<-UInt8.toNat_inj];simp
   simp only[seq,ih,hb,H6,List.cons_beq_cons]
section
variable [Ctx]
def entI (α:As)(x:Ent):MapEntry:=⟨x.1.inst α,x.2.1.inst α,x.2.2⟩
def Blk.Is(α:As)(w:World)(r:Nat):Blk->Prop
 |.cells cs q none _=>w.heap[r]?=some (.cells (cs.map (V.inst α)).toArray q)
 |.cells cs q (some c) _=> ∃rest:List Value,rest.length=α.room c*Ctx.P.cellsOf q/\w.heap[r]?=some (.cells (cs.map (V.inst α)++rest).toArray q)
 |.map es clock=>w.heap[r]?=some (.map (es.map (entI α)).toArray clock)
 |.sit x pos=>w.heap[r]?=some (.stringIter (bW x) pos)
 |.mit m since seen last=>w.heap[r]?=some (.mapIter (m.map α.blk) since seen.toArray last)
 |.win cs=>r<w.heap.size/\ ∀i v,cs[i]?=some v->w.cell? ⟨r,i,none⟩=some (v.inst α)
 |.know n=> ∃o,w.heap[r]?=some o/\Ctx.G n o
def Blk.Sc(n c:Nat):Blk->Prop
 |.cells cs _ ext _=>(∀v∈cs,v.Sc n c/\v.one=true)/\ ∀k,ext=some k->k<c
 |.map es _=> ∀x∈es,x.1.Sc n c/\x.2.1.Sc n c
 |.sit _ _=>True
 |.mit m _ _ _=> ∀k,m=some k->k<n
 |.win cs=> ∀v∈cs,v.Sc n c/\v.one=true
 |.know _=>True
structure Sim (α:As) (s:St) (w:World):Prop where
 gl: ∀g k,Ctx.gl g=some k->k<s.n/\α.blk k=g
 lt: ∀k x,s.h.get k=some x->k<s.n
 sc: ∀k x,s.h.get k=some x->x.Sc s.n s.c
 is: ∀k x,s.h.get k=some x->x.Is α w (α.blk k)
 ne: ∀k k' x x',s.h.get k=some x->s.h.get k'=some x'->α.blk k=α.blk k'->k=k'
structure EOk (α:As) (s:St) (N:Nat) (e:E) (a:Act):Prop where
 defers:a.defers=[]
 size:N<=a.tmps.size
 get: ∀i v,e.get i=some v->v.Sc s.n s.c/\a.tmps[i]?=some (v.inst α)
section
variable {α : As} {s : St} {w : World} {N : Nat} {e : E} {a : Act}
theorem Sim.cells(h:Sim α s w){k:Nat}{cs:List V}{t:TypeId}{ext:Option Nat}{ro:Bool}(hk:s.h.get k=some (.cells cs t ext ro)): ∃rest:List Value,w.heap[α.blk k]?=some (.cells (cs.map (V.inst α)++rest).toArray t)/\(ext=none->rest=[]):=by
 have:=h.is k _ hk
 cases ext with
 |none=>exact⟨[],by simpa[Blk.Is]using this,λ_=>rfl⟩
 |some c=>
  obtain⟨rest,_,hr⟩:=this;exact⟨rest,hr,λh=>by cases h⟩
theorem Sim.cell_of(h:Sim α s w){k:Nat}{cs:List V}{t:TypeId}{ext:Option Nat}{ro:Bool}(hk:s.h.get k=some (.cells cs t ext ro)){i:Nat}{v:V}(hi:cs[i]?=some v):w.cell? ⟨α.blk k,i,none⟩=some (v.inst α):=by obtain⟨rest,hr,_⟩:=h.cells hk;have hlt:i<cs.length:=(G3.1 hi).1;unfold D8;have a:cs[i]=v:=(G3.1 hi).2;simp only[hr];simp[G6,hlt,a]
theorem Sim.row_sc(h:Sim α s w){k:Nat}{x:Blk}{cs:List V}(hk:s.h.get k=some x)(hx:x.row=some cs): ∀v∈cs,v.Sc s.n s.c/\v.one=true:=by
 have b:=h.sc k x hk
 cases x with
 |cells cs' t ext ro=>
  cases hx;exact b.1
 |win cs'=>
  cases hx;exact b
 |know n=>
  obtain⟨o,_,e⟩:=h.is k _ hk;obtain⟨h1,C,t,z,_,h2⟩:=Ctx.kwOk n cs o hx e;intro v a;obtain⟨i,d⟩:=List.mem_iff_getElem?.1 a;obtain⟨u,_,hu⟩:=h2 i v d;exact⟨ofV_sc hu _ _,h1 v a⟩
 |_=>cases hx
theorem Sim.cell(h:Sim α s w){k:Nat}{x:Blk}{cs:List V}(hk:s.h.get k=some x)(hx:x.row=some cs){i:Nat}{v:V}(hi:cs[i]?=some v):w.cell? ⟨α.blk k,i,none⟩=some (v.inst α):=by
 cases x with
 |win cs'=>
  cases hx;exact(h.is k _ hk).2 i v hi
 |cells cs' t ext ro=>
  cases hx;exact h.cell_of hk hi
 |know n=>
  obtain⟨o,ho,b⟩:=h.is k _ hk;obtain⟨_,C,t,z,rfl,h2⟩:=Ctx.kwOk n cs o hx b;obtain⟨u,hu,a⟩:=h2 i v hi;unfold D8;simp only[ho,hu,vZ a];rfl
 |_=>cases hx
theorem cA(hs:Sim α s w)(he:EOk α s N e a){x:Operand}{v:V}(h:evX x e=some v):a.eval x=v.inst α/\v.Sc s.n s.c:=by
 cases x with
 |tmp t=>
  obtain⟨h1,h2⟩:=he.get t v h;exact⟨by simp[Act.eval,E1,h2],h1⟩
 |const u=>
  have h:ofV u=some v:=h;exact⟨(vZ h).symm,ofV_sc h _ _⟩
 |global g=>
  obtain⟨k,b,h⟩:=bB (show ob (Ctx.gl g) (λk=>some (V.p k 0))=some v from h);cases h;obtain⟨h1,h2⟩:=hs.gl g k b;exact⟨by simp[Act.eval,V.inst,h2],⟨1,by rw[jY];simpa using h1⟩⟩
 |func f=>
  have h:some (V.f (.func f) [] [])=some v:=h;cases h;exact⟨by simp[Act.eval,bOf],⟨1,by rw[jY];rfl⟩⟩
theorem bAy(hs:Sim α s w)(he:EOk α s N e a){l:List Operand}{vs:List V}(h:evsX l e=some vs):l.map a.eval=vs.map (V.inst α)/\ ∀v∈vs,v.Sc s.n s.c:=by
 have b:=bGu _ _ _ h;clear h
 induction l generalizing vs with
 |nil=>
  cases vs with
  |nil=>exact⟨rfl,λ_ h=>by cases h⟩
  |cons _ _=>cases b
 |cons x l ih=>
  cases vs with
  |nil=>cases b
  |cons v vs=>
   simp only[H6,List.cons.injEq]at b;obtain⟨h1,h2⟩:=cA hs he b.1;obtain⟨h3,h4⟩:=ih b.2;refine⟨by simp[h1,h3],λu hu=>?_⟩
   rcases F1.1 hu with rfl|hu
   .exact h2
   .exact h4 u hu
end
theorem kQ{t:TypeId}{n:Nat}(h:sizeX t=some n): ∃i,Ctx.P.info? t=some i/\i.size=n:=by obtain⟨i,a,h⟩:=bB h;cases h;exact⟨i,a,rfl⟩
theorem jD{t:TypeId}{n:Nat}(h:sizeX t=some n)(w:World):(sizeOf t).run Ctx.P w= .ok n w:=by obtain⟨i,a,rfl⟩:=kQ h;simp[sizeOf,typeInfo,a]
theorem bQb{t:TypeId}{n:Nat}(h:sizeX t=some n):Ctx.P.cellsOf t=n:=by obtain⟨i,a,rfl⟩:=kQ h;simp[Program.cellsOf,a]
theorem agg_run{t:TypeId}{x:Bool}(h:aggX t=some x)(w:World):(isAgg t).run Ctx.P w= .ok x w:=by obtain⟨d,hd,h⟩:=bB h;unfold isAgg;rw[J0,run_underlying hd,J6];cases d<;>cases h<;>rfl
theorem wide_run{t:TypeId}{x:Option Nat}(h:wideX t=some x)(w:World):(isAgg t).run Ctx.P w= .ok x.isSome w/\ ∀n,x=some n->(sizeOf t).run Ctx.P w= .ok n w:=by
 obtain⟨q,hq,h⟩:=bB h;rw[cP]at h
 cases q with
 |true=>
  simp only[if_true]at h;obtain⟨n,hn,h⟩:=bB h;cases h;exact⟨agg_run hq w,λm a=>by cases a;exact jD hn w⟩
 |false=>
  simp only[L8,if_false,Option.some.injEq]at h;subst h;exact⟨agg_run hq w,λm a=>by cases a⟩
theorem wW{t:TypeId}{z:V}(h:zeroX t=some z)(w:World)(α:As):(zeroValue t).run Ctx.P w= .ok (z.inst α) w:=by obtain⟨i,a,h⟩:=bB h;obtain⟨u,hu,h⟩:=bB h;simp[zeroValue,typeInfo,a,hu,vZ h]
theorem wT{α:As}{t:TypeId}{cs:List V}{o:Nat}{v:V}(h:bEf t cs o=some v)(w:World):(part t (cs.map (V.inst α)).toArray o).run Ctx.P w= .ok (v.inst α) w:=by
 obtain⟨x,hx,h⟩:=bB h;obtain⟨h1,h2⟩:=wide_run hx w;rw[sY]at h;unfold part;rw[J0,h1,J6]
 cases x with
 |none=>
  simp only[jM]at h;simp[F7,h]
 |some n=>
  obtain⟨l,hl,h⟩:=bB h;cases h;obtain⟨e,_⟩:=nW _ _ _ _ hl;simp only[N4,if_true,J0,h2 n rfl,J6,J1,qO]
  congr 2
  apply E2;simp[F8,e,H8,H9]
theorem bOg{α:As}{s:St}{w:World}(hs:Sim α s w){t:TypeId}{k o:Nat}{v:V}(h:loadX t k o s=some v):(loadVar t ⟨α.blk k,o,none⟩).run Ctx.P w= .ok (v.inst α) w:=by
 obtain⟨x,hx,h⟩:=bB h;obtain⟨m,a,h⟩:=bB h;obtain⟨y,g,h⟩:=bB h;obtain⟨h1,h2⟩:=wide_run g w;rw[sY]at h;unfold loadVar;rw[J0,h1,J6]
 cases y with
 |none=>
  simp only[jM]at h;simp[hs.cell hx a h]
 |some n=>
  obtain⟨l,hl,h⟩:=bB h;cases h;obtain⟨e,d⟩:=nW _ _ _ _ hl;have c:l.length=n:=by rw[e];simp;omega
  have f:=run_loadCells_list (P:=Ctx.P) w ⟨α.blk k,o,none⟩ (l.map (V.inst α)) (λj u b=>by
   rw[F7]at b
   cases hu:l[j]? with
   |none=>rw[hu]at b;cases b
   |some u'=>
    rw[hu]at b;cases b;rw[L7];have i:=(G3.1 hu).1;refine hs.cell hx a ?_;rw[e,I0,if_pos j5,I1]at hu
    exact hu)
  rw[I2,c]at f;simp only[N4,if_true,J0,h2 n rfl,J6,f,J1,qO]
theorem eq_run(α:As)(w:World): ∀(d:Nat) (t:TypeId) (u v:V) (x:Bool),eqX d t u v=some x-> ∀D,d<=D->(J4 D t (u.inst α) (v.inst α)).run Ctx.P w= .ok x w:=by
 intro d
 induction d with
 |zero=>intro t u v x h;cases h
 |succ d ih=>
  intro t u v x h D K
  obtain⟨D,rfl⟩: ∃D',D=D'+1:=⟨D-1,j5⟩
  have hd:d<=D:=j5
  have r: ∀(z:List Field) (l j:List V) (x:Bool),eqFs (eqX d) l j z=some x->(Op.eqFields D (l.map (V.inst α)).toArray (j.map (V.inst α)).toArray z).run Ctx.P w= .ok x w:=by
   intro z l j
   induction z with
   |nil=>intro x h;cases h;rfl
   |cons f z ihf=>
    intro x h;unfold eqFs at h;rw[cP]at h;unfold Op.eqFields
    by_cases y:(f.name== "_")=true
    .rw[if_pos y]at h;have: ¬f.name≠ "_" :=by simpa using y
     rw[if_neg this];exact ihf x h
    .rw[if_neg y]at h;have:f.name≠ "_" :=by simpa using y
     rw[if_pos this];obtain⟨p,A,h⟩:=bB h;obtain⟨q,hq,h⟩:=bB h;obtain⟨c,G,h⟩:=bB h;simp only[J0,wT A w,wT hq w,J6,ih _ _ _ _ G D hd];rw[cP]at h;cases c
     .simp at h;subst h;rfl
     .simp at h;simpa using ihf x h
  have s: ∀(g n:Nat) (l j:List V),Ctx.P.cellsOf g=n-> ∀(m i:Nat) (x:Bool),eqEs (eqX d g) g n l j m i=some x->(Op.eqItems D g (Ctx.P.cellsOf g) (l.map (V.inst α)).toArray (j.map (V.inst α)).toArray (List.range' i m)).run Ctx.P w= .ok x w:=by
   intro g n l j hn m
   induction m with
   |zero=>intro i x h;cases h;rfl
   |succ m ihm=>
    intro i x h;unfold eqEs at h;obtain⟨p,A,h⟩:=bB h;obtain⟨q,hq,h⟩:=bB h;obtain⟨c,G,h⟩:=bB h;rw[List.range'_succ];unfold Op.eqItems;rw[hn];simp only[J0,wT A w,wT hq w,J6,ih _ _ _ _ G D hd];rw[cP]at h;rw[hn]at ihm;cases c
    .simp at h;subst h;rfl
    .simp at h;simpa using ihm (i+1) x h
  cases a:Ctx.P.underlying t with
  |none=>simp only[eqX,a]at h;cases h
  |some ds=>
  cases ds with
  |bool=>
   simp only[eqX,a]at h;cases u<;>cases v<;>cases h
   exact run_equalIn_bool' w D t _ _ a
  |int k=>
   simp only[eqX,a]at h;cases u<;>cases v<;>try cases h
   obtain⟨B,h⟩:=bQ h;cases h;rw[lU B,bIt];exact run_equalIn_int w D t _ _ _ _ a
  |string=>
   simp only[eqX,a]at h;cases u<;>cases v<;>cases h
   rw[bMy];exact run_equalIn_string w D t _ _ a
  |pointer g=>
   simp only[eqX,a]at h;obtain⟨n,hn,h⟩:=bB h;obtain⟨hn0,h⟩:=bQ h;have hn0:n≠0:=λe=>by subst e;cases hn0
   have E:=jD hn w;cases u<;>cases v<;>try cases h
   .simp[J4,run_underlying a,V.inst]
   .simp[J4,run_underlying a,V.inst]
   .simp[J4,run_underlying a,V.inst]
   .obtain⟨B,h⟩:=bQ h;cases h;rw[D6]at B;subst B
    have J: ∀b o C:Nat,((⟨b,o,none⟩:Addr)==⟨b,C,none⟩)=B1 o C:=λb o C=>by rw[M2,D6,beq_iff_eq];simp
    simp[J4,run_underlying a,V.inst,E,hn0,sameAddr,J]
  |interface ms=>
   simp only[eqX,a]at h;cases u<;>cases v<;>cases h<;>simp[J4,run_underlying a,V.inst]
  |slice g=>
   simp only[eqX,a]at h;cases u<;>cases v<;>cases h<;>simp[J4,run_underlying a,V.inst]
  |map k g=>
   simp only[eqX,a]at h;cases u<;>cases v<;>cases h<;>simp[J4,run_underlying a,V.inst]
  |func ps rs vr=>
   simp only[eqX,a]at h;cases u<;>cases v<;>cases h
   all_goals
    unfold J4;rw[J0,run_underlying a,J6];rfl
  |struct z=>
   simp only[eqX,a]at h;obtain⟨l,rfl,h1⟩:=wJ h;obtain⟨j,rfl,h2⟩:=wJ h1;obtain⟨A,h3⟩:=bQ h2;have y:Ctx.P.fieldsOf t=z:=by simp[Program.fieldsOf,a]
   rw[qO,qO,run_equalIn_agg w D t _ _ (by rw[y];exact a) (by simpa using A),y];exact r _ _ _ _ h3
  |array len g=>
   simp only[eqX,a]at h;obtain⟨l,rfl,h1⟩:=wJ h;obtain⟨j,rfl,h2⟩:=wJ h1;obtain⟨n,hn,h3⟩:=bB h2;obtain⟨i,I,_⟩:=kQ hn;rw[qO,qO,run_equalIn_array w D _ _ a I,List.range_eq_range'];exact s g n l j (bQb hn) len 0 x h3
  |_=>simp only[eqX,a]at h;cases h
end
end X
end
section
namespace X
open Go.RowKit
theorem binI_run{P:Program}{op:BinOp}{t:TypeId}{x y:Operand}{k k':IntKind}{p q:Int}{r:V}(h:binI op k p k' q=some r)(α:As)(w:World):
  ((do eqGuard op t x y (.int k p) (.int k' q);binOp op t (.int k p) (.int k' q):Sem Value)).run P w= .ok (r.inst α) w:=by
 have a: ∀op,(op= .shl\/op= .shr)->((do eqGuard op t x y (.int k p) (.int k' q);binOp op t (.int k p) (.int k' q):Sem Value)).run P w=(Op.shift op k p k' q).run P w:=λop ho=>by
  rcases ho with rfl|rfl<;>simp[eqGuard,binOp]
 by_cases hl:op= .shl
 .subst hl;have h:shlX k p q=some r:=h;rw[a _ (.inl rfl)]
  cases q with
  |ofNat n=>
   cases h;have: ¬((n:Int)<0):=j5
   simp[Op.shift,this,V.inst]
  |negSucc n=>cases h
 by_cases hr:op= .shr
 .subst hr;have h:shrX k p q=some r:=h;rw[a _ (.inr rfl)]
  cases q with
  |ofNat n=>
   cases h;have: ¬((n:Int)<0):=j5
   simp[Op.shift,this,V.inst]
  |negSucc n=>cases h
 have h0:gd (sameKind k k') (arithX op k p q)=some r:=by cases op<;>first|exact h|exact absurd rfl hl|exact absurd rfl hr
 clear h;obtain⟨d,h⟩:=bQ h0;clear h0;have c:=lU d;clear d;subst c
 have b: ∀{z:V},gd (!ieq q 0) (some z)=some r->q≠0/\z=r:=λb=>by obtain⟨h1,h2⟩:=bQ b;cases h2;rw[bIt]at h1;exact⟨by simpa using h1,rfl⟩
 cases op<;>first|exact absurd rfl hl|exact absurd rfl hr|skip
 case quo=>
  obtain⟨h0,e⟩:=b h;subst e;simp[eqGuard,binOp,Op.intDiv,h0,V.inst,bEp]
 case rem=>
  obtain⟨h0,e⟩:=b h;subst e;simp[eqGuard,binOp,Op.intDiv,h0,V.inst]
 case andNot=>cases h
 all_goals
  cases h;simp[eqGuard,binOp,J2,Op.intCmp,Op.intBits,V.inst,bEp,bIt,ilt_eq,bitX]<;>first|rfl|(rw[M2];simp;try omega)
theorem strX_run{P:Program}{op:BinOp}{t:TypeId}{x y:Operand}{p q:List Nat}{r:V}(h:strX op p q=some r)(α:As)(w:World):
  ((do eqGuard op t x y (.string (bW p)) (.string (bW q));binOp op t (.string (bW p)) (.string (bW q)):Sem Value)).run P w= .ok (r.inst α) w:=by
 cases op<;>try cases h
 case add=>
  obtain⟨h1,h2⟩:=bQ h;cases h2;rw[D7]at h1;have b: ∀l:List Nat,(bW l).size=l.length:=λl=>by simp[bW,ByteArray.size]
  have c:bW p++bW q=bW (p++q):=by apply ByteArray.ext;apply E2;simp[bW]
  have a: ¬((((bW p).size+(bW q).size:Nat):Int)>IntKind.i64.max):=by
   rw[b,b];have:IntKind.i64.max=9223372036854775807:=by rfl
   rw[this];omega
  simp only[eqGuard,binOp,J3,if_neg a,V.inst,c];rfl
 case eql=>simp[eqGuard,binOp,J3,V.inst,bMy]
 case neq=>simp[eqGuard,binOp,J3,V.inst,bMy]
section
variable [Ctx] {α : As} {s : St} {w : World} {N : Nat} {e : E} {a : Act}
theorem guard_run{op:BinOp}{t:TypeId}{x y:Operand}{u v:V}(h:guardX t x y u v=true):(eqGuard op t x y (u.inst α) (v.inst α)).run Ctx.P w= .ok () w:=by
 have a: ∀op,op= .eql\/op= .neq->(eqGuard op t x y (u.inst α) (v.inst α)).run Ctx.P w= .ok () w:=λop ho=>by
  cases u
  case e0=>
   cases v
   case e0=>
    have h:(bLs x || bLs y)=true:=h;rw[M0]at h
    rcases h with h|h
    .cases x<;>first|exact M3 h|(rcases ho with rfl|rfl<;>simp[eqGuard,V.inst])
    .cases y<;>first|exact M3 h|(rcases ho with rfl|rfl<;>simp[eqGuard,V.inst])
   all_goals rcases ho with rfl|rfl<;>rfl
  case g cs=>
   cases v
   case g ds=>
    have h:(!Ctx.P.eqGuardType Ctx.P.depth t)=true:=h;simp only[Bool.not_eq_true']at h;rw[qO,qO];exact run_eqGuard_agg w op t x y _ _ h
   all_goals rcases ho with rfl|rfl<;>simp[eqGuard,V.inst]
  all_goals rcases ho with rfl|rfl<;>simp[eqGuard,V.inst]
 cases op<;>first|exact a _ (.inl rfl)|exact a _ (.inr rfl)|rfl
theorem bin_eq_run{op:BinOp}{t:TypeId}{x y:Operand}{u v r:V}(hi: ∀k z,u≠ .i k z)(hs: ∀z,u≠ .s z)(h:binE op t x y u v=some r):
  ((do eqGuard op t x y (u.inst α) (v.inst α);binOp op t (u.inst α) (v.inst α):Sem Value)).run Ctx.P w= .ok (r.inst α) w:=by
 have key: ∀c,eqOp t x y u v=some c->(eqGuard op t x y (u.inst α) (v.inst α)).run Ctx.P w= .ok () w/\(J5 t (u.inst α) (v.inst α)).run Ctx.P w= .ok c w:=λc a=>by obtain⟨h1,h2⟩:=bQ a;exact⟨guard_run h1,eq_run α w 12 t u v c h2 Op.maxDepth l4⟩
 cases op<;>try cases h
 case eql=>
  obtain⟨c,a,h⟩:=bB h;cases h;obtain⟨h1,h2⟩:=key c a
  have hb:binOp .eql t (u.inst α) (v.inst α)=(do pure (.bool (<-J5 t (u.inst α) (v.inst α)))):=by cases u<;>first|rfl|exact absurd rfl (hi _ _)|exact absurd rfl (hs _)
  rw[J0,h1,J6,hb,J0,h2];rfl
 case neq=>
  obtain⟨c,a,h⟩:=bB h;cases h;obtain⟨h1,h2⟩:=key c a
  have hb:binOp .neq t (u.inst α) (v.inst α)=(do pure (.bool (!(<-J5 t (u.inst α) (v.inst α))))):=by cases u<;>first|rfl|exact absurd rfl (hi _ _)|exact absurd rfl (hs _)
  rw[J0,h1,J6,hb,J0,h2];rfl
theorem bin_run{op:BinOp}{t:TypeId}{x y:Operand}{u v r:V}(h:binX op t x y u v=some r):
  ((do eqGuard op t x y (u.inst α) (v.inst α);binOp op t (u.inst α) (v.inst α):Sem Value)).run Ctx.P w= .ok (r.inst α) w:=by
 by_cases b: ∃k z,u= .i k z
 .obtain⟨k,z,rfl⟩:=b;obtain⟨d,c,e,h1⟩:=mM (show asI v (binI op k z)=some r from h);rw[e];exact binI_run h1 α w
 by_cases a: ∃z,u= .s z
 .obtain⟨z,rfl⟩:=a;obtain⟨c,e,h1⟩:=lO (show asS v (strX op z)=some r from h);rw[e];exact strX_run h1 α w
 have h:binE op t x y u v=some r:=by cases u<;>first|exact h|exact absurd ⟨_,_,rfl⟩ b|exact absurd ⟨_,rfl⟩ a
 exact bin_eq_run (λk z e=>b ⟨k,z,e⟩) (λz e=>a ⟨z,e⟩) h
end
end X
end
section
namespace X
open Go.RowKit
theorem mZ(b o k:Nat):(⟨b,o,none⟩:Addr).add k=⟨b,o+k,none⟩:=L7 _ _ _
theorem gB{a b:Nat}(h:C7 a b=true):a<=b:=C8 h
section
variable [Ctx] {α : As} {s : St} {w : World} {N : Nat} {e : E} {a : Act}
theorem mI{t el sz:Nat}(h:elemOf t=some (none,el,sz)):Ctx.P.underlying t=some (.slice el)/\sizeX el=some sz:=by
 obtain⟨d,hd,h1⟩:=bB h;cases d<;>try cases h1
 case slice el'=>
  obtain⟨n,hn,h2⟩:=bB h1;cases h2;exact⟨hd,hn⟩
 case array n el'=>
  obtain⟨n,hn,h2⟩:=bB h1;cases h2
theorem bCv{t n el sz:Nat}(h:elemOf t=some (some n,el,sz)):Ctx.P.underlying t=some (.array n el)/\sizeX el=some sz:=by
 obtain⟨d,hd,h1⟩:=bB h;cases d<;>try cases h1
 case slice el'=>
  obtain⟨n,hn,h2⟩:=bB h1;cases h2
 case array n el'=>
  obtain⟨n,hn,h2⟩:=bB h1;cases h2;exact⟨hd,hn⟩
theorem nT(hs:Sim α s w)(he:EOk α s N e a){x:Operand}{d n y:Nat}{c:BoundsCode}(h:lL (some x) d e=some n)(hn:n<=y):(K3 (a.eval x) y c).run Ctx.P w= .ok n w:=by
 obtain⟨v,b,h1⟩:=bB (show ob (evX x e) (λv=>asN v some)=some n from h);obtain⟨k,m,rfl,h2⟩:=uN h1;cases h2;have hx:=(cA hs he b).1
 have h0:(0:Int)<=M5 n/\M5 n<=(y:Int):=⟨M8 n,Int.ofNat_le.2 hn⟩
 rw[hx];simp only[V.inst,K3,asIntOf,J0,J1,J6,if_pos h0];rfl
theorem xO(hs:Sim α s w)(he:EOk α s N e a){lo hi:Option Operand}{q:Bool}{len cap l h:Nat}(hl:lL lo 0 e=some l)(hh:lL hi len e=some h)(h1:l<=h)(h2:h<=cap)(h3:hi=none->len<=cap):
  (K4 q len cap (lo.map a.eval) (hi.map a.eval) none).run Ctx.P w= .ok (l,h,cap) w:=by
 unfold K4
 cases hi with
 |none=>
  have:len=h:=Option.some.inj hh;subst this
  cases lo with
  |none=>
   have:0=l:=Option.some.inj hl;subst this;rfl
  |some x=>
   simp only[N5,N6,J0,J1,J6,nT hs he hl h1]
 |some y=>
  cases lo with
  |none=>
   have:0=l:=Option.some.inj hl;subst this;simp only[N5,N6,J0,J1,J6,nT hs he hh h2]
  |some x=>
   simp only[N5,J0,J1,J6,nT hs he hh h2,nT hs he hl h1]
theorem bJh(hs:Sim α s w)(he:EOk α s N e a){lo hi:Option Operand}{x:Operand}{q:Bool}{len cap l h m:Nat}(hl:lL lo 0 e=some l)(hh:lL hi len e=some h)(hm:lL (some x) 0 e=some m)(h0:hi≠none)(h1:l<=h)(h2:h<=m)(h3:m<=cap):
  (K4 q len cap (lo.map a.eval) (hi.map a.eval) (some (a.eval x))).run Ctx.P w= .ok (l,h,m) w:=by
 unfold K4
 cases hi with
 |none=>exact absurd rfl h0
 |some y=>
  cases lo with
  |none=>
   have:0=l:=Option.some.inj hl;subst this;simp only[N5,N6,J0,J1,J6,nT hs he hm h3,nT hs he hh h2]
  |some z=>
   simp only[N5,J0,J1,J6,nT hs he hm h3,nT hs he hh h2,nT hs he hl h1]
omit [Ctx]in
theorem bFr(c:Cap)(α:As):c.least<=c.inst α:=by cases c<;>simp[Cap.least,Cap.inst]
theorem slice_run(hs:Sim α s w)(he:EOk α s N e a){t:TypeId}{u r:V}{lo hi mx:Option Operand}(h:sliceX t u lo hi mx e=some r):(K5 t (u.inst α) (lo.map a.eval) (hi.map a.eval) (mx.map a.eval)).run Ctx.P w= .ok (r.inst α) w:=by
 unfold sliceX at h;rw[cP]at h;split at h
 .rename_i A;obtain⟨x,rfl,h1⟩:=lO h;obtain⟨l,hl,h2⟩:=bB h1;obtain⟨m,g,h3⟩:=bB h2
  cases mx with
  |some _=>cases h3
  |none=>
   obtain⟨hb,h4⟩:=bQ (show gd _ _=some r from h3);cases h4;rw[L9]at hb
   have hu:Ctx.P.underlying t=some .string:=by
    unfold isStr at A;split at A
    .assumption
    .cases A
   have f:(bW x).size=x.length:=by simp[bW,ByteArray.size]
   have b:=xO hs he (q:=false) (cap:=x.length) hl g (gB hb.1) (gB hb.2) (λ_=>B8 _);unfold K5;rw[J0,run_underlying hu,J6];unfold Instr.slice;rw[J0,run_underlying hu,J6];simp only[V.inst,N6,Option.isSome_none,L8,if_false,f,J0,J1,b,J6]
   congr 2
   apply ByteArray.ext;apply E2;simp[bW,ByteArray.data_extract,F8,H9,H8]
 .obtain⟨⟨n,L,sz⟩,hq,h1⟩:=bB h;have h1:sliceV n sz u lo hi mx e=some r:=h1
  cases n with
  |none=>
   obtain⟨hu,f⟩:=mI hq;unfold K5;rw[J0,run_underlying hu,J6];unfold Instr.slice;rw[J0,run_underlying hu,J6]
   cases u with
   |l0=>
    obtain⟨l,hl,h2⟩:=bB (show ob (lL lo 0 e) _=some r from h1);obtain⟨m,g,h3⟩:=bB h2;obtain⟨x,hx,h4⟩:=bB h3;obtain⟨hb,I⟩:=bQ h4;cases I;simp only[L9,D6]at hb;obtain⟨G,rfl,rfl,rfl⟩:=hb
    cases mx with
    |none=>
     have b:=xO hs he (q:=true) (cap:=0) hl g (B8 _) (B8 _) (λ_=>B8 _);simp only[V.inst,N6,J0,J1,b,J6,jD f];rfl
    |some y=>
     have h0:hi≠none:=λh0=>by subst h0;cases G
     .have b:=bJh hs he (q:=true) (cap:=0) hl g hx h0 (B8 _) (B8 _) (B8 _);simp only[V.inst,N5,J0,J1,b,J6,jD f];rfl
   |l k o m c=>
    obtain⟨l,hl,h2⟩:=bB (show ob (lL lo 0 e) _=some r from h1);obtain⟨v,g,h3⟩:=bB h2
    cases mx with
    |none=>
     obtain⟨hb,h4⟩:=bQ (show gd _ _=some r from h3);rw[L9]at hb;have i:=gB hb.1;have j:=gB hb.2
     have b:=xO hs he (q:=true) (cap:=c.inst α) hl g i (C0 j (bFr c α)) (λh0=>by
      subst h0;have:m=v:=Option.some.inj g;have:=bFr c α
      omega)
     simp only[V.inst,N6,J0,J1,b,J6,jD f,N5,mZ]
     cases c with
     |n cc=>
      cases h4;simp only[V.inst,Cap.inst,cP,D6]
      by_cases q:cc=l
      .simp[q]
      .simp[q]
     |s cn d=>
      have h4:sel (B1 l 0) (some (V.l k o v (.s cn d))) (sel (C2 l d) (some (.l k (o+l*sz) (v-l) (.s cn (d-l)))) (some (.z k o (o+l*sz) cn)))=some r:=h4;rw[cP,cP]at h4;simp only[Cap.least]at j;simp only[D6,D7]at h4
      by_cases h0:l=0
      .rw[if_pos h0]at h4;cases h4;subst h0;simp[V.inst,Cap.inst]
      .rw[if_neg h0]at h4
       by_cases hd:l<d
       .rw[if_pos hd]at h4;cases h4;have B: ¬(d+α.room cn=l):=j5
        simp only[V.inst,Cap.inst];simp only[B,if_false];rw[show d+α.room cn-l=d-l+α.room cn from by omega]
       .rw[if_neg hd]at h4;cases h4;have K:v-l=0:=j5
        have J:d+α.room cn-l=α.room cn:=j5
        simp only[V.inst,Cap.inst,K,J]
        by_cases hr:α.room cn=0
        .have E:d=l:=j5
         simp[hr,E]
        .have: ¬(d+α.room cn=l):=j5
         simp[hr,this]
    |some y=>
     obtain⟨x,hx,h4⟩:=bB (show ob (lL (some y) 0 e) _=some r from h3);obtain⟨hb,I⟩:=bQ h4;cases I;simp only[L9]at hb;have i:=gB hb.2.1;have D:=gB hb.2.2.1;have C:=gB hb.2.2.2;have h0:hi≠none:=λh0=>by subst h0;cases hb.1
     .have b:=bJh hs he (q:=true) (cap:=c.inst α) hl g hx h0 i D (C0 C (bFr c α));simp only[V.inst,N5,J0,J1,b,J6,jD f,mZ];simp only[cP,D6,Cap.inst]
      by_cases q:x=l
      .simp[q]
      .simp[q]
   |_=>cases h1
  |some n=>
   obtain⟨hu,f⟩:=bCv hq
   cases u with
   |p k o=>
    obtain⟨l,hl,h2⟩:=bB (show ob (lL lo 0 e) _=some r from h1);obtain⟨v,g,h3⟩:=bB h2
    cases mx with
    |some _=>cases h3
    |none=>
     obtain⟨hb,h4⟩:=bQ (show gd _ _=some r from h3);cases h4;rw[L9]at hb;have b:=xO hs he (q:=false) (cap:=n) hl g (gB hb.1) (gB hb.2) (λ_=>B8 _);unfold K5;rw[J0,run_underlying hu,J6];simp only[V.inst,J8,N6,J0,J1,b,J6,jD f,mZ,cP,D6,Cap.inst]
     by_cases q:n=l
     .simp[q]
     .simp[q]
   |_=>cases h1
end
end X
end
section
namespace X
open Go.RowKit
theorem pF(l:List Nat):(bW l).size=l.length:=by simp[bW,ByteArray.size]
theorem byte_some{v:V}{x:Nat}(h:byteX v=some x):v= .i .u8 (.ofNat x)/\x<256:=by
 unfold byteX at h;split at h
 .obtain⟨h1,h2⟩:=bQ h;cases h2;exact⟨rfl,by simpa[D7]using h1⟩
 .cases h
theorem bDt{α:As}: ∀{l:List V} {xs:List Nat},bKv byteX l=some xs->l.map (V.inst α)=(xs.map N8).map (λb=>Value.int .u8 (b.toNat:Int))/\xs.length=l.length
 |[],xs,h=>by cases h;exact⟨rfl,rfl⟩
 |v::l,xs,h=>by
  obtain⟨x,hx,h1⟩:=bB h;obtain⟨r,hr,h2⟩:=bB h1;cases h2;obtain⟨rfl,hlt⟩:=byte_some hx;obtain⟨h3,h4⟩:=bDt (α:=α) hr;refine⟨?_,by simp[h4]⟩;have e:(N8 x).toNat=x:=by simp;omega
  simp only[H6,h3,e];rfl
section
variable [Ctx] {α : As} {s : St} {w : World} {N : Nat} {e : E} {a : Act}
theorem isU8_eq{t:TypeId}(h:isU8 t=true):Ctx.P.underlying t=some (.int .u8):=by
 unfold isU8 at h;split at h
 .assumption
 .cases h
theorem bFw{t:TypeId}(h:isStr t=true):Ctx.P.underlying t=some .string:=by
 unfold isStr at h;split at h
 .assumption
 .cases h
theorem isUns_eq{t:TypeId}(h:isUns t=true):Ctx.P.underlying t=some .unsafePointer:=by
 unfold isUns at h;split at h
 .assumption
 .cases h
theorem ptrTo_eq{t u:TypeId}(h:ptrTo t=some u):Ctx.P.underlying t=some (.pointer u):=by
 obtain⟨d,hd,h1⟩:=bB h;cases d<;>cases h1
 exact hd
theorem Sim.shape(hs:Sim α s w){k:Nat}{cs:List V}{t:TypeId}{ro:Bool}(hk:s.h.get k=some (.cells cs t none ro)):w.shape? (α.blk k)=some (t,cs.length):=by obtain⟨rest,hr,h0⟩:=hs.cells hk;have:=h0 rfl;subst this;simp[World.shape?,hr]
theorem row0_row{k o n:Nat}{l:List V}(h:rowX0 s k o n=some l):bIh s k o n=some l:=by
 obtain⟨x,hx,h1⟩:=bB h;obtain⟨b,a,h2⟩:=bB h1
 have hr:x.row=some b:=by
  cases x with
  |cells _ _ _ _=>exact a
  |win _=>exact a
  |_=>cases a
 unfold bIh;rw[hx];show ob x.row _=_;rw[hr];exact h2
theorem qZ(hs:Sim α s w){k o n:Nat}{l:List V}(h:bIh s k o n=some l):l.length=n/\ ∀j v,l[j]?=some v->w.cell? ⟨α.blk k,o+j,none⟩=some (v.inst α):=by
 obtain⟨x,hx,h1⟩:=bB h;obtain⟨f,a,h2⟩:=bB h1;obtain⟨e,hl⟩:=nW _ _ _ _ h2;have b:l.length=n:=by rw[e];simp;omega
 refine⟨b,λj v c=>?_⟩;have d:=(G3.1 c).1;refine hs.cell hx a ?_;rw[e,I0,if_pos j5,I1]at c;exact c
theorem row_sc(hs:Sim α s w){k o n:Nat}{l:List V}(h:bIh s k o n=some l): ∀v∈l,v.Sc s.n s.c/\v.one=true:=by obtain⟨x,hx,h1⟩:=bB h;obtain⟨d,a,h2⟩:=bB h1;obtain⟨e,_⟩:=nW _ _ _ _ h2;intro v b;rw[e]at b;exact hs.row_sc hx a v (H4 (List.mem_of_mem_take b))
theorem conv_run(hs:Sim α s w){src d:TypeId}{u r:V}(h:cvX src d u s=some r):(convert src d (u.inst α)).run Ctx.P w= .ok (r.inst α) w:=by
 unfold cvX at h
 cases hu:Ctx.P.underlying src with
 |none=>rw[hu]at h;cases h
 |some ds=>
  rw[hu]at h
  have one: ∀r,cvOne d u=some r->(convert src d (u.inst α)).run Ctx.P w= .ok (r.inst α) w:=λr h=>by
   obtain⟨E,hd,h1⟩:=bB h;cases E<;>try cases h1
   case int k=>
    obtain⟨I,x,rfl,h2⟩:=mM h1;cases h2;simp[convert,run_underlying hu,run_underlying hd,V.inst,Conv.intToInt,bEp]
   case string=>
    obtain⟨x,rfl,h2⟩:=lO h1;cases h2;simp[convert,run_underlying hu,run_underlying hd,V.inst]
  cases ds with
  |slice el=>
   obtain⟨hb,h1⟩:=bQ (show gd _ _=some r from h);rw[L9]at hb;have he:=isU8_eq hb.1;have hd:=bFw hb.2
   cases u with
   |l0=>
    cases h1;simp[convert,run_underlying hu,run_underlying hd,run_underlying he,V.inst,Conv.bytesToString];rfl
   |l k o n c=>
    obtain⟨l,hl,h2⟩:=bB (show ob (bIh s k o n) _=some r from h1);obtain⟨p,hx,h3⟩:=bB h2;cases h3;obtain⟨h4,f⟩:=qZ hs hl;obtain⟨e,b⟩:=bDt (α:=α) hx;have g:(p.map N8).length=n:=by rw[I2,b,h4]
    have:=run_convert_bytes_back (P:=Ctx.P) w src d el ⟨α.blk k,o,none⟩ (c.inst α) (p.map N8) hu he hd (λj A=>by
     have a:j<l.length:=by rw[I2,b]at A;exact A
     have C:=f j _ (G1 a);rw[mZ,C];have m:=congrArg (λq:List Value=>q[j]?) e;simp only[F7,G1 a,N5]at m;rw[m];have y:j<p.length:=by rw[b];exact a
     simp[G1 y])
    rw[g]at this
    simpa[V.inst,bW]using this
   |_=>cases h1
  |pointer t=>
   obtain⟨k,o,rfl,h1⟩:=qQ (show asP u _=some r from h);obtain⟨n,hn,h2⟩:=bB h1;obtain⟨hb,h3⟩:=bQ h2;obtain⟨x,hx,h4⟩:=bB h3;obtain⟨G,q,ext,ro,rfl,f⟩:=zQ h4
   cases ext with
   |some _=>cases f
   |none=>
    obtain⟨e,b⟩:=bQ (show gd _ _=some r from f);cases b;rw[L9]at hb;obtain⟨i,z,v⟩:=kQ hn;have hn0:i.size≠0:=λB=>by rw[v]at B;subst B;cases hb.2
    exact Lib.run_to_unsafe (P:=Ctx.P) w ⟨α.blk k,o,none⟩ hu (isUns_eq hb.1) z hn0 (hs.shape hx) (by simpa[D7]using e)
  |unsafePointer=>
   obtain⟨t,D,h1⟩:=bB (show ob (ptrTo d) _=some r from h);obtain⟨k,o,rfl,h2⟩:=qQ h1;obtain⟨n,hn,h3⟩:=bB h2;obtain⟨hb,h4⟩:=bQ h3;obtain⟨x,hx,f⟩:=bB h4;obtain⟨G,q,ext,ro,rfl,e⟩:=zQ f
   cases ext with
   |some _=>cases e
   |none=>
    obtain⟨b,m⟩:=bQ (show gd _ _=some r from e);cases m;obtain⟨i,z,_⟩:=kQ hn;exact Lib.run_from_unsafe (P:=Ctx.P) w ⟨α.blk k,o,none⟩ hu (ptrTo_eq D) z (hs.shape hx) b
  |_=>exact one r h
theorem bNv{t f ft fo:Nat}(h:bFq t f=some (ft,fo)): ∃gs:Array Field,Ctx.P.underlying t=some (.struct gs)/\ ∃g:Field,gs[f]?=some g/\g.type=ft/\g.offset=fo:=by
 obtain⟨d,hd,h1⟩:=bB h;cases d<;>try cases h1
 obtain⟨g,hg,h2⟩:=bB h1;cases h2;rw[jM]at hg;exact⟨_,hd,g,by simpa using hg,rfl,rfl⟩
theorem bSh{t f fo b o:Nat}(h:fieldAt t f=some fo):(J7 t (.pointer (some ⟨b,o,none⟩)) f).run Ctx.P w= .ok (.pointer (some ⟨b,addO o fo,none⟩)) w:=by
 obtain⟨⟨i,c⟩,a,h1⟩:=bB h;obtain⟨n,hn,h2⟩:=bB h1;obtain⟨hn0,h3⟩:=bQ h2;cases h3;obtain⟨e,hu,g,hg,rfl,rfl⟩:=bNv a;have hn0:n≠0:=λd=>by subst d;cases hn0
 simp only[J7,J0,run_underlying hu,J6,hg,J8,J1,fieldPlace,jD hn,if_neg hn0,mZ];rfl
theorem field_run{t f ft fo:Nat}{cs:List V}{v:V}(h:bFq t f=some (ft,fo))(hv:bEf ft cs fo=some v):(J9 t ((V.g cs).inst α) f).run Ctx.P w= .ok (v.inst α) w:=by obtain⟨a,hu,g,hg,rfl,rfl⟩:=bNv h;rw[qO];simp only[J9,J0,run_underlying hu,J6,hg,asAgg,J1,wT hv w]
theorem bSm{t z:Nat}{k:IntKind}{q:Option Nat×TypeId×Nat}{u v:V}(hq:elemOf t=some q)(h:idxX u q.1 q.2.2 z=some v):(K1 t (u.inst α) (.int k (.ofNat z))).run Ctx.P w= .ok (v.inst α) w:=by
 obtain⟨n,e,sz⟩:=q
 have key: ∀(b o m:Nat),z<m->(0:Int)<=M5 z/\M5 z<(m:Int):=λb o m d=>⟨M8 z,M6.2 d⟩
 cases u with
 |l b o m c=>
  cases n with
  |some n=>cases h
  |none=>
   obtain⟨h1,h2⟩:=bQ (show gd _ _=some v from h);cases h2;obtain⟨hu,a⟩:=mI hq;have h0:=key 0 0 m (by simpa[D7]using h1);simp only[V.inst,K1,asIntOf,J0,J1,J6,run_underlying hu,if_pos h0,jD a,mZ];rfl
 |p b o=>
  cases n with
  |none=>cases h
  |some n=>
   obtain⟨h1,h2⟩:=bQ (show gd _ _=some v from h);cases h2;obtain⟨hu,a⟩:=bCv hq;have h0:=key 0 0 n (by simpa[D7]using h1);simp only[V.inst,K1,asIntOf,J8,J0,J1,J6,run_underlying hu,if_pos h0,jD a,mZ];rfl
 |_=>cases h
theorem index_run{t z:Nat}{k:IntKind}{u v:V}(h:atX t u z=some v):(Instr.index t (u.inst α) (.int k (.ofNat z))).run Ctx.P w= .ok (v.inst α) w:=by
 cases u with
 |s x=>
  obtain⟨c,h1⟩:=bQ (show gd _ _=some v from h);obtain⟨y,a,h2⟩:=bB h1;cases h2;rw[jM]at a;obtain⟨hlt,a⟩:=G3.1 a;have hr:=run_index_string (P:=Ctx.P) w t (bW x) k (M5 z) (bFw c);rw[dif_pos ⟨M8 z,by rw[pF];exact M6.2 hlt⟩]at hr
  have d:(bW x)[(M5 z).toNat]'(by rw[pF];exact hlt)=N8 y:=by rw[<-a];simp[bW,ByteArray.getElem_eq_getElem_data]
  rw[d]at hr
  simpa[V.inst]using hr
 |g cs=>
  obtain⟨⟨n,e,sz⟩,hq,h1⟩:=bB (show ob (elemOf t) _=some v from h)
  cases n with
  |none=>cases h1
  |some n=>
   obtain⟨h2,h3⟩:=bQ (show gd _ _=some v from h1);obtain⟨hu,b⟩:=bCv hq
   have h0:(0:Int)<=M5 z/\M5 z<(n:Int):=⟨M8 z,M6.2 (by simpa[D7]using h2)⟩
   rw[qO];simp only[Instr.index,asIntOf,J0,J1,J6,run_underlying hu,if_pos h0,jD b];exact wT h3 w
 |_=>cases h
omit [Ctx]in
theorem bNu: ∀(vs:List Value) (o k:Nat) (A:Array Value),o+k+vs.length<=A.size->(vs.zipIdx k).foldl (λcs (x:Value×Nat)=>cs.setIfInBounds (o+x.2) x.1) A=(A.toList.take (o+k)++vs++A.toList.drop (o+k+vs.length)).toArray
 |[],o,k,A,_=>by simp
 |v::vs,o,k,A,h=>by
  simp only[G5]at h;simp only[List.zipIdx_cons,List.foldl_cons];rw[bNu vs o (k+1) _ o6]
  congr 1
  have hlt:o+k<A.toList.length:=by simp;omega
  simp only[Array.toList_setIfInBounds]
  have b:(A.toList.set (o+k) v).take (o+(k+1))=A.toList.take (o+k)++[v]:=by rw[show o+(k+1)=(o+k)+1 from by omega,G7,G8 hlt,G9 (B8 _)];rfl
  have a:(A.toList.set (o+k) v).drop (o+(k+1)+vs.length)=A.toList.drop (o+k+(vs.length+1)):=by
   rw[H3 j5]
   congr 1
   omega
  rw[b,a];simp
omit [Ctx]in
theorem zK{place:Nat->Option (Nat×Nat)}: ∀{l:List (Nat×V)} {cs r:List V},bQx place cs l=some r->K2 place (cs.map (V.inst α)).toArray (l.map λx=>(x.1,x.2.inst α))=some (r.map (V.inst α)).toArray
 |[],cs,r,h=>by
  have h:some cs=some r:=h;cases h;rfl
 |(i,v)::l,cs,r,h=>by
  obtain⟨⟨o,sz⟩,e,h1⟩:=bB (show ob (place i) _=some r from h);obtain⟨h2,h3⟩:=bQ h1;obtain⟨a,g,h4⟩:=bB h3;obtain⟨c,j⟩:=sB _ _ _ _ g;have h2:v.cells.length=sz:=by simpa[D6]using h2
  have d:=zK (l:=l) (cs:=a) (r:=r) h4;have c:o+v.cells.length<=cs.length:=c;simp only[H6,K2,e,jB]
  have b: ¬((v.cells.map (V.inst α)).toArray.size≠sz\/o+(v.cells.map (V.inst α)).toArray.size>(cs.map (V.inst α)).toArray.size):=by simp only[List.size_toArray,I2];omega
  have f:((v.cells.map (V.inst α)).toArray.zipIdx.foldl (λcs (x:Value×Nat)=>cs.setIfInBounds (o+x.2) x.1) (cs.map (V.inst α)).toArray)=(a.map (V.inst α)).toArray:=by rw[<-Array.foldl_toList,Array.toList_zipIdx];have:=bNu (v.cells.map (V.inst α)) o 0 (cs.map (V.inst α)).toArray o6;rw[this,j];simp[H9,H8]
  rw[if_neg (by simpa using b)];rw[f];exact d
theorem vH(hs:Sim α s w)(he:EOk α s N e a): ∀{l:List (Nat×Operand)} {ps:List (Nat×V)},partsX l e=some ps->l.map (λx=>(x.1,a.eval x.2))=ps.map (λx=>(x.1,x.2.inst α))/\ ∀x∈ps,x.2.Sc s.n s.c
 |[],ps,h=>by
  have h:some []=some ps:=h;cases h;exact⟨rfl,λ_ h=>by cases h⟩
 |(i,x)::l,ps,h=>by
  obtain⟨q,hq,h1⟩:=bB (show ob _ _=some ps from h);obtain⟨r,hr,h2⟩:=bB h1;obtain⟨v,d,h3⟩:=bB hq;cases h2;cases h3;obtain⟨h4,j⟩:=vH hs he hr;obtain⟨g,f⟩:=cA hs he d;refine⟨by simp[h4,g],λy b=>?_⟩
  rcases F1.1 b with rfl|b
  .exact f
  .exact j y b
theorem bTd: ∀{fs:List Field} {pl:List (Nat×Nat)},placesX fs=some pl->fs.mapM (λf=>(Ctx.P.info? f.type).map λi=>(f.offset,i.size))=some pl
 |[],pl,h=>by
  have h:some []=some pl:=h;cases h;rfl
 |f::fs,pl,h=>by obtain⟨q,hq,h1⟩:=bB (show ob _ _=some pl from h);obtain⟨r,hr,h2⟩:=bB h1;obtain⟨n,hn,h3⟩:=bB hq;cases h2;cases h3;obtain⟨i,a,rfl⟩:=kQ hn;simp[List.mapM_cons,a,bTd hr]
theorem build_run{t:TypeId}{z:V}{pl:Nat->Option (Nat×Nat)}{ps:List (Nat×V)}{cs:List V}{parts:Array (Nat×Value)}(hz:zeroX t=some z)(hp:placeOf t=some pl)(hf:bQx pl z.cells ps=some cs)
  (he:parts.toList=ps.map λx=>(x.1,x.2.inst α)):(Instr.build t parts).run Ctx.P w= .ok ((V.g cs).inst α) w:=by
 rw[qO];refine run_build w t parts _ ?_;obtain⟨i,c,h1⟩:=bB hz;obtain⟨u,hu,h2⟩:=bB h1;have a:u.cells=(z.cells.map (V.inst α)).toArray:=by rw[<-vZ (α:=α) h2,jB]
 obtain⟨d,hd,h3⟩:=bB hp;unfold Program.built;rw[he];cases d<;>try cases h3
 case struct fs=>
  obtain⟨q,hq,h4⟩:=bB h3;cases h4;simp only[c,hd,hu,bTd hq,a]
  have:(λx:Nat=>q.toArray[x]?)=nthL q:=by
   funext x
   rw[jM];simp
  rw[this];exact zK hf
 case array n el=>
  obtain⟨sz,b,h4⟩:=bB h3;cases h4;obtain⟨j,e,rfl⟩:=kQ b;simp only[c,hd,hu,e,a];exact zK hf
theorem len_run(hs:Sim α s w){t:TypeId}{d:TypeDesc}{u:V}{n:Nat}(hd:Ctx.P.underlying t=some d)(h:lenD d u s=some n)(ty:TypeId):(L0 #[t] ty #[u.inst α]).run Ctx.P w= .ok (.int .i64 (.ofNat n)) w:=by
 cases d<;>try cases h
 case string=>
  obtain⟨x,rfl,h1⟩:=lO h;cases h1;simp[L0,run_underlying hd,V.inst,goInt,pF]
 case array=>simp[L0,run_underlying hd,goInt]
 case slice el=>
  cases u<;>cases h<;>simp[L0,run_underlying hd,V.inst,goInt]
 case map kt et=>
  cases u<;>try cases h
  .simp[L0,run_underlying hd,V.inst,goInt]
  .obtain⟨x,hx,h1⟩:=bB h;obtain⟨a,c,rfl,h2⟩:=xG h1;cases h2;have hb:=hs.is _ _ hx;have hb:w.heap[α.blk _]?=some (.map (a.map (entI α)).toArray c):=hb;simp[L0,run_underlying hd,V.inst,goInt,getObj,hb,Sem.run]
theorem pI{kt:TypeId}{k:V}(h:yL kt k=true)(q:Bool):(K6 q 10000 kt (k.inst α)).run Ctx.P w= .ok () w:=by
 unfold yL at h
 cases hd:Ctx.P.underlying kt with
 |none=>rw[hd]at h;cases h
 |some d=>
  rw[hd]at h;cases d<;>try cases h
  case int kk=>
   cases k<;>try cases h
   have: ∀n (v:Value),(∃kk x,v= .int kk x)->(K6 q (n+1) kt v).run Ctx.P w= .ok () w:=λn v ⟨_,_,a⟩=>by subst a;simp[K6,run_underlying hd]
   exact this 9999 _ ⟨_,_,rfl⟩
  case string=>
   cases k<;>try cases h
   have: ∀n (v:Value),(∃x,v= .string x)->(K6 q (n+1) kt v).run Ctx.P w= .ok () w:=λn v ⟨_,a⟩=>by subst a;simp[K6,run_underlying hd]
   exact this 9999 _ ⟨_,rfl⟩
theorem bFd{kt:TypeId}{k:V}(hk:yL kt k=true){es:List Ent}{f:Option (Nat×V)}(h:bGq kt k es 0=some f):(K7 kt (k.inst α) (es.map (entI α))).run Ctx.P w= .ok (f.map λq=>(q.1,q.2.inst α)) w:=by
 unfold yL at hk;have key: ∀(d:TypeDesc),Ctx.P.underlying kt=some d->(∀e c,eqX 1 kt k e=some c->K8 d (k.inst α) (e.inst α)=some c)-> ∀(es:List Ent) (i:Nat) (f:Option (Nat×V)),bGq kt k es i=some f->
   K9 d (k.inst α) (es.map (entI α)) i=some (f.map λq=>(q.1,q.2.inst α)):=by
  intro d hd b es
  induction es with
  |nil=>intro i f h;cases h;rfl
  |cons x es ih=>
   intro i f h;unfold bGq at h;obtain⟨c,a,h1⟩:=bB h;rw[cP]at h1;simp only[H6,K9,entI,b _ _ a];cases c
   .simp at h1;exact ih (i+1) f h1
   .simp at h1;subst h1;rfl
 cases hd:Ctx.P.underlying kt with
 |none=>rw[hd]at hk;cases hk
 |some d=>
  rw[hd]at hk;unfold K7;rw[J0,run_underlying hd,J6];cases d<;>try cases hk
  case int kk=>
   cases k<;>try cases hk
   rw[key _ hd (λe c a=>by
    simp only[eqX,hd]at a;cases e<;>try cases a
    obtain⟨h1,h2⟩:=bQ a;cases h2
    simp[K8,V.inst,lU h1,bIt]) es 0 f h]
   rfl
  case string=>
   cases k<;>try cases hk
   rw[key _ hd (λe c a=>by
    simp only[eqX,hd]at a;cases e<;>cases a
    simp[K8,V.inst,bMy,beq_toListBytes]) es 0 f h]
   rfl
theorem bPu{t kt et:TypeId}(h:bNc t=some (kt,et)):Ctx.P.underlying t=some (.map kt et):=by
 obtain⟨d,hd,h1⟩:=bB h;cases d<;>cases h1
 exact hd
theorem lookup_run(hs:Sim α s w){t kt et:TypeId}{u k r:V}{es:List Ent}{f:Option (Nat×V)}{ok:Bool}(ht:bNc t=some (kt,et))(hk:yL kt k=true)(hm:mapOf u s=some es)(hf:bGq kt k es 0=some f)(hr:foundX ok et f=some r):
  (Instr.lookup t (u.inst α) (k.inst α) ok).run Ctx.P w= .ok (r.inst α) w:=by
 have hu:=bPu ht;have a:=bFd (w:=w) (α:=α) hk hf;unfold Instr.lookup;rw[J0,run_underlying hu,J6];cases u<;>try cases hm
 case m0=>
  simp only[V.inst,J0,J1,J6,pI hk];rw[show(K7 kt (k.inst α) (#[]:Array MapEntry).toList).run Ctx.P w=_ from a,J6];unfold foundX at hr;rw[sY]at hr
  cases f with
  |none=>
   obtain⟨z,d,h1⟩:=bB hr;cases h1;simp only[N6,J0,wW d w α,J6,J1,cP];cases ok<;>simp[inst_t,V.inst]
  |some q=>
   cases hr;simp only[N5,J0,J1,J6,cP];cases ok<;>simp[inst_t,V.inst]
 case m b=>
  obtain⟨x,hx,h1⟩:=bB hm;obtain⟨e,c,rfl,h2⟩:=xG h1;cases h2;have hb:w.heap[α.blk b]?=some (.map (es.map (entI α)).toArray c):=hs.is _ _ hx;have hg:(getObj (α.blk b)).run Ctx.P w= .ok (.map (es.map (entI α)).toArray c) w:=by simp[getObj,hb,Sem.run]
  simp only[V.inst,J0,hg,J1,J6,pI hk];rw[show(K7 kt (k.inst α) (es.map (entI α)).toArray.toList).run Ctx.P w=_ from a,J6];unfold foundX at hr;rw[sY]at hr
  cases f with
  |none=>
   obtain⟨z,d,h1⟩:=bB hr;cases h1;simp only[N6,J0,wW d w α,J6,J1,cP];cases ok<;>simp[inst_t,V.inst]
  |some q=>
   cases hr;simp only[N5,J0,J1,J6,cP];cases ok<;>simp[inst_t,V.inst]
