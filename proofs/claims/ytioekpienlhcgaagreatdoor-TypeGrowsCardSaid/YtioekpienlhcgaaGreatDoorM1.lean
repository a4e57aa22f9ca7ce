/- A part of one proof. -/
import Derived.Lib.Bytealg
import Derived.WalkSpells
import Derived.WalkLawsBesides
import Derived.Handy
import Derived.Deep.Light
import Derived.BigQuiet
import Derived.Lib.Hide
import Derived.Deep.RegionHeld3
import Derived.StillTail
import Derived.Great.BuildSlice
import Derived.Deep.Slices
namespace Go.Proofs.YtioekpienlhcgaaGreatDoor
open _root_.Nat renaming lt_or_ge->k8,beq->k9,lt_of_lt_of_le->l5,eq_of_beq_eq_true->A0,le_refl->B0,le_trans->B1,blt->B2,lt_irrefl->B5,add_assoc->B8,add_zero->C0,not_lt->C3,zero_le->C4,add_mul->C5,one_mul->C6,zero_add->C7,mul_le_mul_right->C8,le_mul_of_pos_right->C9
abbrev j9:Bool×Nat:=(true,0)
abbrev u0:Bool×Nat:=(true,1)
abbrev u5:Bool×Nat:=(true,2)
abbrev u6:Bool×Nat:=(true,5)
abbrev u9:Bool×Nat:=(true,3)
abbrev A00:Bool×Nat:=(true,4)
abbrev A01:Bool×Nat:=(true,7)
abbrev A02:Bool×Nat:=(true,6)
abbrev A03:Bool×Nat:=(true,8)
abbrev A04:Bool×Nat:=(true,9)
abbrev A05:Bool×Nat:=(false,2)
abbrev A06:Bool×Nat:=(false,3)
abbrev A07:Bool×Nat:=(true,11)
abbrev A08:Bool×Nat:=(true,10)
abbrev A09:Bool×Nat:=(true,12)
abbrev A17:Bool×Nat:=(false,6)
abbrev A24:Bool×Nat:=(true,13)
abbrev A42:Bool×Nat:=(false,4)
abbrev A61:Bool×Nat:=(true,14)
abbrev A68:Bool×Nat:=(false,8)
abbrev A70:Bool×Nat:=(true,15)
abbrev A73:Bool×Nat:=(false,10)
abbrev A75:Bool×Nat:=(false,7)
abbrev A76:Bool×Nat:=(true,17)
abbrev A78:Bool×Nat:=(true,16)
abbrev A80:Bool×Nat:=(false,18)
open World renaming cell?->D0,setRow->D1
open _root_.Array renaming getElem?_eq_none->D2,getD_eq_getD_getElem?->D3,ext'->D4,getElem?_modify->D5,setIfInBounds_comm->D6,replicate->D7
open Code renaming region->D8,cond->D9,loop->E0,rounds->E1
open _root_.List renaming mem_cons->E2,mem_append->E3,mem_cons_of_mem->E4,pairwise_cons->E5,mem_append_left->E6,pairwise_append->E7,mem_cons_self->E8,all_eq_true->E9,getElem?_eq_getElem->F1,mem_append_right->F2,getElem?_eq_some_iff->F3,length_append->F4,length_cons->F5,take_of_length_le->F6,eq_nil_of_length_eq_zero->F7,range->F8,append_nil->F9
open Region renaming wanted->G0,ready->G1,binds->G2,free->G3,noSelect->G4,noSelect_spec->G6,free_spec->G7
open Sem renaming run_bind->G9,run_pure->H3
open Addr renaming add->H4,add_mid->H5
open Result renaming andThen_ok->H6
open Op renaming equalIn->H7
open Instr renaming sureAddr->H8,storeAt->H9,buildSlice->I0,indexAt->I1,sliceAt->I2
open Builtin renaming len_->I3,append_->I4,lenOf->I5,firstCells->I6
open Oper renaming wp->I7,upon_value->I8,upon_skip->I9,upon_enter->J0,upon->J1
open _root_.Bool renaming false_eq_true->J2,and_eq_true->J3
open _root_.Int renaming toNat_natCast->J4
open IntKind renaming wrap->J5,signed->J6,bits->J7
open _root_.Option renaming map_some->J8,map_none->J9,getD_some->K0
theorem tQ4{α:Type}{a b c d e:α}{l:List α}(h:e∈l):e∈a::b::c::d::l:= .tail _ (.tail _ (.tail _ (.tail _ h)))
theorem i6:True:=trivial
theorem j0{α:Type _}{l:List α}{i:Nat}{a:α}(h:l[i]?=some a):a∈l:=List.mem_of_getElem? h
theorem l6{p:Prop}(h:p:=by first|exact absurd (show b=60 by assumption) ‹_›|exact absurd (show b=62 by assumption) ‹_›|(rw[cO ⟨by first|exact .inl ‹_›|exact .inr ‹_›,(dS ‹_›).trans (congrArg some ‹_›)⟩];first|done|rfl)|(rw[cP (by first|exact .inl (cH (by omega))|exact .inl (dI ‹_› ‹_›)|exact .inr ⟨by assumption,by assumption⟩)];first|(rw[show b=_ from by assumption];rfl)|(rw[if_neg (by simp[fR, *])];first|done|rfl))):p:=h
theorem l7{p:Prop}(h:p:=by omega):p:=h
theorem l8{p:Prop}(h:p:=by first|exact .inl (cH (by omega))|exact .inl (dI ‹_› ‹_›)|exact .inr ⟨by assumption,by assumption⟩):p:=h
theorem l9{p:Prop}(h:p:=by first|exact kJ (by show ¬(x1.H=1\/x1.H=2);omega) (by first|exact .inl (show x1.H<3 by omega)|exact .inr (.inl (show 7<x1.H by omega))|exact .inr (.inr (.inl (gC (by omega))))|exact .inr (.inr (.inr (.inl ‹_›))))|exact jQ (by show ¬(x1.H=1\/x1.H=2);omega) (by first|exact qX (by first|exact .inl ‹_›|exact .inr ‹_›) (by omega)|exact rF ‹_› ‹_› (by omega))):p:=h
theorem m0{p:Prop}(h:p:=by kernel_rfl):p:=h
theorem m5{p:Prop}(h:p:=by first|(rw[nH (by omega) ‹_› ‹_› ‹_› ht ‹_› ‹_› ‹_› (by omega)];rfl)|(rw[qP (by first|exact .inl (by omega)|exact .inr (.inl ‹_›)|exact .inr (.inr (.inl ‹_›))|exact .inr (.inr (.inr (.inl ‹_›)))|exact .inr (.inr (.inr (.inr (.inl ⟨_,ht⟩))))|exact .inr (.inr (.inr (.inr (.inr ⟨_,_,_,_,ht,by first|exact .inl ‹_›|exact .inr (.inl ‹_›)|exact .inr (.inr (.inl ‹_›))|exact .inr (.inr (.inr (by omega)))⟩)))))];rfl)):p:=h
theorem m6{p:Prop}(h:p:=by decide):p:=h
theorem m7{p:Prop}(h:p:=by first|exact .inl (show it.H<3 by omega)|exact .inr (.inl (show 7<it.H by omega))|exact .inr (.inr (.inl (gC (by omega))))|exact .inr (.inr (.inr ‹_›))):p:=h
theorem m8{p:Prop}(h:p:=by first|exact .inl (by omega)|exact .inr (.inl ‹_›)|exact .inr (.inr (.inl ‹_›))|exact .inr (.inr (.inr (.inl ‹_›)))|exact .inr (.inr (.inr (.inr (.inl ⟨_,ht⟩))))|exact .inr (.inr (.inr (.inr (.inr ⟨_,_,_,_,ht,by first|exact .inl ‹_›|exact .inr (.inl ‹_›)|exact .inr (.inr (.inl ‹_›))|exact .inr (.inr (.inr (by omega)))⟩))))):p:=h
theorem m9{p:Prop}(h:p:=by simp):p:=h
theorem n0{p:Prop}(h:p:=by first|(simp only[List.length_singleton];omega)|(simp;omega)):p:=h
theorem n7{p:Prop}(h:p:=by first|exact .inl ‹_›|exact .inr ‹_›):p:=h
theorem n8{p:Prop}(h:p:=by rintro⟨h1,h2,h4⟩;have h4:(bN a.values.A).length+(bN b.values.A).length<=4:=h4;rw[bI,bI]at h4;first|omega|(change a.known=true at h1;change b.known=true at h2;simp_all)):p:=h
theorem n9{p:Prop}(h:p:=by first|exact .inl (show x1.H<3 by omega)|exact .inr (.inl (show 7<x1.H by omega))|exact .inr (.inr (.inl (gC (by omega))))|exact .inr (.inr (.inr (.inl ‹_›)))):p:=h
theorem o0{p:Prop}(h:p:=by decide+kernel):p:=h
theorem o5{p:Prop}(h:p:=by first|(rw[bQj ‹_›];rfl)|(rw[bFz ‹_› ‹_› (by first|exact .inl ‹_›|exact .inr ‹_›)];rfl)|(rw[zH ‹_› ‹_› (by omega) ‹_›];rfl)|(rw[bGr ‹_› ‹_› (by first|exact .inl ‹_›|exact .inr (by omega))];rfl)|(rw[zN ‹_› ‹_› ‹_› (by omega),hinv11.2.1,List.take_of_length_le (by omega)];rfl)):p:=h
theorem o6{p:Prop}(h:p:=by first|(simp;done)|(simp;omega)):p:=h
theorem o7{p:Prop}(h:p:=by first|exact .inl (by omega)|exact .inr (.inl ‹_›)|exact .inr (.inr ‹_›)):p:=h
theorem o8{p:Prop}(h:p:=by first|exact qX (by first|exact .inl ‹_›|exact .inr ‹_›) (by omega)|exact rF ‹_› ‹_› (by omega)):p:=h
theorem o9{p:Prop}(h:p:=by first|exact congrArg Value.bool (bDp ‹_› (by omega))|exact congrArg Value.bool (bDs ‹_› (by omega))|exact congrArg Value.bool (bEs ‹_› (by omega) (by omega))|exact congrArg Value.bool (bXd ‹_› (by omega))|exact congrArg Value.bool (bWw ‹_› (by omega))):p:=h
theorem p6{p:Prop}(h:p:=by first|rfl|omega|(simp only[List.length_cons,List.length_nil];omega)):p:=h
theorem p7{p:Prop}(h:p:=by first|omega|(simp;omega)):p:=h
theorem p8{p:Prop}(h:p:=by first|exact bGx hg7|exact bHk hg11|exact bGi hc14|exact bGb hg23|exact bHo hg28|exact bGl hg7 hg11 hc14 hg23 hg28 ‹(iD s).1[0]?=some _› hg35|exact bHh hg7 hg11 hc14 hg23 hg28 ‹(iD s).1[0]?=some _› hg35):p:=h
theorem q7{p:Prop}(h:p:=by rw[show it.it.H=_ from hh];rfl):p:=h
theorem q8{p:Prop}(h:p:=by first|exact zY hc11|exact bAh hc11 hc15 hc19|exact zL hc11 hc15 hc19|exact bAk hc11 hc15 hnt he|exact zP hc11 hc15 hnt|exact zZ hc11 hc15 hnt hc45|exact bAb hc11 hc15 hnt hc45):p:=h
theorem q9{p:Prop}(h:p:=by simp;omega):p:=h
theorem r7{p:Prop}(h:p:=by first|rfl|(simp;done)|(simp;omega)):p:=h
theorem r8{p:Prop}(h:p:=by rw[show it.it.H=_ from hh];decide):p:=h
theorem r9{p:Prop}(h:p:=by show ¬(x1.H=1\/x1.H=2);omega):p:=h
theorem s8{p:Prop}(h:p:=by simp[fR, *]):p:=h
theorem s9{p:Prop}(h:p:=by first|(rw[bTl ‹_›];first|done|rfl)|(rw[bUd ‹_› (by first|exact .inl ‹_›|exact .inr ‹_›)];first|done|rfl)|(rw[bRw ‹_› ‹_› ‹_› ‹_›];first|done|rfl)|(rw[bTd ‹_› ‹_› ‹_› ‹_›];first|done|rfl)):p:=h
theorem t6{p:Prop}(h:p:=by first|exact .inl ‹_›|exact .inr ⟨by rw[show it.it.H=_ from hh];decide,by rw[show it.it.H=_ from hh];decide,by assumption⟩):p:=h
theorem t7{p:Prop}(h:p:=by first|(simp[iA, *];done)|(subst_vars;rfl)):p:=h
theorem t8{p:Prop}(h:p:=by first|exact congrArg Value.bool nm_0|exact congrArg Value.bool (nm_a ‹_›)|exact congrArg Value.bool (nm_b ‹_›)|exact congrArg Value.bool (nm_c ‹_›)|exact congrArg Value.bool (nm_d ‹_› ‹_› ‹_›)):p:=h
theorem v6{p:Prop}(h:p:=by first|(rw[if_pos (by omega)];rfl)|(rw[if_neg (by omega)];rfl)):p:=h
theorem v7{p:Prop}(h:p:=by have:=he.1;first|(have:=fA toks k e false;dsimp only;omega)|(have:=fA toks k e true;dsimp only;omega)):p:=h
theorem v8{p:Prop}(h:p:=by dsimp only;omega):p:=h
theorem w6{p:Prop}(h:p:=by simpa[Nat.blt_eq]using hn):p:=h
theorem w7{p:Prop}(h:p:=by rw[leftS,if_neg (show ¬q1.pc.plain=true by rw[show q1.pc.plain=false by assumption];simp)];rfl):p:=h
theorem w8{p:Prop}(h:p:=by first|exact .inl (List.map_eq_nil_iff.2 (List.eq_nil_of_length_eq_zero (by omega)))|exact .inr (by omega)):p:=h
theorem w9{p:Prop}(h:p:=by rw[leftS,if_pos (show q1.pc.plain=true by assumption)];rfl):p:=h
theorem z7{p:Prop}(h:p:=by first|exact .inl ‹_›|exact .inr (by omega)):p:=h
theorem z8{p:Prop}(h:p:=by first|exact .inl (by(try simp only[List.length_cons,List.length_nil]);omega)|exact .inr (bWg asd)):p:=h
theorem aa0{p:Prop}(h:p:=by first|exact oU hx0 (by rw[if_neg (by omega)];exact nT ‹_›)|exact rL hx0 (by omega) ‹_› hex|exact mB hx0 (by omega) (by first|assumption|(rw[show x10.ln.name=[]from by assumption];exact yN)) hex|exact False.elim (by omega)):p:=h
theorem aa1{p:Prop}(h:p:=by simp[maxLen]):p:=h
theorem aa2{p:Prop}(h:p:=by rw[hs];rfl):p:=h
theorem aa3{p:Prop}(h:p:=by first|(simp[oJ, *];done)|simp[oJ,jK, *]):p:=h
theorem aa4{p:Prop}(h:p:=by first|exact fs_a ‹_› (by first|exact bMh (show x6.n<0 by omega)|exact bMm (show 65536<x6.n by omega))|exact fs_b (show 6<=idxOf x6.name (dG P.pr) 0 by omega)):p:=h
theorem aa5{p:Prop}(h:p:=by first|exact bJg ‹_›|exact bJi ‹_›|exact bJm ‹_› ‹_› (by first|exact .inl ‹_›|exact .inr ‹_›)|exact bIm ‹_› ‹_› ‹_› ‹_›):p:=h
theorem aa6{p:Prop}(h:p:=by first|exact .inr ‹_›|exact .inl (by omega)):p:=h
theorem aa7{p:Prop}(h:p:=by simp only[List.length_singleton];omega):p:=h
theorem aa8{p:Prop}(h:p:=by rw[List.length_map];omega):p:=h
theorem aa9{p:Prop}(h:p:=by first|exact .inl asd|exact .inr asd|exact .inr (.inl asd)|exact .inr (.inr asd)|exact .inr (by show it.H=7;omega)):p:=h
theorem ab0{p:Prop}(h:p:=by first|exact .inl ‹_›|exact .inr ‹_›|exact .inr (.inl ‹_›)|exact .inr (.inr ‹_›)|exact .inr (by show it.H=7;omega)):p:=h
theorem ab1{p:Prop}(h:p:=by first|exact .inl ‹_›|exact .inr (.inl ‹_›)|exact .inr (.inr (.inl (List.eq_nil_of_length_eq_zero (by omega))))|exact .inr (.inr (.inr (by omega)))):p:=h
theorem ab2{p:Prop}(h:p:=by first|omega|(simp;done)|(simp;omega)):p:=h
theorem ab3{p:Prop}(h:p:=by first|omega|(simp only[List.length_set];omega)):p:=h
theorem ab4{p:Prop}(h:p:=by first|exact cT.head|exact kT1|exact kT2|exact kT3|exact kT4|exact kT5|exact kT6|exact kT7|exact kT8|exact kT9|exact bKz|exact bLt|exact bMg|exact bLn):p:=h
theorem ab5{p:Prop}(h:p:=by first|omega|(simp;done)):p:=h
theorem ab6{p:Prop}(h:p:=by first|exact pA (by omega) (by omega)|(rw[pA (by omega) (by omega)];omega)):p:=h
theorem ab7{p:Prop}(h:p:=by simp only[List.length_append,List.nil_append]at*;omega):p:=h
theorem ab8{p:Prop}(h:p:=by first|exact oU hx0 (by rw[if_pos (by omega)];exact nT ‹_›)|exact rL hx0 (by omega) ‹_› hex|exact mB hx0 (by omega) (by first|assumption|(rw[show x10.ln.name=[]from by assumption];exact yN)) hex|exact False.elim (by omega)):p:=h
theorem ab9{p:Prop}(h:p:=by rw[List.length_take,Nat.min_eq_left hkl]):p:=h
theorem ac0{p:Prop}(h:p:=by first|exact sign_a hg6|exact sign_b hg6 hc3|exact sign_c hg6 hc3 hc10|exact sign_d hg6 hc3 hc10):p:=h
theorem ac1{p:Prop}(h:p:=by dsimp only;rw[List.length_drop];omega):p:=h
theorem ac2{p:Prop}(h:p:=by first|exact .inl ‹_›|exact .inr ⟨hin,bHq (by omega)⟩):p:=h
theorem ac3{p:Prop}(h:p:=by first|exact vB ‹_› ‹_› ‹_›|exact sW ‹_› ‹_›|exact tA ‹_› ‹_›):p:=h
theorem ac4{p:Prop}(h:p:=by rw[leftS,if_neg (show ¬q1.pc.plain=true by rw[show q1.pc.plain=false by assumption];simp),hbr];rfl):p:=h
theorem ac5{p:Prop}(h:p:=by first|assumption|(rw[show x10.ln.name=[]from by assumption];exact yN)):p:=h
theorem ac6{p:Prop}(h:p:=by first|omega|simp):p:=h
theorem ac7{p:Prop}(h:p:=by first|exact fs_c (badT_c (show ¬x6.n<0 by omega) (show ¬65536<x6.n by omega)) (show idxOf x6.name (dG P.pr) 0<6 by omega)|exact fs_d ‹_› (show idxOf x6.name (dG P.pr) 0<6 by omega)):p:=h
theorem ac8{p:Prop}(h:p:=by rw[mX,if_neg (by omega),if_neg (by rintro(h|h)<;>simp_all),<-hinv8.1,bTx (e:=e) (by omega) (by first|exact .inl ‹_›|exact .inr ⟨by assumption,by assumption⟩) (by simp;omega)]):p:=h
theorem ac9{p:Prop}(h:p:=by first|exact Nat.le_refl 1|omega):p:=h
theorem ad0{p:Prop}(h:p:=by rw[show a.t.values++b.t.values=bN (a.values.A++b.values.A)from (rI _ _).symm]):p:=h
theorem ad1{p:Prop}(h:p:=by first|exact bMh (show x6.n<0 by omega)|exact bMm (show 65536<x6.n by omega)):p:=h
theorem ad2{p:Prop}(h:p:=by first|exact .inl (by omega)|exact .inr (.inl (by omega))|exact .inr (.inr (of_decide_eq_true ‹_›))):p:=h
theorem ad3{p:Prop}(h:p:=by simpa using h):p:=h
theorem ad4{p:Prop}(h:p:=by rw[if_pos (by simp only[List.length_append,List.nil_append]at*;omega)]):p:=h
theorem ad5{p:Prop}(h:p:=by rw[if_neg (by simp only[List.length_append,List.nil_append]at*;omega)]):p:=h
theorem ad6{p:Prop}(h:p:=by rw[Int.tdiv_eq_ediv_of_nonneg (by omega),pA (by omega) (by omega)];omega):p:=h
theorem ad7{p:Prop}(h:p:=by first|exact fs_c (badT_c (show ¬x4.n<0 by omega) (show ¬65536<x4.n by omega)) (few_lt hx0 hw6 (j0 hd0))|exact fs_d ‹_› (few_lt hx0 hw6 (j0 hd0))):p:=h
theorem ad8{p:Prop}(h:p:=by rw[List.length_drop];rfl):p:=h
theorem ad9{p:Prop}(h:p:=by rw[mX,if_neg (by omega),if_neg (by rintro(h|h)<;>simp_all),<-hinv8.1,bZj (e:=e) (by omega) ‹_› (by first|exact .inl ‹_›|exact .inr ‹_›)]):p:=h
theorem ae0{p:Prop}(h:p:=by first|exact .inl ‹_›|exact .inr ⟨by assumption,by assumption⟩):p:=h
theorem ae1{p:Prop}(h:p:=by simp[hy]):p:=h
theorem ae2{p:Prop}(h:p:=by have h9:bQg r.A (k+1)=bQg r.A k+t.B.A.length:=bIr ht;have h8:s=t.B.A.length:=(by omega);rw[h9,<-h8,Nat.add_assoc]):p:=h
theorem ae3{p:Prop}(h:p:=by show(bN _).length+(bN _).length<=4;rw[bI,bI];omega):p:=h
theorem ae4{p:Prop}(h:p:=by rw[List.length_drop];first|omega|(simp;done)):p:=h
theorem ae5{p:Prop}(h:p:=by simp at*;omega):p:=h
theorem ae6{p:Prop}(h:p:=by first|assumption|omega):p:=h
theorem ae7{p:Prop}(h:p:=by rw[show((dR true it.fn)==([]:Bs))=false from hg85];simp):p:=h
theorem ae8{p:Prop}(h:p:=by have:verbWords.length=25:=rfl;omega):p:=h
theorem ae9{p:Prop}(h:p:=by show 3<=x1.H;omega):p:=h
theorem af0{p:Prop}(h:p:=by show x1.H<=7;omega):p:=h
theorem af1{p:Prop}(h:p:=by show it.H=7;omega):p:=h
theorem af2{p:Prop}(h:p:=by rw[bUx (by omega) (by omega),UInt8.toNat_ofNat'];omega):p:=h
theorem af3{p:Prop}(h:p:=by first|(simp[pL, *];done)|(simp[pL,<-vI, *];done)):p:=h
theorem af4{p:Prop}(h:p:=by show(P.C.A.map InputV.inp).length<=i;rw[List.length_map];omega):p:=h
theorem af5{p:Prop}(h:p:=by simp[hx]):p:=h
theorem af6{p:Prop}(h:p:=by first|decide|rfl|simp):p:=h
theorem af7{p:Prop}(h:p:=by rw[h9];have h8:=bPz (f:=λt:TyV=>t.B.A) (l:=r.A) (i:=k) (by omega);exact congrArg _ h8):p:=h
theorem af8{p:Prop}(h:p:=by rw[hlr.1,hlr.2];exact bDf hinv10.2 (by omega)):p:=h
theorem af9{p:Prop}(h:p:=by rw[if_neg (by omega)];exact nT ‹_›):p:=h
theorem ag0{p:Prop}(h:p:=by rw[pA (by omega) (by omega)];omega):p:=h
theorem ag1{p:Prop}(h:p:=by first|exact oU hx0 (by rw[if_neg (by omega)];exact nT ‹_›)|exact mB hx0 (by omega) ‹_› hex):p:=h
theorem ag2{p:Prop}(h:p:=by rw[hinv1.2,hO hb2,runB,if_neg (by first|(simp[pL, *];done)|(simp[pL,<-vI, *];done))];rfl):p:=h
theorem ag3{p:Prop}(h:p:=by simp[*]):p:=h
theorem ag4{p:Prop}(h:p:=by simp only[List.length_singleton,List.length_reverse];omega):p:=h
theorem ag5{p:Prop}(h:p:=by first|exact hc_bs|omega):p:=h
theorem ag6{p:Prop}(h:p:=by rintro(h|h);(have h:=congrArg List.length h;rw[hpl,List.length_nil]at h;omega);omega):p:=h
theorem ag7{p:Prop}(h:p:=by rw[oB,List.length_append];omega):p:=h
theorem ag8{p:Prop}(h:p:=by rw[show((verbS x1.it).1==([]:Bs))=false from hc87];simp):p:=h
theorem ag9{p:Prop}(h:p:=by first|exact .inl ‹_›|exact .inr ‹_›|exact .inr (by show ¬wE vs2 d.name<0;omega)):p:=h
theorem ah0{p:Prop}(h:p:=by first|exact congrArg Value.bool (any_a ‹_›)|exact congrArg Value.bool (any_b ‹_›)):p:=h
theorem ah1{p:Prop}(h:p:=by first|exact .inl asd|exact .inr asd):p:=h
theorem ah2{p:Prop}(h:p:=by first|omega|(exfalso;simp_all;done)):p:=h
theorem ah3{p:Prop}(h:p:=by show _=_;rw[HS.out,if_neg (by omega),show j+1+1-1=j+1 from rfl,HM.out];simp[ho]):p:=h
theorem ah4{p:Prop}(h:p:=by unfold fO;rw[hg,hn1,HL.out];simp[hf]):p:=h
theorem ah5{p:Prop}(h:p:=by first|exact bMh (show x4.n<0 by omega)|exact bMm (show 65536<x4.n by omega)):p:=h
theorem ah6{p:Prop}(h:p:=by rw[mX,if_neg (by omega),if_pos (by first|exact .inl ‹_›|exact .inr ‹_›)]):p:=h
theorem ah7{p:Prop}(h:p:=by rw[<-hE];exact Prod.ext hq.symm rfl):p:=h
theorem ah8{p:Prop}(h:p:=by rw[Int.zero_sub];exact yW (by omega) (by omega)):p:=h
theorem ah9{p:Prop}(h:p:=by first|exact .inl (by omega)|exact .inr ⟨_,by assumption,by assumption⟩):p:=h
theorem ai0{p:Prop}(h:p:=by rw[show((bL toks (0)).word==([111,117,116]:Bs))=false from hg11];simp):p:=h
theorem ai1{p:Prop}(h:p:=by rintro(h|h)<;>simp_all):p:=h
theorem ai2{p:Prop}(h:p:=by first|exact .inl (by omega)|exact .inr (of_decide_eq_false ‹_›)):p:=h
theorem ai3{p:Prop}(h:p:=by first|exact(if_pos ‹_›).symm|exact hjn.trans (if_neg ‹_›).symm):p:=h
theorem ai4{p:Prop}(h:p:=by rw[show(((b::r).take (gQ (b::r)))==([]:Bs))=false from hc75];simp):p:=h
theorem ai5{p:Prop}(h:p:=by rw[show((bL toks ((k+1))).word==([47]:Bs))=false from hg43];simp):p:=h
theorem ai6{p:Prop}(h:p:=by rw[show((bL toks ((k+1))).word==([92]:Bs))=false from hg48];simp):p:=h
theorem ai7{p:Prop}(h:p:=by rw[show((bL toks ((k+1))).word==([46]:Bs))=false from hc53];simp):p:=h
theorem ai8{p:Prop}(h:p:=by show(x3.B.A.map kP.sd).length<=j;rw[List.length_map];omega):p:=h
theorem ai9{p:Prop}(h:p:=by first|(rw[brkR,if_pos ‹_›])|(rw[brkR,if_neg (by simp[*])])):p:=h
theorem aj0{p:Prop}(h:p:=by rw[zD (by first|exact .inl ‹_›|exact .inr ‹_›),nT hc42];rfl):p:=h
theorem aj1{p:Prop}(h:p:=by show(x.B.A.map kP.sd).length<=j;rw[List.length_map];omega):p:=h
theorem aj2{p:Prop}(h:p:=by rw[show((bL toks k).word==([41]:Bs))=false from hc137];simp):p:=h
theorem aj3{p:Prop}(h:p:=by rw[decide_eq_false (by omega)];decide):p:=h
theorem aj4{p:Prop}(h:p:=by rw[decide_eq_true (by omega)];decide):p:=h
theorem aj5{p:Prop}(h:p:=by show((bL toks ((k+1))).word==([46]:Bs))=_;rw[hg43];rfl):p:=h
theorem aj6{p:Prop}(h:p:=by show((bL toks ((k+1))).word==([46]:Bs))=_;rw[hg48];rfl):p:=h
theorem aj7{p:Prop}(h:p:=by show((bL toks ((k+1))).word==([46]:Bs))=_;rw[hc53];rfl):p:=h
theorem aj8{p:Prop}(h:p:=by rw[if_pos (by omega)];exact nT ‹_›):p:=h
theorem aj9{p:Prop}(h:p:=by unfold fO;rw[hg,hn1];rfl):p:=h
theorem ak0{p:Prop}(h:p:=by first|exact(if_pos ‹_›).symm|exact(if_neg ‹_›).symm):p:=h
theorem ak1{p:Prop}(h:p:=by rw[hi];simp):p:=h
theorem ak2{p:Prop}(h:p:=by rw[hB.1]at h0;cases h0):p:=h
theorem ak3{p:Prop}(h:p:=by rw[show(s==([112,111,119]:Bs))=false from hc34];simp):p:=h
theorem ak4{p:Prop}(h:p:=by rw[HS.out,decide_eq_false (by omega),Bool.false_and]):p:=h
theorem ak5{p:Prop}(h:p:=by rw[show(s==([97,110,100]:Bs))=false from hc30];simp):p:=h
theorem ak6{p:Prop}(h:p:=by rw[hg133];rfl):p:=h
theorem ak7{p:Prop}(h:p:=by rw[hr];rfl):p:=h
theorem ak8{p:Prop}(h:p:=by rw[show(x10.name==([]:Bs))=false from hg124];simp):p:=h
theorem ak9{p:Prop}(h:p:=by rw[show(s==([111,114]:Bs))=false from hc32];simp):p:=h
theorem al0{p:Prop}(h:p:=by rw[mK];omega):p:=h
theorem al1{p:Prop}(h:p:=by rw[Int.tmod_eq_emod_of_nonneg (by omega)];omega):p:=h
theorem al2{p:Prop}(h:p:=by rw[h]at hr;cases hr):p:=h
theorem al3{p:Prop}(h:p:=by rw[show(s==([60,61]:Bs))=false from hc24];simp):p:=h
theorem al4{p:Prop}(h:p:=by rw[show(s==([62,61]:Bs))=false from hc26];simp):p:=h
theorem al5{p:Prop}(h:p:=by simp[h]):p:=h
theorem al6{p:Prop}(h:p:=by rw[List.length_drop];omega):p:=h
theorem al7{p:Prop}(h:p:=by first|exact beq_iff_eq.2 ‹_›|assumption):p:=h
theorem al8{p:Prop}(h:p:=by rw[hr];first|done|rfl):p:=h
theorem al9{p:Prop}(h:p:=by simp[e]):p:=h
theorem am0{p:Prop}(h:p:=by rw[mM];omega):p:=h
theorem am1{p:Prop}(h:p:=by rw[hel];exact hu):p:=h
theorem am2{p:Prop}(h:p:=by simp[nG, *]):p:=h
theorem am3{p:Prop}(h:p:=by rw[h1];simp):p:=h
theorem am4{p:Prop}(h:p:=by rw[bI];exact hi):p:=h
theorem am5{p:Prop}(h:p:=by rw[h1]at h0;cases h0):p:=h
theorem am6{p:Prop}(h:p:=by rw[ho,hi];simp):p:=h
theorem am7{p:Prop}(h:p:=by rw[hg160];rfl):p:=h
section
open Go.RowKit
theorem ret_int{k:IntKind}{a b:Int}(h:a=b):Ending.returned (.int k a)= .returned (.int k b):=by rw[h]
theorem gW{a b:Bool}(h:a=b):Ending.returned (.bool a)= .returned (.bool b):=by rw[h]
theorem wQ{B:Nat}{a w:World}(h:Below B a w)(n:Nat):Below B a (w.drewN n):=⟨h.os,h.tape,h.output,h.size,h.block⟩
structure iU (W:World) where
 w:World
 h:Below W.heap.size W w
instance (W : World) : Nonempty (iU W) := ⟨⟨W, Below.refl _ _⟩⟩
theorem iU.of{W w:World}(h:Below W.heap.size W w): ∃x:iU W,w=x.w:=⟨⟨w,h⟩,rfl⟩
theorem iU.cell{W:World}{b o:Nat}{v:Value}(h:W.cell? ⟨b,o,none⟩=some v): ∀x:iU W,x.w.cell? ⟨b,o,none⟩=some v:=λx=>by
 have d:b<W.heap.size:=by
  rcases k8 b W.heap.size with a|c
  .exact a
  .simp[D0,D2 c]at h
 exact(x.h.cell (p:=⟨b,o,none⟩) d).trans h
theorem iU.calls{P:Program}{f:FuncId}{args:Array Value}{v:Value}{W0:World}(h: ∀W,Below W0.heap.size W0 W->Calls P f args W λe w'=>e= .returned v/\Below W.heap.size W w'):
  ∀x:iU W0,Calls P f args x.w λe w'=>e= .returned v/\ ∃y:iU W0,w'=y.w:=
 λx=>(h x.w x.h).mono λ_ _ ⟨he,a⟩=>⟨he,iU.of (x.h.trans (a.mono x.h.size))⟩
theorem nN{P:Program}{id:Nat}{Q:Exit->Act->World->Prop}{a:Act}{w:World}{l:List Oper}(hm:P.follows .mixedOrders=true)(hB:Region.lexB .any l.toArray=true)
  (h:wpQuiet P l.toArray (λw'=> ∃x:iU w,w'=x.w) (λa'=> ∀w',(∃x:iU w,w'=x.w)->Q .normal a' w') l a):(D8 id l.toArray true).wp P Q a w:=
 wp_region_quiet (C:=λw'=> ∃x:iU w,w'=x.w) hm hB (iU.of (Below.refl _ _).drew) ad3
abbrev Env:=List (Nat×Value)
def Env.get:Env->Nat->Option Value
 |[],_=>none
 |(i,v)::r,j=>cond (k9 i j) (some v) (Env.get r j)
def Env.ev(Γ:Env):Operand->Option Value
 |.tmp t=>Γ.get t
 |.const v=>some v
 |.global g=>some (.pointer (some ⟨g,0,none⟩))
 |.func f=>some (.func (.func f) #[] #[])
def Env.evs(Γ:Env):List Operand->Option (List Value)
 |[]=>some []
 |x::r=>match Γ.ev x with
  |some v=>match Γ.evs r with
   |some vs=>some (v::vs)
   |none=>none
  |none=>none
structure Fits (n:Nat) (Γ:Env) (a:Act):Prop where
 defers:a.defers=[]
 size:n<=a.tmps.size
 get: ∀i v,Γ.get i=some v->a.tmps[i]?=some v
section
variable {n : Nat} {Γ : Env} {a : Act}
theorem Fits.ev(h:Fits n Γ a){x:Operand}{v:Value}(hx:Γ.ev x=some v):a.eval x=v:=by
 cases x with
 |tmp t=>have:=h.get t v hx;simp[Act.eval,D3,this]
 |const u=>simp[Env.ev]at hx;exact hx
 |global g=>simp[Env.ev]at hx;exact hx
 |func f=>simp[Env.ev]at hx;exact hx
theorem Fits.evs(h:Fits n Γ a): ∀{xs:List Operand} {vs:List Value},Γ.evs xs=some vs->xs.map a.eval=vs
 |[],vs,hx=>by simp[Env.evs]at hx;simp[hx]
 |x::r,vs,hx=>by
  unfold Env.evs at hx
  cases b:Γ.ev x with
  |none=>simp[b]at hx
  |some v=>
   cases hr:Γ.evs r with
   |none=>simp[b,hr]at hx
   |some us=>
    simp[b,hr]at hx;subst hx;simp[h.ev b,h.evs hr]
theorem Fits.put(h:Fits n Γ a){d:Nat}(hd:d<n)(v:Value):Fits n ((d,v)::Γ) (a.put (some d) v):=by
 refine⟨h.defers,by simpa[Act.put]using h.size,λi u hu=>?_⟩;have b:d<a.tmps.size:=l5 hd h.size;unfold Env.get at hu
 by_cases e:d=i
 .subst e;simp at hu;subst hu;simp[Act.put,b]
 .have:k9 d i=false:=by
   cases c:k9 d i with
   |false=>rfl
   |true=>exact absurd (A0 c) e
  simp[this]at hu;simp[Act.put,e,h.get i u hu]
theorem Fits.put_none(h:Fits n Γ a)(v:Value):Fits n Γ (a.put none v):=h
def Env.Sub(Γ:Env):Env->Prop
 |[]=>True
 |(i,v)::r=>Γ.get i=some v/\Env.Sub Γ r
theorem Env.Sub.get{Γ:Env}: ∀{Δ:Env},Γ.Sub Δ-> ∀i v,Δ.get i=some v->Γ.get i=some v
 |[],_,i,v,h=>by simp[Env.get]at h
 |(j,u)::r,hs,i,v,h=>by
  unfold Env.get at h
  cases a:k9 j i with
  |true=>
   have:=A0 a;subst this;simp at h;rw[<-h];exact hs.1
  |false=>
   simp[a]at h;exact Env.Sub.get hs.2 i v h
theorem Fits.sub(h:Fits n Γ a){Δ:Env}(hs:Γ.Sub Δ):Fits n Δ a:=⟨h.defers,h.size,λi v b=>h.get i v (hs.get i v b)⟩
end
abbrev nL:=Nat->Prop
def Agree (S:nL)(w w':World):Prop:= ∀b,S b->w'.heap[b]?=w.heap[b]?
structure Fact where
 p:nL->World->Prop
 mono: ∀{S S':nL} {w w':World},(∀b,S b->S' b)->Agree S w w'->p S w->p S' w'
def All (F:List Fact)(S:nL)(w:World):Prop:= ∀f∈F,f.p S w
theorem All.mono{F:List Fact}{S S':nL}{w w':World}(hs: ∀b,S b->S' b)(ha:Agree S w w')(h:All F S w):All F S' w':=λf hf=>f.mono hs ha (h f hf)
theorem All.cons{f:Fact}{F:List Fact}{S:nL}{w:World}(h:f.p S w)(k:All F S w):All (f::F) S w:=λg hg=>by
 rcases E2.1 hg with rfl|hg
 .exact h
 .exact k g hg
theorem All.append{F G:List Fact}{S:nL}{w:World}(h:All F S w)(k:All G S w):All (F++G) S w:=λg hg=>by
 rcases E3.1 hg with hg|hg
 .exact h g hg
 .exact k g hg
def Fact.pure(c:Prop):Fact:=⟨λ_ _=>c,λ_ _ h=>h⟩
def Has (F:List Fact)(g:Fact):Prop:= ∀S w,All F S w->g.p S w
theorem Has.of{F:List Fact}{g:Fact}(h:g∈F):Has F g:=λ_ _ k=>k g h
theorem Has.pure{F:List Fact}{c:Prop}(h:c):Has F (Fact.pure c):=λ_ _ _=>h
theorem i7{F:List Fact}{c:Prop}(h:c):Has F (Fact.pure c):=Has.pure h
def bA (F:List Fact):List Fact->Prop
 |[]=>True
 |g::G=>Has F g/\bA F G
theorem bA.all{F:List Fact}: ∀{G:List Fact},bA F G-> ∀S w,All F S w->All G S w
 |[],_,_,_,_=>λg hg=>by simp at hg
 |g::G,h,S,w,k=>All.cons (h.1 S w k) (bA.all h.2 S w k)
inductive bK where
 |obj (b:Nat) (o:Obj)
 |row (v:Value) (t:TypeId) (size n:Nat) (cs:List Value)
 |gen (b:Option Nat) (p:Option Obj->Prop)
def bK.blk:bK->Option Nat
 |.obj b _=>some b
 |.row v _ _ _ _=>v.ownBlock
 |.gen b _=>b
def bK.ok (w:World):bK->Prop
 |.obj b o=>w.heap[b]?=some o
 |.row v t size n cs=>w.ownsRow 0 t size v n cs
 |.gen b p=>p (b.bind λi=>w.heap[i]?)
structure pU (M:nL) (w0 w:World):Prop where
 os:w.os=w0.os
 tape:w.tape=w0.tape
 output:w.output=w0.output
 size:w0.heap.size<=w.heap.size
 block: ∀b,b<w0.heap.size-> ¬M b->w.heap[b]?=w0.heap[b]?
theorem pU.refl(M:nL)(w:World):pU M w w:=⟨rfl,rfl,rfl,B0 _,λ_ _ _=>rfl⟩
theorem pU.trans{M M':nL}{a b c:World}(h:pU M a b)(k:pU M' b c)(hm: ∀i,M' i->M i\/a.heap.size<=i):pU M a c:=
 ⟨k.os.trans h.os,k.tape.trans h.tape,k.output.trans h.output,B1 h.size k.size,λi hi hn=>(k.block i (l5 hi h.size) (λd=>by rcases hm i d with e|e;exact hn e;omega)).trans (h.block i hi hn)⟩
theorem pU.below{w0 w:World}(h:pU (λ_=>False) w0 w):Below w0.heap.size w0 w:=⟨h.os,h.tape,h.output,h.size,λk a=>h.block k a (λe=>e)⟩
theorem pU.of_below{w0 w:World}(M:nL)(h:Below w0.heap.size w0 w):pU M w0 w:=⟨h.os,h.tape,h.output,h.size,λk a _=>h.block k a⟩
structure fS where
 w:World
 M:nL
 S:nL
structure St (β:fS) (H:List bK) (S:nL) (w:World):Prop where
 kept:pU β.M β.w w
 ok: ∀c∈H,c.ok w
 own: ∀c∈H,∀b,c.blk=some b->b<w.heap.size/\(β.M b\/β.w.heap.size<=b)/\ ¬S b
 sep:H.Pairwise λc d=> ∀b,c.blk=some b->d.blk≠some b
 W: ∀b,S b->b<w.heap.size/\(β.S b\/β.M b\/β.w.heap.size<=b)
def At (β:fS)(n:Nat)(Γ:Env)(H:List bK)(F:List Fact)(K:Act->World->Prop):Prop:=
 ∀a w S,Fits n Γ a->St β H S w->All F S w->K a w
theorem bK.ok_of{w w':World}{c:bK}(h:c.ok w)(hs: ∀b,c.blk=some b->w'.heap[b]?=w.heap[b]?):c.ok w':=by
 cases c with
 |obj b o=>exact(hs b rfl).trans h
 |row v t size n cs=>
  refine⟨h.1,?_⟩
  rcases h.2 with h|⟨g,d,a,e,h1,h2,f⟩
  .exact .inl h
  .subst e;exact .inr ⟨g,d,a,rfl,h1,(hs g rfl).trans h2,f⟩
 |gen b p=>
  cases b with
  |none=>exact h
  |some i=>
   show p (w'.heap[i]?);rw[hs i rfl];exact h
theorem St.grow{β:fS}{H:List bK}{S:nL}{w w':World}{M':nL}(h:St β H S w)(k:pU M' w w')(hM: ∀b,M' b->(β.M b\/β.w.heap.size<=b))(hH: ∀c∈H,∀b,c.blk=some b-> ¬M' b):St β H S w' where
 kept:=h.kept.trans k hM
 ok:=λc d=>bK.ok_of (h.ok c d) λb a=>k.block b (h.own c d b a).1 (hH c d b a)
 own:=λc d b a=>⟨l5 (h.own c d b a).1 k.size,(h.own c d b a).2⟩
 sep:=h.sep
 W:=λb a=>⟨l5 (h.W b a).1 k.size,(h.W b a).2⟩
section
variable {P : Program} {β : fS} {n : Nat} {Γ : Env} {H : List bK} {F : List Fact} {Q : Exit -> Act -> World -> Prop} {K : Act -> World -> Prop}
theorem At.mono{K':Act->World->Prop}(h:At β n Γ H F K)(hk: ∀a w,K a w->K' a w):At β n Γ H F K':=λa w S f s k=>hk a w (h a w S f s k)
theorem bP{x y:Code}(h:At β n Γ H F (x.wp P (Exit.then (y.wp P Q) Q))):At β n Γ H F ((Code.seq x y).wp P Q):=λa w S f s k=>wp_seq (h a w S f s k)
theorem iJ{id:Nat}{c:Code}(h:At β n Γ H F (c.wp P (Exit.inBlock id Q))):At β n Γ H F ((Code.block id c).wp P Q):=λa w S f s k=>wp_block (h a w S f s k)
theorem fH(h:At β n Γ H F (Q .normal)):At β n Γ H F (Code.skip.wp P Q):=λa w S f s k=>wp_skip (h a w S f s k)
theorem tI{id:Nat}(h:At β n Γ H F (Q (.exit id))):At β n Γ H F ((Code.exit id).wp P Q):=λa w S f s k=>wp_exit (h a w S f s k)
theorem cW(h:At β n Γ H F (Q .ret)):At β n Γ H F (Code.ret.wp P Q):=λa w S f s k=>wp_ret (h a w S f s k)
theorem dH{id:Nat}{l:List Oper}(h:At β n Γ H F (wpList P l.toArray Q l)):At β n Γ H F ((D8 id l.toArray false).wp P Q):=λa w S f s k=>wp_region_lit (h a w S f s k)
theorem sZ{ops:Array Oper}(h:At β n Γ H F (Q .normal)):At β n Γ H F (wpList P ops Q []):=h
theorem dB(h:At β n Γ H F K):At β n Γ H F (Exit.then K Q .normal):=h
theorem nK{i:Nat}(h:At β n Γ H F (Q (.exit i))):At β n Γ H F (Exit.then K Q (.exit i)):=h
theorem cJ(h:At β n Γ H F (Q .ret)):At β n Γ H F (Exit.then K Q .ret):=h
theorem mE{i:Nat}(h:At β n Γ H F (Q .normal)):At β n Γ H F (Exit.inBlock i Q .normal):=h
theorem iK{i:Nat}(h:At β n Γ H F (Q .ret)):At β n Γ H F (Exit.inBlock i Q .ret):=h
theorem tO{i:Nat}(h:At β n Γ H F (Q .normal)):At β n Γ H F (Exit.inBlock i Q (.exit i)):=λa w S f s k=>by simp only[Exit.inBlock,if_true];exact h a w S f s k
theorem x_pass{i j:Nat}(hne:k9 j i=false)(h:At β n Γ H F (Q (.exit j))):At β n Γ H F (Exit.inBlock i Q (.exit j)):=λa w S f s k=>by
 have:j≠i:=λe=>by rw[e,Nat.beq_refl]at hne;cases hne
 simp only[Exit.inBlock,if_neg this];exact h a w S f s k
theorem bX{c:Operand}{x y:Code}{t:Bool}(hc:Γ.ev c=some (.bool t))(ht:t=true->At β n Γ H F (x.wp P Q))(hf:t=false->At β n Γ H F (y.wp P Q)):At β n Γ H F ((D9 c x y).wp P Q):=
 λa w S f s k=>wp_cond_split (f.ev hc) (λe=>ht e a w S f s k) (λe=>hf e a w S f s k)
theorem cC{c:Operand}{x y:Code}{t:Bool}(hc:Γ.ev c=some (.bool t))(ht:t=true)(h:At β n Γ H F (x.wp P Q)):At β n Γ H F ((D9 c x y).wp P Q):=
 bX hc (λ_=>h) (λe=>by rw[ht]at e;cases e)
theorem jT{c:Operand}{x y:Code}{t:Bool}(hc:Γ.ev c=some (.bool t))(ht:t=false)(h:At β n Γ H F (y.wp P Q)):At β n Γ H F ((D9 c x y).wp P Q):=
 bX hc (λe=>by rw[ht]at e;cases e) (λ_=>h)
theorem bF{c:Prop}(hc:Has F (Fact.pure c))(h:c->At β n Γ H F K):At β n Γ H F K:=λa w S f s k=>h (hc S w k) a w S f s k
theorem bB(g:Fact)(hg:Has F g)(h:At β n Γ H (g::F) K):At β n Γ H F K:=λa w S f s k=>h a w S f s (All.cons (hg S w k) k)
theorem at_drop{G:List Fact}(hG:bA F G)(h:At β n Γ H G K):At β n Γ H F K:=λa w S f s k=>h a w S f s (hG.all S w k)
inductive cT:List bK->bK->List bK->Prop
 |head {c:bK} {H:List bK}:cT (c::H) c H
 |tail {c d:bK} {H H':List bK} (h:cT H c H'):cT (d::H) c (d::H')
theorem cT.perm{H H':List bK}{c:bK}(h:cT H c H'):H.Perm (c::H'):=by
 induction h with
 |head=>exact List.Perm.refl _
 |tail _ ih=>exact(ih.cons _).trans (List.Perm.swap _ _ _)
inductive Sel:List bK->List bK->Prop
 |nil {H:List bK}:Sel H []
 |cons {H H' R:List bK} {c:bK} (h:cT H c H') (k:Sel H' R):Sel H (c::R)
theorem St.perm{H H':List bK}{S:nL}{w:World}(h:St β H S w)(p:H.Perm H'):St β H' S w where
 kept:=h.kept
 ok:=λc a=>h.ok c (p.mem_iff.2 a)
 own:=λc a=>h.own c (p.mem_iff.2 a)
 sep:=h.sep.perm p (λd b e a=>d b a e)
 W:=h.W
theorem St.tail{H:List bK}{c:bK}{S:nL}{w:World}(h:St β (c::H) S w):St β H S w where
 kept:=h.kept
 ok:=λd a=>h.ok d (E4 _ a)
 own:=λd a=>h.own d (E4 _ a)
 sep:=(E5.1 h.sep).2
 W:=h.W
theorem Sel.sub{H R:List bK}(h:Sel H R): ∃H',H.Perm (R++H'):=by
 induction h with
 |nil=>exact⟨_,List.Perm.refl _⟩
 |cons h _ ih=>
  obtain⟨H',p⟩:=ih;exact⟨H',h.perm.trans (p.cons _)⟩
theorem St.sel{H R:List bK}{S:nL}{w:World}(h:St β H S w)(hs:Sel H R):St β R S w:=by obtain⟨b,p⟩:=hs.sub;have h:=h.perm p;exact⟨h.kept,λc a=>h.ok c (E6 _ a),λc a=>h.own c (E6 _ a),(E7.1 h.sep).1,h.W⟩
theorem at_sel{R:List bK}(hs:Sel H R)(h:At β n Γ R F K):At β n Γ H F K:=λa w S f s k=>h a w S f (s.sel hs) k
def Back {ι:Type}(β:fS)(n:Nat)(G:ι->Env)(HH:ι->List bK)(FF:ι->List Fact)(μ:ι->Nat)(m:Nat)(a:Act)(w:World):Prop:=
 ∃x S,μ x<m/\Fits n (G x) a/\St β (HH x) S w/\All (FF x) S w
theorem sN{ι:Type}{c:Code}(G:ι->Env)(HH:ι->List bK)(FF:ι->List Fact)(μ:ι->Nat)(x0:ι)(hG:Γ.Sub (G x0))(hH:Sel H (HH x0))(hF:bA F (FF x0))
  (round: ∀x,At β n (G x) (HH x) (FF x) (c.wp P (Exit.then (Back β n G HH FF μ (μ x)) Q))):At β n Γ H F ((E0 c).wp P Q):=by
 have key: ∀m x,μ x<=m-> ∀a w S,Fits n (G x) a->St β (HH x) S w->All (FF x) S w->E1 P c Q (m+1) a w:=by
  intro m
  induction m with
  |zero=>
   intro x hx a w S f s k;rw[rounds_succ];refine Code.wp_mono (λe h g q=>?_) (round x a w S f s k)
   cases e with
   |normal=>obtain⟨d,i,b,_⟩:=q;omega
   |_=>exact q
  |succ m ih=>
   intro x hx a w S f s k;rw[rounds_succ];refine Code.wp_mono (λe h g q=>?_) (round x a w S f s k)
   cases e with
   |normal=>obtain⟨d,i,b,o,j,l⟩:=q;exact ih d l7 h g i o j l
   |_=>exact q
 intro a w S f s k;exact wp_loop_rounds (μ x0+1) (key (μ x0) x0 (B0 _) a w S (f.sub hG) (s.sel hH) (hF.all S w k))
theorem jZ{ι:Type}{G:ι->Env}{HH:ι->List bK}{FF:ι->List Fact}{μ:ι->Nat}{m:Nat}(x:ι)(hμ:μ x<m)(hG:Γ.Sub (G x))(hH:Sel H (HH x))(hF:bA F (FF x)):
  At β n Γ H F (Back β n G HH FF μ m):=λ_ w S f s k=>⟨x,S,hμ,f.sub hG,s.sel hH,hF.all S w k⟩
def want (ops:Array Oper)(Γ:Env)(o:Oper):Option Bool:=
 match o.guard with
 |none=>some true
 |some (j,b)=>match (ops[j]?).bind (·.dst)with
  |some d=>match Γ.get d with
   |some (.bool c)=>some (c==b)
   |some (.tuple _)=>some false
   |_=>none
  |none=>none
theorem Fits.want{ops:Array Oper}{o:Oper}{t:Bool}{a:Act}(h:Fits n Γ a)(hw:want ops Γ o=some t):G0 o (yielded ops a.tmps)=t:=by
 unfold Proofs.YtioekpienlhcgaaGreatDoor.want at hw;unfold G0;split at hw
 .rename_i hg;simp at hw;simp[hg,hw]
 .rename_i j b hg;rw[hg];simp only;split at hw
  .rename_i d f;split at hw
   .rename_i c e;have:=h.get d _ e;simp at hw;simp[yielded,f,this,<-hw]
   .rename_i c e;have:=h.get d _ e;simp at hw;simp[yielded,f,this,<-hw]
   .cases hw
  .cases hw
def StF (β:fS)(H:List bK)(F:List Fact)(w:World):Prop:= ∃S,St β H S w/\All F S w
def Det (P:Program)(β:fS)(n:Nat)(Γ:Env)(H:List bK)(F:List Fact)(o:Oper)(v:Value):Prop:=
 ∀a,Fits n Γ a-> ∀w,StF β H F w->o.quietAt P a (StF β H F) w v
theorem det_of{o:Oper}{v:Value}(h: ∀a w S,Fits n Γ a->St β H S w->All F S w->(execOp a.eval o).run P w= .ok (.value v) w):Det P β n Γ H F o v:=λa f w ⟨S,s,k⟩=>by unfold Oper.quietAt;rw[h a w S f s k];exact⟨rfl,rfl⟩
theorem at_det{ops:Array Oper}{rest:List Oper}{o:Oper}{d:Nat}{v:Value}(hw:want ops Γ o=some true)(hd:o.dst=some d)(hn:B2 d n=true)(h:Det P β n Γ H F o v)
  (k:At β n ((d,v)::Γ) H F (wpList P ops Q rest)):At β n Γ H F (wpList P ops Q (o::rest)):=by intro a w S f s j;unfold wpList;rw[f.want hw,if_pos rfl];refine .inl (Oper.wp_of_quiet (C:=StF β H F) (K:=λe=>e=a.put o.dst v) ⟨S,s,j⟩ ?_ ⟨v,λc b=>h a f c b,rfl⟩);rintro e c ⟨l,g,i⟩ rfl;rw[hd];exact k _ _ l (f.put w6 v) g i
theorem bSo{ops:Array Oper}{rest:List Oper}{o:Oper}{d:Nat}(hw:want ops Γ o=some false)(hd:o.dst=some d)(hn:B2 d n=true)
  (k:At β n ((d,undef)::Γ) H F (wpList P ops Q rest)):At β n Γ H F (wpList P ops Q (o::rest)):=by intro a w S f s b;unfold wpList;rw[f.want hw,if_neg m9,hd];exact k _ _ S (f.put w6 undef) s b
theorem StF.drew{w:World}(h:StF β H F w):StF β H F {w with drawn:=w.drawn+1}:=by obtain⟨S,s,k⟩:=h;exact⟨S,⟨⟨s.kept.os,s.kept.tape,s.kept.output,s.kept.size,s.kept.block⟩,λc a=>bK.ok_of (s.ok c a) (λ_ _=>rfl),s.own,s.sep,s.W⟩,All.mono (w:=w) (S:=S) (λ_ h=>h) (λ_ _=>rfl) k⟩
theorem bC{d:Nat}{t t':Bool}(ht:t=t')(k:At β n ((d,.bool t')::Γ) H F K):At β n ((d,.bool t)::Γ) H F K:=by rw[ht];exact k
end
inductive TD where
 |int (k:IntKind)
 |slice (e:Nat)
 |string
 |bool
 |array (n e:Nat)
 |struct (fs:List (Nat×Nat))
 |map (k e:Nat)
 |other
def TD.of:TypeDesc->TD
 |.int k=> .int k
 |.slice e=> .slice e
 |.string=> .string
 |.bool=> .bool
 |.array n e=> .array n e
 |.struct fs=> .struct (fs.toList.map λf=>(f.type,f.offset))
 |.map k e=> .map k e
 |_=> .other
structure TI where
 desc:TD
 size:Nat
abbrev Tab:=List (Nat×TI)
def Tab.get:Tab->Nat->Option TI
 |[],_=>none
 |(i,v)::r,j=>cond (k9 i j) (some v) (Tab.get r j)
def gA (P:Program)(T:Tab):Prop:= ∀t i,T.get t=some i->(P.underlying t).map TD.of=some i.desc/\(P.info? t).map (·.size)=some i.size
def zB (P:Program):Tab->Prop
 |[]=>True
 |(t,i)::r=>((P.underlying t).map TD.of=some i.desc/\(P.info? t).map (·.size)=some i.size)/\zB P r
theorem zB.ok{P:Program}: ∀{T:Tab},zB P T->gA P T
 |[],_,t,i,h=>by simp[Tab.get]at h
 |(j,u)::r,hs,t,i,h=>by
  unfold Tab.get at h
  cases a:k9 j t with
  |true=>
   have:=A0 a;subst this;simp at h;subst h;exact hs.1
  |false=>
   simp[a]at h;exact zB.ok hs.2 t i h
def aggD:TD->Bool
 |.struct _=>true
 |.array _ _=>true
 |_=>false
section
variable {P : Program} {T : Tab} (hT : gA P T) {t : Nat}
include hT
theorem gA.any{i:TI}(h:T.get t=some i): ∃d,P.underlying t=some d/\TD.of d=i.desc:=by
 have:=(hT t i h).1
 cases hu:P.underlying t with
 |none=>simp[hu]at this
 |some d=>simp[hu]at this;exact⟨d,rfl,this⟩
theorem gA.size{i:TI}(h:T.get t=some i)(w:World):(sizeOf t).run P w= .ok i.size w:=by
 have:=(hT t i h).2
 cases hi:P.info? t with
 |none=>simp[hi]at this
 |some x=>simp[hi]at this;simp[sizeOf,typeInfo,hi,this]
theorem gA.agg{i:TI}(h:T.get t=some i)(w:World):(isAgg t).run P w= .ok (aggD i.desc) w:=by obtain⟨d,hu,a⟩:=hT.any h;unfold isAgg;rw[G9,run_underlying hu,<-a];cases d<;>simp[aggD,TD.of]
theorem gA.slice{e s:Nat}(h:T.get t=some ⟨.slice e,s⟩)(w:World):(underlying t).run P w= .ok (.slice e) w:=by
 obtain⟨d,hu,a⟩:=hT.any h;cases d<;>simp[TD.of]at a
 subst a;exact run_underlying hu w
theorem gA.int{k:IntKind}{s:Nat}(h:T.get t=some ⟨.int k,s⟩)(w:World):(underlying t).run P w= .ok (.int k) w:=by
 obtain⟨d,hu,a⟩:=hT.any h;cases d<;>simp[TD.of]at a
 subst a;exact run_underlying hu w
theorem gA.string{s:Nat}(h:T.get t=some ⟨.string,s⟩)(w:World):(underlying t).run P w= .ok .string w:=by
 obtain⟨d,hu,a⟩:=hT.any h;cases d<;>simp[TD.of]at a
 exact run_underlying hu w
theorem gA.array{n e s:Nat}(h:T.get t=some ⟨.array n e,s⟩)(w:World):(underlying t).run P w= .ok (.array n e) w:=by
 obtain⟨d,hu,a⟩:=hT.any h;cases d<;>simp[TD.of]at a
 obtain⟨rfl,rfl⟩:=a;exact run_underlying hu w
theorem gA.struct{fs:List (Nat×Nat)}{s:Nat}(h:T.get t=some ⟨.struct fs,s⟩): ∃gs:Array Field,(∀w,(underlying t).run P w= .ok (.struct gs) w)/\gs.toList.map (λf=>(f.type,f.offset))=fs:=by
 obtain⟨d,hu,a⟩:=hT.any h;cases d<;>simp[TD.of]at a
 rename_i gs;exact⟨gs,λw=>run_underlying hu w,by simpa using a⟩
end
theorem field_at{gs:Array Field}{fs:List (Nat×Nat)}(h:gs.toList.map (λf=>(f.type,f.offset))=fs){i ty off:Nat}(hf:fs[i]?=some (ty,off)): ∃g,gs[i]?=some g/\g.type=ty/\g.offset=off:=by
 subst h;rw[List.getElem?_map]at hf
 cases hg:gs.toList[i]? with
 |none=>simp[hg]at hf
 |some g=>
  simp[hg]at hf;exact⟨g,by simpa using hg,hf.1,hf.2⟩
def bKl:IntKind->IntKind->Bool
 |.i8,.i8|.i16,.i16|.i32,.i32|.i64,.i64|.u8,.u8|.u16,.u16|.u32,.u32|.u64,.u64=>true
 |_,_=>false
theorem sameKind_eq{k k':IntKind}(h:bKl k k'=true):k=k':=by cases k<;>cases k'<;>simp[bKl]at h<;>rfl
def arith:BinOp->IntKind->Int->Int->Option Value
 |.add,k,a,b=>some (.int k (k.wrap (a+b)))
 |.sub,k,a,b=>some (.int k (k.wrap (a-b)))
 |.mul,k,a,b=>some (.int k (k.wrap (a*b)))
 |.or,k,a,b=>some (.int k (k.wrap ((BitVec.ofInt k.bits a ||| BitVec.ofInt k.bits b).toNat:Nat)))
 |.and,k,a,b=>some (.int k (k.wrap ((BitVec.ofInt k.bits a&&&BitVec.ofInt k.bits b).toNat:Nat)))
 |.eql,_,a,b=>some (.bool (a==b))
 |.neq,_,a,b=>some (.bool (a !=b))
 |.lss,_,a,b=>some (.bool (decide (a<b)))
 |.leq,_,a,b=>some (.bool (decide (a<=b)))
 |.gtr,_,a,b=>some (.bool (decide (b<a)))
 |.geq,_,a,b=>some (.bool (decide (b<=a)))
 |_,_,_,_=>none
def strBin:BinOp->ByteArray->ByteArray->Option Value
 |.eql,a,b=>some (.bool (a.data.toList==b.data.toList))
 |.neq,a,b=>some (.bool (!(a.data.toList==b.data.toList)))
 |_,_,_=>none
def pureBin(op:BinOp):Value->Value->Option Value
 |.int k a,.int k' b=>cond (bKl k k') (arith op k a b) none
 |.string a,.string b=>strBin op a b
 |_,_=>none
theorem pureBin_run{P:Program}{op:BinOp}{xt:TypeId}{x y:Operand}{a b v:Value}(h:pureBin op a b=some v)(w:World):
  ((do eqGuard op xt x y a b;binOp op xt a b:Sem Value)).run P w= .ok v w:=by
 unfold pureBin at h;split at h
 .rename_i k a d b
  cases c:bKl k d with
  |false=>simp[c]at h
  |true=>
   have:=sameKind_eq c;subst this;simp[c]at h;cases op<;>simp[arith]at h<;>subst h<;>simp[eqGuard,binOp,Op.intArith,Op.intCmp,Op.intBits]<;>rfl
 .rename_i a b;cases op<;>simp[strBin]at h<;>subst h<;>simp[eqGuard,binOp,Op.stringOp,ByteArray.toList_eq]
 .cases h
def addOff(o:Nat):Nat->Nat
 |0=>o
 |k+1=>o+(k+1)
theorem addr_add(b o k:Nat):(⟨b,o,none⟩:Addr).add k=⟨b,addOff o k,none⟩:=by cases k<;>simp[H4,addOff]
def cut:List Value->Nat->Nat->Option (List Value)
 |_,0,0=>some []
 |c::r,0,n+1=>match cut r 0 n with
  |some l=>some (c::l)
  |none=>none
 |[],0,_+1=>none
 |_::r,o+1,n=>cut r o n
 |[],_+1,_=>none
theorem bDj: ∀{cs:List Value} {o n:Nat} {l:List Value},cut cs o n=some l->l=(cs.drop o).take n/\l.length=n/\ ∀j u,l[j]?=some u->cs[o+j]?=some u
 |cs,0,0,l,h=>by simp[cut]at h;subst h;simp
 |c::r,0,n+1,l,h=>by
  unfold cut at h
  cases b:cut r 0 n with
  |none=>simp[b]at h
  |some l'=>
   simp[b]at h;subst h;obtain⟨h1,h2,d⟩:=bDj b;refine⟨by simp[h1],by simp[h2],λj u a=>?_⟩
   cases j with
   |zero=>simpa using a
   |succ j=>have:=d j u (by simpa using a);simpa using this
 |[],0,_+1,l,h=>by simp[cut]at h
 |c::r,o+1,n,l,h=>by
  unfold cut at h;obtain⟨h1,h2,d⟩:=bDj h;refine⟨by simp[h1],h2,λj u a=>?_⟩;have:=d j u a;rw[show o+1+j=(o+j)+1 from by omega]
  simpa using this
 |[],_+1,_,l,h=>by simp[cut]at h
def vY:List Value->Nat->List Value->Option (List Value)
 |cs,0,[]=>some cs
 |_::r,0,v::vs=>match vY r 0 vs with
  |some l=>some (v::l)
  |none=>none
 |[],0,_::_=>none
 |c::r,o+1,vs=>match vY r o vs with
  |some l=>some (c::l)
  |none=>none
 |[],_+1,_=>none
theorem wB: ∀{cs:List Value} {o:Nat} {vs l:List Value},vY cs o vs=some l->o+vs.length<=cs.length/\l=cs.take o++vs++cs.drop (o+vs.length)
 |cs,0,[],l,h=>by simp[vY]at h;subst h;simp
 |c::r,0,v::vs,l,h=>by
  unfold vY at h
  cases a:vY r 0 vs with
  |none=>simp[a]at h
  |some l'=>
   simp[a]at h;subst h;obtain⟨h1,h2⟩:=wB a;simp at h1 h2;refine⟨by simp;omega,by simp[h2]⟩
 |[],0,_::_,l,h=>by simp[vY]at h
 |c::r,o+1,vs,l,h=>by
  unfold vY at h
  cases a:vY r o vs with
  |none=>simp[a]at h
  |some l'=>
   simp[a]at h;subst h;obtain⟨h1,h2⟩:=wB a;refine⟨by simp;omega,?_⟩;rw[show o+1+vs.length=(o+vs.length)+1 from by omega];simp[h2]
 |[],_+1,_,l,h=>by simp[vY]at h
def binV (T:Tab)(op:BinOp)(t:Nat):Value->Value->Option Value
 |.bool a,.bool b=>match T.get t,op with
  |some ⟨.bool,_⟩,.eql=>some (.bool (a==b))
  |some ⟨.bool,_⟩,.neq=>some (.bool (a !=b))
  |_,_=>none
 |u,v=>pureBin op u v
def rG (T:Tab)(Γ:Env):Op->Option Value
 |.move x=>Γ.ev x
 |.assign x=>Γ.ev x
 |.pick c a b=>match Γ.ev c with
  |some (.bool true)=>Γ.ev a
  |some (.bool false)=>Γ.ev b
  |_=>none
 |.binOp op xt x y _=>match Γ.ev x with
  |some u=>match Γ.ev y with
   |some v=>binV T op xt u v
   |none=>none
  |none=>none
 |.unOp op _ x=>match op,Γ.ev x with
  |.not,some (.bool b)=>some (.bool (!b))
  |.neg,some (.int k a)=>some (.int k (k.wrap (0-a)))
  |_,_=>none
 |.convert s d x=>match T.get s,T.get d,Γ.ev x with
  |some _,some ⟨.int k,_⟩,some (.int _ a)=>some (.int k (k.wrap a))
  |_,_,_=>none
 |.extract x i=>match Γ.ev x with
  |some (.tuple vs)=>vs.toList[i]?
  |_=>none
 |.fieldAddr s x f=>match T.get s,Γ.ev x with
  |some ⟨.struct fs,_⟩,some (.pointer (some ⟨b,o,none⟩))=>match fs[f]? with
   |some (ft,fo)=>match T.get ft with
    |some ⟨_,_+1⟩=>some (.pointer (some ⟨b,addOff o fo,none⟩))
    |_=>none
   |none=>none
  |_,_=>none
 |.field s x f=>match T.get s,Γ.ev x with
  |some ⟨.struct fs,_⟩,some (.agg cs)=>match fs[f]? with
   |some (ft,fo)=>match T.get ft with
    |some i=>cond (aggD i.desc) (match cut cs.toList fo i.size with
     |some l=>some (.agg l.toArray)
     |none=>none) cs.toList[fo]?
    |none=>none
   |none=>none
  |_,_=>none
 |.nilCheck x=>match Γ.ev x with
  |some (.pointer (some a))=>some (.pointer (some a))
  |_=>none
 |.makeFunc fn first cap=>match Γ.evs first.toList with
  |some a=>match Γ.evs cap.toList with
   |some b=>some (.func fn a.toArray b.toArray)
   |none=>none
  |none=>none
 |.call ⟨.builtin .len,args,ts⟩=>match args.toList,ts.toList with
  |[x],[t]=>match T.get t,Γ.ev x with
   |some ⟨.slice _,_⟩,some (.slice _ k _)=>some (.int .i64 k)
   |some ⟨.string,_⟩,some (.string s)=>some (.int .i64 s.size)
   |some ⟨.array k _,_⟩,some _=>some (.int .i64 k)
   |_,_=>none
  |_,_=>none
 |.call ⟨.builtin .max,args,_⟩=>match args.toList with
  |[x,y]=>match Γ.ev x,Γ.ev y with
   |some (.int k a),some (.int _ b)=>some (.int k (if b>a then b else a))
   |_,_=>none
  |_=>none
 |.call ⟨.builtin .min,args,_⟩=>match args.toList with
  |[x,y]=>match Γ.ev x,Γ.ev y with
   |some (.int k a),some (.int _ b)=>some (.int k (if b<a then b else a))
   |_,_=>none
  |_=>none
 |_=>none
section
variable {P : Program} {β : fS} {n : Nat} {Γ : Env} {H : List bK} {F : List Fact} {Q : Exit -> Act -> World -> Prop} {K : Act -> World -> Prop} {T : Tab}
theorem run_part_agg(hT:gA P T){t:Nat}{i:TI}(ht:T.get t=some i)(ha:aggD i.desc=true)(cs:Array Value)(off:Nat){l:List Value}(h:cut cs.toList off i.size=some l)(w:World):(part t cs off).run P w= .ok (.agg l.toArray) w:=by
 unfold part;rw[G9,hT.agg ht,H6,ha];simp only[if_true,G9,hT.size ht,H6,H3];obtain⟨h1,_,_⟩:=bDj h;rw[h1]
 congr 2
 apply D4;simp[Array.toList_extract,List.extract_eq_take_drop]
theorem run_part_one(hT:gA P T){t:Nat}{i:TI}(ht:T.get t=some i)(ha:aggD i.desc=false)(cs:Array Value)(off:Nat){v:Value}(h:cs.toList[off]?=some v)(w:World):(part t cs off).run P w= .ok v w:=by
 unfold part;rw[G9,hT.agg ht,H6,ha];have:cs[off]?=some v:=by simpa using h
 simp[this]
theorem binV_run(hT:gA P T){op:BinOp}{xt:TypeId}{x y:Operand}{a b v:Value}(h:binV T op xt a b=some v)(w:World):
  ((do eqGuard op xt x y a b;binOp op xt a b:Sem Value)).run P w= .ok v w:=by
 unfold binV at h;split at h
 .rename_i a b;split at h
  .rename_i f ht;simp at h;subst h;obtain⟨d,hu,c⟩:=hT.any ht;cases d<;>simp[TD.of]at c
   have he: ∀d,(H7 (d+1) xt (.bool a) (.bool b)).run P w= .ok (a==b) w:=λd=>by simp[H7,run_underlying hu]
   have e:(binOp .eql xt (.bool a) (.bool b)).run P w= .ok (.bool (a==b)) w:=by simp only[binOp];rw[G9,show Op.equal xt (.bool a) (.bool b)=H7 10000 xt (.bool a) (.bool b)from rfl,he 9999];rfl
   have hg:(eqGuard .eql xt x y (.bool a) (.bool b)).run P w= .ok () w:=rfl;rw[G9,hg,H6,e]
  .rename_i f ht;simp at h;subst h;obtain⟨d,hu,c⟩:=hT.any ht;cases d<;>simp[TD.of]at c
   have he: ∀d,(H7 (d+1) xt (.bool a) (.bool b)).run P w= .ok (a==b) w:=λd=>by simp[H7,run_underlying hu]
   have e:(binOp .neq xt (.bool a) (.bool b)).run P w= .ok (.bool (a !=b)) w:=by simp only[binOp];rw[G9,show Op.equal xt (.bool a) (.bool b)=H7 10000 xt (.bool a) (.bool b)from rfl,he 9999];rfl
   have hg:(eqGuard .neq xt x y (.bool a) (.bool b)).run P w= .ok () w:=rfl;rw[G9,hg,H6,e]
  .cases h
 .exact pureBin_run h w
theorem bFy(hT:gA P T){o:Oper}{v:Value}{a:Act}(f:Fits n Γ a)(h:rG T Γ o.op=some v)(w:World):(execOp a.eval o).run P w= .ok (.value v) w:=by
 unfold execOp;unfold rG at h;split at h
 .rename_i x ho;simp[ho,f.ev h]
 .rename_i x ho;simp[ho,f.ev h]
 .rename_i c x y ho;split at h
  .rename_i L;simp[ho,f.ev L,f.ev h,asBool]
  .rename_i L;simp[ho,f.ev L,f.ev h,asBool]
  .cases h
 .rename_i op Q x y yt ho;split at h
  .rename_i u hu;split at h
   .rename_i v' W;have:=binV_run hT (x:=x) (y:=y) h w;simp only[ho,f.ev hu,f.ev W];rw[G9,this];rfl
   .cases h
  .cases h
 .rename_i op Q x ho;split at h
  .rename_i b D;simp at h;subst h;simp[ho,f.ev D,Op.unary]
  .rename_i k b D;simp at h;subst h;simp[ho,f.ev D,Op.unary,Op.intArith]
  .cases h
 .rename_i s d x ho;split at h
  .rename_i is k C N b hs Y hx;simp at h;subst h;obtain⟨ds,K,_⟩:=hT.any hs;simp only[ho,f.ev hx,convert,G9,run_underlying K,hT.int Y,H6,Conv.intToInt,H3]
  .cases h
 .rename_i x i ho;split at h
  .rename_i R hx;have:R[i]?=some v:=by simpa using h
   simp[ho,f.ev hx,Instr.extract,this]
  .cases h
 .rename_i s x fi ho;split at h
  .rename_i fs C b V hs hx;obtain⟨Z,r,q⟩:=hT.struct hs;split at h
   .rename_i ft fo B;obtain⟨g,hg,rfl,rfl⟩:=field_at q B;split at h
    .rename_i de k z;simp at h;subst h;simp only[ho,f.ev hx,Instr.fieldAt,G9,r,H6,hg,H8,H3,fieldPlace,hT.size z,addr_add];rfl
    .cases h
   .cases h
  .cases h
 .rename_i s x fi ho;split at h
  .rename_i fs C O hs hx;obtain⟨Z,r,q⟩:=hT.struct hs;split at h
   .rename_i ft fo B;obtain⟨g,hg,rfl,rfl⟩:=field_at q B;split at h
    .rename_i U z
     cases m:aggD U.desc with
     |true=>
      simp only[m,cond_true]at h;split at h
      .rename_i l X;simp at h;subst h;have J:=run_part_agg hT z m O g.offset X w;simp only[ho,f.ev hx,Instr.field,G9,r,H6,hg,asAgg,H3,J]
      .cases h
     |false=>
      simp only[m,cond_false]at h;have J:=run_part_one hT z m O g.offset h w;simp only[ho,f.ev hx,Instr.field,G9,r,H6,hg,asAgg,H3,J]
    .cases h
   .cases h
  .cases h
 .rename_i x ho;split at h
  .rename_i ad hx;simp at h;subst h;simp[ho,f.ev hx]
  .cases h
 .rename_i fn first M ho
  split at h
  .rename_i a1 h1;split at h
   .rename_i b1 h2;simp at h;subst h;have e1:first.map a.eval=a1.toArray:=by apply D4;simpa using f.evs h1
    have e2:M.map a.eval=b1.toArray:=by apply D4;simpa using f.evs h2
    simp only[ho,e1,e2,Instr.makeFunc];rfl
   .cases h
  .cases h
 .rename_i j G ho;split at h
  .rename_i x t p I;have E:j= #[x]:=by apply D4;simpa using p
   have D:G= #[t]:=by apply D4;simpa using I
   subst E D;split at h
   .rename_i e C A k c ht hx;simp at h;subst h;simp[ho,resolve,invoke,builtin,I3,f.ev hx,hT.slice ht,goInt]
   .rename_i C s ht hx;simp at h;subst h;simp[ho,resolve,invoke,builtin,I3,f.ev hx,hT.string ht,goInt]
   .rename_i k e C u ht hx;simp at h;subst h;simp[ho,resolve,invoke,builtin,I3,hT.array ht,goInt]
   .cases h
  .cases h
 .rename_i j G ho;split at h
  .rename_i x y p;have E:j= #[x,y]:=by apply D4;simpa using p
   subst E;split at h
   .rename_i k a' N b hx hy;simp at h;subst h;simp[ho,resolve,invoke,builtin,Builtin.max_,Builtin.max2,f.ev hx,f.ev hy]
   .cases h
  .cases h
 .rename_i j G ho;split at h
  .rename_i x y p;have E:j= #[x,y]:=by apply D4;simpa using p
   subst E;split at h
   .rename_i k a' N b hx hy;simp at h;subst h;simp[ho,resolve,invoke,builtin,Builtin.min_,Builtin.min2,f.ev hx,f.ev hy]
   .cases h
  .cases h
 .cases h
end
section
variable {P : Program} {β : fS} {n : Nat} {Γ : Env} {H : List bK} {F : List Fact} {Q : Exit -> Act -> World -> Prop} {K : Act -> World -> Prop} {T : Tab}
theorem St.agree{S:nL}{w w':World}{M':nL}(s:St β H S w)(k:pU M' w w')(hS: ∀b,S b-> ¬M' b):Agree S w w':=λb a=>k.block b (s.W b a).1 (hS b a)
theorem bHc(w:World)(o:Obj):pU (λ_=>False) w (w.alloc o):=
 ⟨rfl,rfl,rfl,m9,λb a _=>Below.heap_alloc _ _ _ a⟩
theorem St.alloc{S:nL}{w:World}(s:St β H S w)(o:Obj):St β (.obj w.heap.size o::H) S (w.alloc o):=by
 have f:=s.grow (bHc w o) (λ_ h=>h.elim) (λ_ _ _ _ h=>h);refine⟨f.kept,λc e=>?_,λc e b a=>?_,E5.2 ⟨λd i b a g=>?_,f.sep⟩,f.W⟩
 .rcases E2.1 e with rfl|e
  .exact heap_alloc_new _ _
  .exact f.ok c e
 .rcases E2.1 e with rfl|e
  .injection a with a
   subst a;exact⟨m9,.inr s.kept.size,λh=>absurd (s.W _ h).1 (B5 _)⟩
  .exact f.own c e b a
 .injection a with a
  subst a;exact absurd (s.own d i _ g).1 (B5 _)
theorem All.alloc{S:nL}{w:World}(s:St β H S w)(k:All F S w)(o:Obj):All F S (w.alloc o):=All.mono (λ_ h=>h) (s.agree (bHc w o) (λ_ _ h=>h)) k
theorem lN{ops:Array Oper}{rest:List Oper}{o:Oper}(hw:want ops Γ o=some true)(h: ∀a w S,Fits n Γ a->St β H S w->All F S w->o.wp P a w (wpList P ops Q rest) Q):At β n Γ H F (wpList P ops Q (o::rest)):=λa w S f s k=>by unfold wpList;rw[f.want hw,if_pos rfl];exact .inl (h a w S f s k)
theorem fK{ops:Array Oper}{rest:List Oper}{o:Oper}{d:Nat}{t:TypeId}{x:Operand}{v:Value}{cs:List Value}(hw:want ops Γ o=some true)(ho:o.op= .box t x)(hd:o.dst=some d)(hn:B2 d n=true)
  (hx:Γ.ev x=some v) (hc:v.cells=cs.toArray) (k: ∀b,At β n ((d,.pointer (some ⟨b,0,none⟩))::Γ) (.obj b (.cells cs.toArray t)::H) F (wpList P ops Q rest)):At β n Γ H F (wpList P ops Q (o::rest)):=
 lN hw λa w S f s c=>by
  have hr:(execOp a.eval o).run P w= .ok (.value (.pointer (some ⟨w.heap.size,0,none⟩))) (w.alloc (.cells cs.toArray t)):=by unfold execOp;simp only[ho,f.ev hx,Instr.box,newVar,newRow,hc];rfl
  unfold I7;rw[hr,I8,hd];exact k _ _ _ S (f.put w6 _) (s.alloc _) (All.alloc s c _)
theorem j4{ops:Array Oper}{rest:List Oper}{o:Oper}{d:Nat}{t:TypeId}{x:Operand}{v:Value}{cs:List Value}(k: ∀b,At β n ((d,.pointer (some ⟨b,0,none⟩))::Γ) (.obj b (.cells cs.toArray t)::H) F (wpList P ops Q rest))(hw:want ops Γ o=some true:=by exact rfl)(ho:o.op= .box t x:=by exact rfl)(hd:o.dst=some d:=by exact rfl)(hn:Nat.blt d n=true:=by exact rfl)(hx:Γ.ev x=some v:=by exact rfl)(hc:v.cells=cs.toArray:=by exact rfl):At β n Γ H F (wpList P ops Q (o::rest)):=fK hw ho hd hn hx hc k
def nW (β:fS)(H:List bK)(F:List Fact)(b q:Nat)(cs:List Value):Prop:= ∀w S,St β H S w->All F S w-> ∀j u,cs[j]?=some u->w.cell? ⟨b,q+j,none⟩=some u
theorem cT.mem{H H':List bK}{c:bK}(h:cT H c H'):c∈H:=h.perm.mem_iff.2 (E8 ..)
theorem cK{b off:Nat}{cs:List Value}{t:TypeId}{fz:Nat×Nat}{H':List bK}(hH:cT H (.obj b (.cells cs.toArray t fz)) H'):nW β H F b off (cs.drop off):=λw S s _ j u a=>by
 have h:w.heap[b]?=some (.cells cs.toArray t fz):=s.ok _ hH.mem;unfold D0;rw[h]
 simpa using a
theorem gG{b:Nat}{cs:List Value}{t:TypeId}{fz:Nat×Nat}{H':List bK}(hH:cT H (.obj b (.cells cs.toArray t fz)) H'):nW β H F b 0 (cs.drop 0):=cK hH
theorem bRd{b:Nat}{cs:List Value}{t:TypeId}{fz:Nat×Nat}{H':List bK}(hH:cT H (.obj b (.cells cs.toArray t fz)) H'):nW β H F b 1 (cs.drop 1):=cK hH
theorem uB{b:Nat}{cs:List Value}{t:TypeId}{fz:Nat×Nat}{H':List bK}(hH:cT H (.obj b (.cells cs.toArray t fz)) H'):nW β H F b 2 (cs.drop 2):=cK hH
theorem bFb{b:Nat}{cs:List Value}{t:TypeId}{fz:Nat×Nat}{H':List bK}(hH:cT H (.obj b (.cells cs.toArray t fz)) H'):nW β H F b 3 (cs.drop 3):=cK hH
theorem bTc{b:Nat}{cs:List Value}{t:TypeId}{fz:Nat×Nat}{H':List bK}(hH:cT H (.obj b (.cells cs.toArray t fz)) H'):nW β H F b 4 (cs.drop 4):=cK hH
def Fact.cells(b o:Nat)(cs:List Value):Fact where
 p S w:=S b/\ ∀j u,cs[j]?=some u->w.cell? ⟨b,o+j,none⟩=some u
 mono:=λhs ha h=>⟨hs _ h.1,λj u hj=>by
  have:=h.2 j u hj;unfold D0 at*;rw[ha b h.1]
  exact this⟩
theorem knows_fact{b o:Nat}{cs:List Value}(h:Has F (Fact.cells b o cs)):nW β H F b o cs:=λw S _ k j u a=>(h S w k).2 j u a
theorem nW.drop{b q:Nat}{cs:List Value}(h:nW β H F b q cs)(j:Nat):nW β H F b (q+j) (cs.drop j):=λw S s k i u hi=>by
 have:=h w S s k (j+i) u (by simpa using hi)
 rwa[<-B8]at this
theorem bOc{w:World}{g:Nat}{cs:Array Value}:pU (λb=>b=g) w (w.setRow g cs):=by refine⟨rfl,rfl,rfl,by simp[D1],λb c a=>?_⟩;simp[D1,D5,Ne.symm a]
theorem setRow_at{w:World}{g:Nat}{cur cs:Array Value}{t:TypeId}{fz:Nat×Nat}(h:w.heap[g]?=some (.cells cur t fz)):(w.setRow g cs).heap[g]?=some (.cells cs t fz):=by simp[D1,D5,h]
theorem St.swap{c c':bK}{S:nL}{w w':World}{g:Nat}(s:St β (c::H) S w)(k:pU (λb=>b=g) w w')(hc:c.blk=some g)(hc':c'.blk=some g)(ok:c'.ok w'):St β (c'::H) S w':=by
 have hg:=s.own c (E8 ..) g hc;have h:=E5.1 s.sep;have i:St β H S w':=s.tail.grow k (λb a=>by subst a;exact hg.2.1) (λd f b a e=>by subst e;exact h.1 d f _ hc a);refine⟨i.kept,λd f=>?_,λd f b a=>?_,E5.2 ⟨λd f b a=>?_,i.sep⟩,i.W⟩
 .rcases E2.1 f with rfl|f
  .exact ok
  .exact i.ok d f
 .rcases E2.1 f with rfl|f
  .rw[hc']at a;injection a with a
   subst a;exact⟨l5 hg.1 k.size,hg.2⟩
  .exact i.own d f b a
 .rw[hc']at a;injection a with a
  subst a;exact h.1 d f _ hc
theorem at_store{ops:Array Oper}{rest:List Oper}{o:Oper}(hT:gA P T){t t' b off:Nat}{p x:Operand}{v:Value}{vs cs cs':List Value}{i:TI}{H':List bK}(hw:want ops Γ o=some true)(ho:o.op= .store t p x)(hd:o.dst=none)
  (hp:Γ.ev p=some (.pointer (some ⟨b,off,none⟩))) (hx:Γ.ev x=some v) (hH:cT H (.obj b (.cells cs.toArray t')) H') (ht:T.get t=some i) (hc:v.cells=vs.toArray) (hs:k9 vs.length i.size=true)
  (h1:vs.all (·.oneCell')=true) (hput:vY cs off vs=some cs') (k:At β n Γ (.obj b (.cells cs'.toArray t')::H') F (wpList P ops Q rest)):At β n Γ H F (wpList P ops Q (o::rest)):=
 lN hw λa w S f s q=>by
  have l:w.heap[b]?=some (.cells cs.toArray t' (0,0)):=s.ok _ hH.mem;obtain⟨m,e⟩:=wB hput;have d:=run_storeCells_at (P:=P) b off t' vs 0 cs.toArray w l (by simpa using m) (λu hu=>by simpa using (E9.1 h1) u hu);simp only[C0]at d;rw[<-e]at d;have g:v.cells.size=i.size:=by rw[hc];simpa using A0 hs
  have hr:(execOp a.eval o).run P w= .ok .skip (w.setRow b cs'.toArray):=by unfold execOp;simp only[ho,f.ev hp,f.ev hx,H9,H8,storeVar,G9,H3,H6,hT.size ht,g];simp[hc,d]
  unfold I7;rw[hr,I9,hd];have j:=s.perm hH.perm;exact k _ _ S (f.put_none _) (j.swap bOc rfl rfl (setRow_at l)) (All.mono (λ_ h=>h) (s.agree bOc (λc hc e=>by subst e;exact(j.own _ (E8 ..) _ rfl).2.2 hc)) q)
structure Enc (α:Type) where
 size:Nat
 rep:List Value->α->Fact
def Enc.flat{α:Type}(size:Nat)(cells:α->List Value):Enc α:=⟨size,λcs x=>Fact.pure (cs=cells x)⟩
def Fact.sl{α:Type}(E:Enc α)(v:Value)(xs:List α):Fact where
 p S w:= ∃A cap,v= .slice A xs.length cap/\ ∀k x,xs[k]?=some x-> ∃b o cs,A=some ⟨b,o,none⟩/\S b/\(∀j u,cs[j]?=some u->w.cell? ⟨b,o+k*E.size+j,none⟩=some u)/\(E.rep cs x).p S w
 mono:=λhs ha ⟨A,cap,e,h⟩=>⟨A,cap,e,λk x hk=>by
  obtain⟨b,o,cs,e1,e2,e3,e4⟩:=h k x hk;refine⟨b,o,cs,e1,hs _ e2,λj u hj=>?_,(E.rep cs x).mono hs ha e4⟩;have:=e3 j u hj;unfold D0 at*;rw[ha b e2]
  exact this⟩
theorem Has.slice{α:Type}{E:Enc α}{v:Value}{xs:List α}(h:Has F (Fact.sl E v xs)):Has F (Fact.pure (∃A cap,v= .slice A xs.length cap)):=λS w k=>by obtain⟨A,cap,e,_⟩:=h S w k;exact⟨A,cap,e⟩
theorem Has.I{α:Type}{E:Enc α}{A:Option Addr}{l c:Nat}{xs:List α}(h:Has F (Fact.sl E (.slice A l c) xs)){k:Nat}(hk:k<xs.length):Has F (Fact.pure (∃b o,A=some ⟨b,o,none⟩)):=λS w a=>by
 obtain⟨i,f,e,h⟩:=h S w a;obtain⟨b,o,g,d,_⟩:=h k _ (F1 hk);injection e with e
 exact⟨b,o,e.trans d⟩
theorem Has.elem{α:Type}{sz:Nat}{cells:α->List Value}{b o l c:Nat}{xs:List α}(h:Has F (Fact.sl (Enc.flat sz cells) (.slice (some ⟨b,o,none⟩) l c) xs)){k:Nat}{x:α}(hk:xs[k]?=some x):Has F (Fact.cells b (o+k*sz) (cells x)):=λS w d=>by
 obtain⟨q,m,e,h⟩:=h S w d;obtain⟨p,n,j,i,g,f,a⟩:=h k x hk;injection e with e
 rw[i]at e;injection e with e
 injection e with e e'
 subst e e';have a:j=cells x:=a;subst a;exact⟨g,f⟩
def bEy (H:List bK):nL:=λb=> ∃c∈H,c.blk=some b
def cY {ι:Type}(P:Program)(f:FuncId)(args:List Value)(Hin:List bK)(Pre:List Fact)(val:ι->Value)(Hout:ι->List bK)(post:ι->List Fact):Prop:=
 ∀S w,St ⟨w,bEy Hin,S⟩ Hin S w->All Pre S w->Calls P f args.toArray w λe w'=> ∃x S',e= .returned (val x)/\St ⟨w,bEy Hin,S⟩ (Hout x) S' w'/\All (post x) S' w'
inductive pR:List bK->List bK->List bK->Prop
 |nil {H:List bK}:pR H [] H
 |cons {H H' R H2:List bK} {c:bK} (h:cT H c H') (k:pR H' R H2):pR H (c::R) H2
theorem pR.perm{H R H2:List bK}(h:pR H R H2):H.Perm (R++H2):=by
 induction h with
 |nil=>exact List.Perm.refl _
 |cons h _ ih=>exact h.perm.trans (ih.cons _)
theorem St.enter{Hin H2:List bK}{S:nL}{w:World}(s:St β (Hin++H2) S w):St ⟨w,bEy Hin,S⟩ Hin S w where
 kept:=pU.refl _ _
 ok:=λc d=>s.ok c (E6 _ d)
 own:=λc d b a=>⟨(s.own c (E6 _ d) b a).1,.inl ⟨c,d,a⟩,(s.own c (E6 _ d) b a).2.2⟩
 sep:=(E7.1 s.sep).1
 W:=λb a=>⟨(s.W b a).1,.inl a⟩
theorem St.leave{Hin Hout H2:List bK}{S S':nL}{w w':World}(s:St β (Hin++H2) S w)(s':St ⟨w,bEy Hin,S⟩ Hout S' w'):St β (Hout++H2) (λb=>S b\/S' b) w':=by
 have sp:=E7.1 s.sep;have hin: ∀b,bEy Hin b->b<w.heap.size/\(β.M b\/β.w.heap.size<=b)/\ ¬S b:=λb ⟨c,a,e⟩=>s.own c (E6 _ a) b e
 have h2: ∀c∈H2,∀b,c.blk=some b->b<w.heap.size/\(β.M b\/β.w.heap.size<=b)/\ ¬S b/\ ¬bEy Hin b:=λc a b e=>by obtain⟨h1,h2,o⟩:=s.own c (F2 _ a) b e;exact⟨h1,h2,o,λ⟨d,m,g⟩=>sp.2.2 d m c a b g e⟩
 refine⟨s.kept.trans s'.kept (λi hi=>(hin i hi).2.1),λc a=>?_,λc a b e=>?_,E7.2 ⟨s'.sep,sp.2.1,λc a d m b e g=>?_⟩,λb e=>?_⟩
 .rcases E3.1 a with a|a
  .exact s'.ok c a
  .exact bK.ok_of (s.ok c (F2 _ a)) λb e=>s'.kept.block b (h2 c a b e).1 (h2 c a b e).2.2.2
 .rcases E3.1 a with a|a
  .obtain⟨j,f,l⟩:=s'.own c a b e;refine⟨j,?_,λh=>?_⟩
   .rcases f with f|f
    .exact(hin b f).2.1
    .exact .inr (B1 s.kept.size f)
   .rcases h with h|h
    .rcases f with f|f
     .exact(hin b f).2.2 h
     .exact absurd (s.W b h).1 (C3.2 f)
    .exact l h
  .obtain⟨j,f,l,n⟩:=h2 c a b e;refine⟨l5 j s'.kept.size,f,λh=>?_⟩
   rcases h with h|h
   .exact l h
   .rcases (s'.W b h).2 with k|k|k
    .exact l k
    .exact n k
    .exact absurd j (C3.2 k)
 .obtain⟨j,_,_,n⟩:=h2 d m b g
  rcases (s'.own c a b e).2.1 with f|f
  .exact n f
  .exact absurd j (C3.2 f)
 .rcases e with e|e
  .exact⟨l5 (s.W b e).1 s'.kept.size,(s.W b e).2⟩
  .refine⟨(s'.W b e).1,?_⟩
   rcases (s'.W b e).2 with h|h|h
   .exact(s.W b h).2
   .exact .inr (hin b h).2.1
   .exact .inr (.inr (B1 s.kept.size h))
theorem All.leave{Hin Hout H2:List bK}{S S':nL}{w w':World}(s:St β (Hin++H2) S w)(s':St ⟨w,bEy Hin,S⟩ Hout S' w')(k:All F S w):All F (λb=>S b\/S' b) w':=
 All.mono (λ_ h=> .inl h) (λb a=>s'.kept.block b (s.W b a).1 (λ⟨c,hc,h⟩=>(s.own c (E6 _ hc) b h).2.2 a)) k
theorem run_call{o:Oper}{f:FuncId}{ars:Array Operand}{ts:Array TypeId}{vs:List Value}{a:Act}(hcf: ∀(args:Array Value) (w:World),(callFunc f args).run P w= .ok (.enter f args) w)(ho:o.op= .call ⟨.value (.func f),ars,ts⟩)(fi:Fits n Γ a)
  (hv:Γ.evs ars.toList=some vs) (w:World):(execOp a.eval o).run P w= .ok (.enter f vs.toArray) w:=by
 have b:ars.map a.eval=vs.toArray:=by
  apply D4
  simpa using fi.evs hv
 unfold execOp;simp only[ho,resolve,Act.eval,Deferred.ofValue,G9,H3,H6,invoke];simp[b,hcf]
theorem at_call{ι:Type}{ops:Array Oper}{rest:List Oper}{o:Oper}{d:Nat}{f:FuncId}{ars:Array Operand}{ts:Array TypeId}{vs:List Value}{Hin H2:List bK}{Pre:List Fact}{val:ι->Value}{Hout:ι->List bK}{post:ι->List Fact}
  (hcf: ∀(args:Array Value) (w:World),(callFunc f args).run P w= .ok (.enter f args) w) (hs:cY P f vs Hin Pre val Hout post) (hw:want ops Γ o=some true) (ho:o.op= .call ⟨.value (.func f),ars,ts⟩) (hd:o.dst=some d) (hn:B2 d n=true)
  (hv:Γ.evs ars.toList=some vs) (hH:pR H Hin H2) (hF:bA F Pre) (k: ∀x,At β n ((d,val x)::Γ) (Hout x++H2) (post x++F) (wpList P ops Q rest)):At β n Γ H F (wpList P ops Q (o::rest)):=
 lN hw λa w S f s g=>by unfold I7;rw[run_call hcf ho f hv w,J0];have b:=s.perm hH.perm;refine(hs S w b.enter (hF.all S w g)).mono ?_;rintro e i ⟨x,l,rfl,c,j⟩;show wpList P ops Q rest (a.put o.dst (val x)) i;rw[hd];exact k x _ _ _ (f.put w6 _) (b.leave c) ((All.mono (λ_ h=> .inr h) (λ_ _=>rfl) j).append (All.leave b c g))
def args0:Nat->List Value->Env
 |_,[]=>[]
 |i,v::r=>(i,v)::args0 (i+1) r
theorem bZy: ∀(i:Nat) (l:List Value) (j:Nat) (v:Value),(args0 i l).get j=some v->i<=j/\l[j-i]?=some v
 |i,[],j,v,h=>by simp[args0,Env.get]at h
 |i,u::r,j,v,h=>by
  unfold args0 Env.get at h
  cases a:k9 i j with
  |true=>
   have:=A0 a;subst this;simp at h;simp[h]
  |false=>
   simp[a]at h;obtain⟨h1,h2⟩:=bZy (i+1) r j v h;refine⟨l7,?_⟩;rw[show j-i=(j-(i+1))+1 from by omega]
   simpa using h2
def bWq {ι:Type}(β:fS)(val:ι->Value)(Hout:ι->List bK)(post:ι->List Fact)(e:Ending)(w':World):Prop:= ∃x S',e= .returned (val x)/\St β (Hout x) S' w'/\All (post x) S' w'
theorem bV{ι:Type}{f:FuncId}{fn:Func}{c:Code}{args:List Value}{Hin:List bK}{Pre:List Fact}{val:ι->Value}{Hout:ι->List bK}{post:ι->List Fact}(hf:P.funcs[f]?=some fn)(hb:fn.body=some c)(hn:fn.ntmps=n)
  (hl:Nat.ble args.length n=true) (h: ∀β,β.M=bEy Hin->At β n (args0 0 args) Hin Pre (c.wp P (bodyPost P fn (bWq β val Hout post)))):cY P f args Hin Pre val Hout post:=λS w s k=>by
 refine calls_of_wp hf hb (h ⟨w,bEy Hin,S⟩ rfl _ w S ⟨rfl,?_,λi v hi=>?_⟩ s k)
 .have:=Nat.le_of_ble_eq_true hl;simp;omega
 .obtain⟨_,h2⟩:=bZy 0 args i v hi;simp only[Nat.sub_zero]at h2;have a:i<args.length:=(F3.1 h2).1;simp only[Array.getElem?_append];rw[if_pos (by simpa using a)]
  simpa using h2
theorem j5{ι:Type}{f:FuncId}{fn:Func}{c:Code}{args:List Value}{Hin:List bK}{Pre:List Fact}{val:ι->Value}{Hout:ι->List bK}{post:ι->List Fact}(hf:P.funcs[f]?=some fn)(hn:fn.ntmps=n)(h: ∀β,β.M=bEy Hin->At β n (args0 0 args) Hin Pre (c.wp P (bodyPost P fn (bWq β val Hout post))))(hb:fn.body=some c:=by exact rfl)(hl:Nat.ble args.length n=true:=by exact rfl):cY P f args Hin Pre val Hout post:=bV hf hb hn hl h
theorem bUz{ι:Type}{fn:Func}{val:ι->Value}{Hout:ι->List bK}{post:ι->List Fact}{t:Nat}{v:Value}(x:ι)(hr:fn.results= #[.tmp t])(hv:Γ.get t=some v)(he:v=val x)(hH:Sel H (Hout x))(hF:bA F (post x)):
  At β n Γ H F (bodyPost P fn (bWq β val Hout post) .ret):=λa w S f s k=>by refine⟨f.defers,v,?_,x,S,by rw[he],s.sel hH,hF.all S w k⟩;have:=f.get t v hv;simp[results,hr,D3,this]
theorem qQ{ι:Type}{fn:Func}{val:ι->Value}{Hout:ι->List bK}{post:ι->List Fact}{t1 t2:Nat}{v1 v2:Value}(x:ι)(hr:fn.results= #[.tmp t1,.tmp t2])(h1:Γ.get t1=some v1)(h2:Γ.get t2=some v2)(he: .tuple #[v1,v2]=val x)(hH:Sel H (Hout x))(hF:bA F (post x)):
  At β n Γ H F (bodyPost P fn (bWq β val Hout post) .ret):=λa w S f s k=>by refine⟨f.defers,.tuple #[v1,v2],?_,x,S,by rw[he],s.sel hH,hF.all S w k⟩;have b:=f.get t1 v1 h1;have g2:=f.get t2 v2 h2;simp[results,hr,D3,b,g2]
end
section
variable {P : Program} {β : fS} {n : Nat} {Γ : Env} {H : List bK} {F : List Fact} {Q : Exit -> Act -> World -> Prop} {K : Act -> World -> Prop} {T : Tab}
theorem bRg{v:Value}{t:TypeId}{sz m:Nat}{cs:List Value}{H':List bK}(hH:cT H (.row v t sz m cs) H')(h:cs.length=m*sz->(∃A cap,v= .slice A m cap/\(0<m-> ∃g,A=some ⟨g,0,none⟩))->At β n Γ H F K):At β n Γ H F K:=λa w S f s k=>by
 have ho:w.ownsRow 0 t sz v m cs:=s.ok _ hH.mem;refine h ho.1 ?_ a w S f s k
 rcases ho.2 with ⟨e,b⟩|⟨g,cap,c,e,_⟩
 .exact⟨none,0,by rw[e,b],λh=>by omega⟩
 .exact⟨_,cap,e,λ_=>⟨g,rfl⟩⟩
theorem nW.part{b q o:Nat}{cs ds:List Value}(h:nW β H F b q cs)(hd: ∀j u,ds[j]?=some u->cs[o+j]?=some u):nW β H F b (q+o) ds:=λw S s k j u a=>by
 have:=h w S s k (o+j) u (hd j u a)
 rwa[<-B8]at this
theorem at_nilrow{t:TypeId}{sz:Nat}(h:At β n Γ (.row (.slice none 0 0) t sz 0 []::H) F K):At β n Γ H F K:=λa w S f s k=>by
 refine h a w S f ⟨s.kept,λc e=>?_,λc e b g=>?_,E5.2 ⟨λd _ b g=>?_,s.sep⟩,s.W⟩ k
 .rcases E2.1 e with rfl|e
  .exact World.ownsRow_nil _ _ _ _
  .exact s.ok c e
 .rcases E2.1 e with rfl|e
  .simp[bK.blk,Value.ownBlock]at g
  .exact s.own c e b g
 .simp[bK.blk,Value.ownBlock]at g
theorem qC(g:Nat): ∀(vs:List Value) (o:Nat) (w:World),pU (λb=>b=g) w (w.setCells g o vs)
 |[],_,w=>pU.refl _ _
 |v::r,o,w=>by
  have h1:pU (λb=>b=g) w (w.setCell ⟨g,o,none⟩ v):=by refine⟨rfl,rfl,rfl,m9,λb c a=>?_⟩;simp[World.setCell,D5,Ne.symm a]
  exact h1.trans (qC g r (o+1) _) (λi hi=> .inl hi)
def bAr:List Value->Nat->List Value->List Value
 |xs,_,[]=>xs
 |xs,j,v::r=>bAr (xs.set j v) (j+1) r
theorem vV{base:Nat}{e:TypeId}{size g m cap:Nat}: ∀(vs:List Value) (j:Nat) (w:World) (xs:List Value),w.ownsRow base e size (.slice (some ⟨g,0,none⟩) m cap) m xs->
  (w.setCells g j vs).ownsRow base e size (.slice (some ⟨g,0,none⟩) m cap) m (bAr xs j vs)
 |[],_,_,_,h=>h
 |v::r,j,_,_,h=>vV r (j+1) _ _ (World.ownsRow.stored h j v).1
theorem at_store_row{ops:Array Oper}{rest:List Oper}{o:Oper}(hT:gA P T){t t' g off m cap sz:Nat}{p x:Operand}{v:Value}{vs cs cs':List Value}{i:TI}{H':List bK}(hw:want ops Γ o=some true)(ho:o.op= .store t p x)(hd:o.dst=none)
  (hp:Γ.ev p=some (.pointer (some ⟨g,off,none⟩))) (hx:Γ.ev x=some v) (hH:cT H (.row (.slice (some ⟨g,0,none⟩) m cap) t' sz m cs) H') (ht:T.get t=some i) (hc:v.cells=vs.toArray) (hs:k9 vs.length i.size=true)
  (h1:vs.all (·.oneCell')=true) (hoff:off+vs.length<=m*sz) (hput:bAr cs off vs=cs') (k:At β n Γ (.row (.slice (some ⟨g,0,none⟩) m cap) t' sz m cs'::H') F (wpList P ops Q rest)):At β n Γ H F (wpList P ops Q (o::rest)):=
 lN hw λa w S f s z=>by
  have b:w.ownsRow 0 t' sz (.slice (some ⟨g,0,none⟩) m cap) m cs:=s.ok _ hH.mem
  have d:w.there g off vs.length:=λj q=>by refine⟨?_,World.ownsRow.frozenAt b _⟩;rw[World.ownsRow.cellAt b _ l7,F1 (by rw[b.1];omega)];rfl
  have l:=run_storeCells_cells (P:=P) g off vs 0 w (λj q=>by simpa using (d j q).1) (λj q=>by simpa using (d j q).2) (λu hu=>by simpa using (E9.1 h1) u hu);rw[C0]at l;have r:v.cells.size=i.size:=by rw[hc];simpa using A0 hs
  have hr:(execOp a.eval o).run P w= .ok .skip (w.setCells g off vs):=by unfold execOp;simp only[ho,f.ev hp,f.ev hx,H9,H8,storeVar,G9,H3,H6,hT.size ht,r];simp[hc,l]
  unfold I7;rw[hr,I9,hd];have y:=s.perm hH.perm;refine k _ _ S (f.put_none _) (y.swap (qC g vs off w) rfl rfl ?_) (All.mono (λ_ h=>h) (s.agree (qC g vs off w) (λc hc e=>by subst e;exact(y.own _ (E8 ..) _ rfl).2.2 hc)) z);rw[<-hput];exact vV vs off w cs b
theorem qU{w w':World}{row:Option Nat}(h:w.grownBy w' row):pU (λb=>some b=row) w w':=⟨h.os,h.tape,h.output,h.size,λb c a=>h.block b c a⟩
theorem St.swap_row{v v':Value}{t:TypeId}{sz m m':Nat}{cs cs':List Value}{S:nL}{w w':World}(s:St β (.row v t sz m cs::H) S w)(k:pU (λb=>some b=v.ownBlock) w w')(hv:v'.ownBlock=v.ownBlock\/v'.ownBlock=some w.heap.size)(ok:w'.ownsRow 0 t sz v' m' cs'):
  St β (.row v' t sz m' cs'::H) S w':=by
 have f:=E5.1 s.sep;have g:=s.own _ (E8 ..);have i:St β H S w':=s.tail.grow k (λb a=>(g b a.symm).2.1) (λd c b a e=>f.1 d c b e.symm a)
 have j: ∀b,v'.ownBlock=some b->b<w'.heap.size/\(β.M b\/β.w.heap.size<=b)/\ ¬S b:=λb a=>by
  refine⟨(World.ownsRow.lt ok b a).2,?_⟩
  rcases hv with hv|hv
  .exact(g b (hv.symm.trans a)).2
  .rw[hv]at a;injection a with a
   subst a;exact⟨.inr s.kept.size,λh=>absurd (s.W _ h).1 (B5 _)⟩
 refine⟨i.kept,λd c=>?_,λd c b a=>?_,E5.2 ⟨λd c b a l=>?_,i.sep⟩,i.W⟩
 .rcases E2.1 c with rfl|c
  .exact ok
  .exact i.ok d c
 .rcases E2.1 c with rfl|c
  .exact j b a
  .exact i.own d c b a
 .rcases hv with hv|hv
  .exact f.1 d c b (hv.symm.trans a) l
  .have a:v'.ownBlock=some b:=a;rw[hv]at a;injection a with a
   subst a;exact absurd (s.own d (E4 _ c) _ l).1 (B5 _)
theorem at_append{ops:Array Oper}{rest:List Oper}{o:Oper}{d:Nat}{x y:Operand}{t e:TypeId}{i:TypeInfo}{z:Value}{sz by_ m q c b off:Nat}{v:Value}{cs news:List Value}{H':List bK}(hg:o.guard=none)
  (ho:o.op= .call {callee:= .builtin .append,args:= #[x,y],argTypes:= #[t,t]}) (hd:o.dst=some d) (hn:B2 d n=true) (hu:P.underlying t=some (.slice e)) (hi:P.info? e=some i) (hz:i.zero=some z) (hsize:i.size=sz) (hby:i.bytes=by_) (hzs:z.cells.size=sz) (hsz:0<sz)
  (hx:Γ.ev x=some v) (hH:cT H (.row v e sz m cs) H') (hy:Γ.ev y=some (.slice (some ⟨b,off,none⟩) q c)) (hl:news.length=q*sz) (hk:nW β H F b off news) (h1: ∀u∈news,u.oneCell'=true) (h63:m+q<=maxLen) (hbytes:(m+q)*by_<=140737488355328)
  (k: ∀v',At β n ((d,v')::Γ) (.row v' e sz (m+q) (cs++news)::H') F (wpList P ops Q rest)):At β n Γ H F (wpList P ops Q (o::rest)):=λa w S f s B=>by have p:w.ownsRow 0 e sz v m cs:=s.ok _ hH.mem;refine wpList_append_own_at w hg x y t ho 0 e i z sz by_ hu hi hz hsize hby hzs hsz v m cs (f.ev hx) p ⟨b,off,none⟩ q c news (f.ev hy) hl (λj u C=>by rw[H5];exact hk w S s B j u C) h1 h63 hbytes (C4 _) ?_;intro v' E l g _ r;have A:=s.perm hH.perm;rw[hd];exact k v' _ _ S (f.put w6 _) (A.swap_row (qU g) r l) (All.mono (λ_ h=>h) (s.agree (qU g) (λb D e=>(A.own _ (E8 ..) b e.symm).2.2 D)) B)
theorem bDh{ops:Array Oper}{rest:List Oper}{o:Oper}{d m:Nat}{t e:TypeId}{parts:Array (Nat×Operand)}{cs:List Value}(hw:want ops Γ o=some true)(ho:o.op= .buildSlice t m parts)(hd:o.dst=some d)(hn:B2 d n=true)
  (hr: ∀a w,Fits n Γ a->(I0 t m (parts.map λ(i,x)=>(i,a.eval x))).run P w= .ok (.slice (some ⟨w.heap.size,0,none⟩) m m) (w.alloc (.cells cs.toArray e)))
  (k: ∀b,At β n ((d,.slice (some ⟨b,0,none⟩) m m)::Γ) (.obj b (.cells cs.toArray e)::H) F (wpList P ops Q rest)):At β n Γ H F (wpList P ops Q (o::rest)):=
 lN hw λa w S f s g=>by
  have c:(execOp a.eval o).run P w= .ok (.value (.slice (some ⟨w.heap.size,0,none⟩) m m)) (w.alloc (.cells cs.toArray e)):=by unfold execOp;simp only[ho];rw[G9,hr a w f];rfl
  unfold I7;rw[c,I8,hd];exact k _ _ _ S (f.put w6 _) (s.alloc _) (All.alloc s g _)
end
section
variable {P : Program} {ops : Array Oper} {md : Region.Mode} {C : World -> Prop} {Q : Exit -> Act -> World -> Prop}
def Nm (K:Act->World->Prop):Exit->Act->World->Prop:=λe a w=>e= .normal/\K a w
theorem Nm.out{K:Act->World->Prop}(h:LetsOut (Nm K)):False:=by obtain⟨_,_,h,_⟩:=h;cases h
def fOp (P:Program)(ops:Array Oper)(i:Nat)(K:Act->World->Prop)(a:Act)(w:World):Prop:= ∀o,ops[i]?=some o->wpList P ops (Nm K) [o] a w
theorem wpNm{o:Oper}{K:Act->World->Prop}{a:Act}{w:World}(h:wpList P ops (Nm K) [o] a w):if G0 o (yielded ops a.tmps)then o.wp P a w K (Nm K)else K (a.put o.dst undef) w:=by
 unfold wpList at h;split
 .rename_i b;simp only[b,if_true]at h
  rcases h with h|⟨_,h⟩
  .exact Oper.wp_mono (λa w h=>h.2) h
  .exact(Nm.out h).elim
 .rename_i b;simp only[b]at h;exact h.2
theorem wpNm_of{o:Oper}{K:Act->World->Prop}{a:Act}{w:World}(h:if G0 o (yielded ops a.tmps)then o.wp P a w K (Nm K)else K (a.put o.dst undef) w):wpList P ops (Nm K) [o] a w:=by
 unfold wpList;split
 .rename_i b;simp only[b,if_true]at h;exact .inl (Oper.wp_mono (λa w h=>⟨rfl,h⟩) h)
 .rename_i b;simp only[b]at h;exact⟨rfl,h⟩
theorem bCo{o:Oper}{a a':Act}{w:World}{K K':Act->World->Prop}{Q':Exit->Act->World->Prop}(he:execOp a'.eval o=execOp a.eval o)(hK: ∀u w',K (a.put o.dst u) w'->K' (a'.put o.dst u) w')
  (hD: ∀d w',K ({a with defers:=d::a.defers}.put o.dst undef) w'->K' ({a' with defers:=d::a'.defers}.put o.dst undef) w') (h:o.wp P a w K (Nm K)):o.wp P a' w K' Q':=by
 unfold I7 at*;rw[he];generalize (execOp a.eval o).run P w=r at*
 cases r with
 |ok n w'=>
  cases n<;>simp only[J1]at h⊢
  case value u=>exact hK _ _ h
  case skip=>exact hK _ _ h
  case defer d=>exact hD _ _ h
  case enter f args=>
   refine h.mono λe b he=>?_
   cases e with
   |returned v=>exact hK _ _ he
   |panicked c=>exact absurd he.1 m9
   |outgrown=>exact(Nm.out he).elim
  case row row args=>exact h.mono λ_ _ he=>hK _ _ he
 |halt x w'=>
  cases x<;>simp only[J1]at h
  exact absurd h.1 m9
def bGw (P:Program)(md:Region.Mode)(ops:Array Oper)(C:World->Prop)(Q:Exit->Act->World->Prop):Nat->Array Bool->Act->World->Prop
 |0,listed,a,w=>C w/\G1 md ops listed=[]/\Q .normal a w
 |fuel+1,listed,a,w=>C w/\(G1 md ops listed=[]->Q .normal a w)/\ ∀i∈G1 md ops listed,fOp P ops i (bGw P md ops C Q fuel (listed.setIfInBounds i true)) a w
theorem tH: ∀(fuel:Nat) (listed:Array Bool) (a:Act) (w:World),bGw P md ops C Q fuel listed a w->wpAny P md ops Q fuel listed a w
 |0,_,_,_,h=>h.2
 |fuel+1,listed,a,w,h=>by
  refine⟨h.2.1,λi hi=>?_⟩;have hf:=h.2.2 i hi;unfold wpOp;split
  .rename_i ho;obtain⟨_,g,b,_⟩:=mem_ready.1 hi;rw[ho]at b;cases b
  .rename_i o ho;have h1:=wpNm (hf o ho);split
   .rename_i c;simp only[c,if_true]at h1;exact .inl (bCo rfl (λu f e=>tH fuel _ _ _ e) (λd f e=>tH fuel _ _ _ e) h1)
   .rename_i c;simp only[c]at h1;exact tH fuel _ _ _ h1
def Fl (P:Program)(ops:Array Oper)(C:World->Prop)(o:Oper)(v:Value)(a:Act):Prop:=
 (G0 o (yielded ops a.tmps)=true/\ ∀w,C w->(execOp a.eval o).run P w= .ok (.value v) w)\/(G0 o (yielded ops a.tmps)=false/\v=undef)
theorem Fl.of_same{o:Oper}{v:Value}{a a':Act}(hy:Fl P ops C o v a)(he:execOp a'.eval o=execOp a.eval o)
  (hw:G0 o (yielded ops a'.tmps)=G0 o (yielded ops a.tmps)):Fl P ops C o v a':=by unfold Fl at*;rw[he,hw];exact hy
theorem Fl.fOp{i:Nat}{o:Oper}{v:Value}{a:Act}{w:World}(hi:ops[i]?=some o)(hy:Fl P ops C o v a)(hC:C w){K:Act->World->Prop}(h:K (a.put o.dst v) w):fOp P ops i K a w:=λd c=>by
 have:d=o:=Option.some.inj (c.symm.trans hi);subst this;apply wpNm_of
 rcases hy with ⟨b,e⟩|⟨b,rfl⟩
 .simp only[b,if_true,I7,e w hC,J1];exact h
 .simp only[b,J2,if_false];exact h
theorem fOp_put{j:Nat}{oi oj:Oper}{v:Value}(hj:ops[j]?=some oj)(hap:oi.apart ops oj=true)
  (hsi: ∀cs b,oi.op≠ .select cs b) (hsj: ∀cs b,oj.op≠ .select cs b) {K:Act->World->Prop} {a:Act} {w:World}
  (hy:Fl P ops C oi v a) (h:fOp P ops j K (a.put oi.dst v) w):fOp P ops j (λa' w'=>Fl P ops C oi v a'/\K (a'.put oi.dst v) w') a w:=λo ho=>by
 have:o=oj:=Option.some.inj (ho.symm.trans hj);subst this;obtain⟨h1,h2,g⟩:=Oper.apart_spec hap
 have c: ∀(a:Act),Fl P ops C oi v a-> ∀u,Fl P ops C oi v (a.put o.dst u):=λa hy u=>
  hy.of_same (execOp_put oi hsi a o.dst u g) (wanted_put oi a o.dst u g)
 have h:=wpNm (h o ho);rw[wanted_put o a oi.dst v h1]at h;apply wpNm_of;split
 .rename_i e;simp only[e,if_true]at h;refine bCo (execOp_put o hsj a oi.dst v h1).symm (λu w' f=>⟨c a hy u,by rw[<-Act.put_comm a v u h2];exact f⟩) (λd w' f=>?_) h;refine⟨c {a with defers:=d::a.defers} hy undef,?_⟩;rw[<-Act.put_comm {a with defers:=d::a.defers} v undef h2]
  have:({a.put oi.dst v with defers:=d::(a.put oi.dst v).defers}:Act)=({a with defers:=d::a.defers}:Act).put oi.dst v:=by cases oi.dst<;>rfl
  rw[<-this];exact f
 .rename_i e;simp only[e]at h;exact⟨c a hy _,by rw[<-Act.put_comm a v undef h2];exact h⟩
theorem mY{i:Nat}{K K':Act->World->Prop}{a:Act}{w:World}(hk: ∀a w,K a w->K' a w)(h:fOp P ops i K a w):fOp P ops i K' a w:=λo ho=>by
 have h:=wpNm (h o ho);apply wpNm_of;split
 .rename_i b;simp only[b,if_true]at h;exact bCo rfl (λu e c=>hk _ _ c) (λd e c=>hk _ _ c) h
 .rename_i b;simp only[b]at h;exact hk _ _ h
theorem bAq{i:Nat}{oi:Oper}{v:Value}(hi:ops[i]?=some oi)(hsel: ∀(j:Nat) (o:Oper) cs b,ops[j]?=some o->o.op≠ .select cs b):
  ∀(fuel:Nat) (listed:Array Bool) (a:Act) (w:World),
   (∀j oj,ops[j]?=some oj->j≠i->listed.getD j true=false->(∀e∈oj.after,G2 md e=true->e.on≠i)->oi.apart ops oj=true)->
   i∈G1 md ops listed->Fl P ops C oi v a->
   bGw P md ops C Q fuel (listed.setIfInBounds i true) (a.put oi.dst v) w->bGw P md ops C Q (fuel+1) listed a w:=by
 intro fuel
 induction fuel with
 |zero=>
  intro listed a w _ hr hy H;refine⟨H.1,λh=>al2,λj r=>?_⟩
  by_cases c:j=i
  .subst c;exact hy.fOp hi H.1 H
  .have:=ready_mono r c;rw[H.2.1]at this;cases this
 |succ fuel ih=>
  intro listed a w d hr hy H;refine⟨H.1,λh=>al2,λj r=>?_⟩
  by_cases c:j=i
  .subst c;exact hy.fOp hi H.1 H
  .have h1:=H.2.2 j (ready_mono r c);obtain⟨g,oj,l,q⟩:=mem_ready.1 r
   have n: ∀e∈oj.after,G2 md e=true->e.on≠i:=λe he B u=>by
    have h1:=q e he B;have h0:=(mem_ready.1 hr).1;rw[u]at h1
    rcases k8 i listed.size with x|x
    .simp[x]at h0 h1;rw[h0]at h1;cases h1
    .simp[D2 x]at h1
   have h2:=fOp_put l (d j oj l c g n) (λcs b=>hsel i oi cs b hi) (λcs b=>hsel j oj cs b l) hy h1;have f: ∀k ok,ops[k]?=some ok->k≠i->(listed.setIfInBounds j true).getD k true=false->
     (∀e∈ok.after,G2 md e=true->e.on≠i)->oi.apart ops ok=true:=λk ok A t m s=>by
    refine d k ok A t ?_ s
    by_cases p:j=k
    .subst p;exact g
    .rw[getD_set_ne true p]at m;exact m
   refine mY (λD z y=>ih (listed.setIfInBounds j true) D z f (ready_mono hr (Ne.symm c)) y.1 ?_) h2;rw[D6 _ _ c];exact y.2
def sL (P:Program)(ops:Array Oper)(C:World->Prop)(Q:Exit->Act->World->Prop):List (Bool×Nat)->Act->World->Prop
 |[],a,w=>Q .normal a w
 |(true,k)::r,a,w=> ∃o v,ops[k]?=some o/\Fl P ops C o v a/\sL P ops C Q r (a.put o.dst v) w
 |(false,k)::r,a,w=>fOp P ops k (λa w=>C w/\sL P ops C Q r a w) a w
def mixB (md:Region.Mode)(ops:Array Oper):List (Bool×Nat)->Array Bool->Bool
 |[],listed=>(G1 md ops listed).isEmpty
 |(true,k)::r,listed=>(G1 md ops listed).contains k&&G3 md ops listed k&&mixB md ops r (listed.setIfInBounds k true)
 |(false,k)::r,listed=>(G1 md ops listed==[k])&&mixB md ops r (listed.setIfInBounds k true)
theorem bFv(hs:G4 ops=true): ∀(l:List (Bool×Nat)) (listed:Array Bool) (a:Act) (w:World),mixB md ops l listed=true->C w->sL P ops C Q l a w->bGw P md ops C Q l.length listed a w
 |[],listed,a,w,hB,hC,h=>⟨hC,by simpa[mixB]using hB,h⟩
 |(true,k)::r,listed,a,w,hB,hC,h=>by
  simp only[mixB,J3]at hB;obtain⟨o,v,ho,hy,c⟩:=h;exact bAq ho (G6 hs) r.length listed a w (G7 ho hB.1.2) (by simpa using hB.1.1) hy (bFv hs r _ _ _ hB.2 hC c)
 |(false,k)::r,listed,a,w,hB,hC,h=>by
  simp only[mixB,J3,beq_iff_eq]at hB;refine⟨hC,λh0=>ak2,λi hi=>?_⟩;rw[hB.1]at hi;have:i=k:=by simpa using hi
  subst this;exact mY (λe d b=>bFv hs r _ _ _ hB.2 b.1 b.2) h
def mixOk (l:List (Bool×Nat))(ops:Array Oper):Bool:=G4 ops&&k9 l.length ops.size&&mixB .any ops l (D7 ops.size false)
end
section
variable {P : Program} {β : fS} {n : Nat} {Γ : Env} {H : List bK} {F : List Fact} {Q : Exit -> Act -> World -> Prop} {K : Act -> World -> Prop} {Hk : List bK} {F0 : List Fact} {ops : Array Oper}
theorem StF.sel(hH:Sel H Hk)(hF:bA F F0){w:World}(h:StF β H F w):StF β Hk F0 w:=by obtain⟨S,s,k⟩:=h;exact⟨S,s.sel hH,hF.all S w k⟩
theorem cL{id:Nat}{l:List Oper}(Hk:List bK)(F0:List Fact)(od:List (Bool×Nat))(hm:P.follows .mixedOrders=true)(hB:mixOk od l.toArray=true)(hH:Sel H Hk)(hF:bA F F0)
  (h:At β n Γ H F (sL P l.toArray (StF β Hk F0) Q od)):At β n Γ H F ((D8 id l.toArray true).wp P Q):=λa w S f s k=>by
 simp only[mixOk,J3]at hB;have e:=StF.drew ⟨S,s,k⟩;obtain⟨d,b,c⟩:=e;refine wp_region_any hm (tH (C:=StF β Hk F0) _ _ _ _ ?_);have:=bFv (P:=P) (md:= .any) (C:=StF β Hk F0) (Q:=Q) hB.1.1 od (D7 l.toArray.size false) a _ hB.2 (StF.sel hH hF ⟨d,b,c⟩) (h a _ d f b c)
 rwa[A0 hB.1.2]at this
def Sti (P:Program)(β:fS)(n:Nat)(Γ:Env)(H:List bK)(F:List Fact)(o:Oper)(v:Value):Prop:= ∀a w S,Fits n Γ a->St β H S w->All F S w->(execOp a.eval o).run P w= .ok (.value v) w
theorem Sti.det{o:Oper}{v:Value}(h:Sti P β n Γ H F o v):Det P β n Γ H F o v:=det_of h
theorem bRz{rest:List Oper}{o:Oper}{d:Nat}{v:Value}(hw:want ops Γ o=some true)(hd:o.dst=some d)(hn:B2 d n=true)(h:Sti P β n Γ H F o v)
  (k:At β n ((d,v)::Γ) H F (wpList P ops Q rest)):At β n Γ H F (wpList P ops Q (o::rest)):=at_det hw hd hn h.det k
theorem uU{C:World->Prop}(h:At β n Γ H F (Q .normal)):At β n Γ H F (sL P ops C Q []):=h
theorem bIh{r:List (Bool×Nat)}{o:Oper}{k d:Nat}{v:Value}(hk:ops[k]?=some o)(hw:want ops Γ o=some true)(hd:o.dst=some d)(hn:B2 d n=true)(h:Sti P β n Γ Hk F0 o v)
  (K:At β n ((d,v)::Γ) H F (sL P ops (StF β Hk F0) Q r)):At β n Γ H F (sL P ops (StF β Hk F0) Q ((true,k)::r)):=λa w S f s g=>by refine⟨o,v,hk,.inl ⟨f.want hw,λb ⟨i,c,e⟩=>h a b i f c e⟩,?_⟩;rw[hd];exact K _ _ S (f.put w6 v) s g
theorem stM{r:List (Bool×Nat)}{o:Oper}{k d:Nat}{v:Value}(hk:ops[k]?=some o)(h:Sti P β n Γ Hk F0 o v)(K:At β n ((d,v)::Γ) H F (sL P ops (StF β Hk F0) Q r))(hw:want ops Γ o=some true:=by exact rfl)(hd:o.dst=some d:=by exact rfl)(hn:Nat.blt d n=true:=by exact rfl):At β n Γ H F (sL P ops (StF β Hk F0) Q ((true,k)::r)):=bIh hk hw hd hn h K
theorem puM{r:List (Bool×Nat)}{o:Oper}{k d:Nat}{v:Value}{T:Tab}(hT:gA P T)(K:At β n ((d,v)::Γ) H F (sL P ops (StF β Hk F0) Q r))(hk:ops[k]?=some o:=by exact rfl)(hw:want ops Γ o=some true:=by exact rfl)(hd:o.dst=some d:=by exact rfl)(hn:Nat.blt d n=true:=by exact rfl)(h:rG T Γ o.op=some v:=by exact rfl):At β n Γ H F (sL P ops (StF β Hk F0) Q ((true,k)::r)):=bIh hk hw hd hn (λ_ w _ f _ _=>bFy hT f h w) K
theorem wW{r:List (Bool×Nat)}{o:Oper}{k d:Nat}{C:World->Prop}(hk:ops[k]?=some o)(hw:want ops Γ o=some false)(hd:o.dst=some d)(hn:B2 d n=true)
  (K:At β n ((d,undef)::Γ) H F (sL P ops C Q r)):At β n Γ H F (sL P ops C Q ((true,k)::r)):=λa w S f s b=>by refine⟨o,undef,hk,.inr ⟨f.want hw,rfl⟩,?_⟩;rw[hd];exact K _ _ S (f.put w6 undef) s b
theorem bGf{r:List (Bool×Nat)}{o:Oper}{k:Nat}{C:World->Prop}(hk:ops[k]?=some o)(h:At β n Γ H F (wpList P ops (Nm λa w=>C w/\sL P ops C Q r a w) [o])):At β n Γ H F (sL P ops C Q ((false,k)::r)):=λa w S f s d c b=>by have:c=o:=Option.some.inj (b.symm.trans hk);subst this;exact h a w S f s d
theorem fJ{r:List (Bool×Nat)}(hH:Sel H Hk)(hF:bA F F0)(h:At β n Γ H F (sL P ops (StF β Hk F0) Q r)):At β n Γ H F (wpList P ops (Nm λa w=>StF β Hk F0 w/\sL P ops (StF β Hk F0) Q r a w) []):=λa w S f s k=>
 ⟨rfl,StF.sel hH hF ⟨S,s,k⟩,h a w S f s k⟩
end
structure Flat (α:Type) where
 size:Nat
 cells:α->List Value
 len: ∀x,(cells x).length=size
 one: ∀x,∀u∈cells x,u.oneCell'=true
 pos:0<size
section
variable {α : Type} (E : Flat α)
def Flat.all(xs:List α):List Value:=xs.flatMap E.cells
theorem Flat.all_length(xs:List α):(E.all xs).length=xs.length*E.size:=by
 induction xs with
 |nil=>simp[Flat.all]
 |cons x r ih=>
  have:E.all (x::r)=E.cells x++E.all r:=rfl;rw[this,F4,ih,E.len,F5,C5,C6,Nat.add_comm]
theorem Flat.all_append(xs ys:List α):E.all (xs++ys)=E.all xs++E.all ys:=by simp[Flat.all]
theorem Flat.all_one{xs:List α}: ∀u∈E.all xs,u.oneCell'=true:=λu hu=>by obtain⟨x,_,h⟩:=List.mem_flatMap.1 hu;exact E.one x u h
theorem Flat.all_get{xs:List α}{k:Nat}{x:α}(h:xs[k]?=some x){j:Nat}{u:Value}(hj:(E.cells x)[j]?=some u):(E.all xs)[k*E.size+j]?=some u:=by
 induction xs generalizing k with
 |nil=>simp at h
 |cons y r ih=>
  have e:E.all (y::r)=E.cells y++E.all r:=rfl
  cases k with
  |zero=>
   simp at h;subst h;have a:=(F3.1 hj).1;rw[e,Nat.zero_mul,C7,List.getElem?_append_left a];exact hj
  |succ k=>
   rw[e,List.getElem?_append_right (by rw[E.len,C5,C6];omega),E.len];rw[show(k+1)*E.size+j-E.size=k*E.size+j from by rw[C5,C6];omega];exact ih ad3
theorem bHi: ∀(vs xs:List Value) (j:Nat),j+vs.length<=xs.length->bAr xs j vs=xs.take j++vs++xs.drop (j+vs.length)
 |[],xs,j,_=>by simp[bAr]
 |v::r,xs,j,h=>by
  simp only[F5]at h;rw[bAr,bHi r (xs.set j v) (j+1) q9]
  have h1:(xs.set j v).take (j+1)=xs.take j++[v]:=by rw[List.take_add_one,List.getElem?_set_self l7,List.take_set_of_le (B0 _)];rfl
  have h2:(xs.set j v).drop (j+1+r.length)=xs.drop (j+(r.length+1)):=by
   rw[List.drop_set_of_lt l7]
   congr 1
   omega
  rw[h1,h2];simp
theorem Flat.all_set{xs:List α}{k fo:Nat}{x x':α}{vs:List Value}(h:xs[k]?=some x)(hp:vY (E.cells x) fo vs=some (E.cells x')):bAr (E.all xs) (k*E.size+fo) vs=E.all (xs.set k x'):=by
 obtain⟨h1,h2⟩:=wB hp;rw[E.len]at h1;have e:k<xs.length:=(F3.1 h).1
 have b:xs=xs.take k++x::xs.drop (k+1):=by have:x=xs[k]:=(F3.1 h).2.symm;rw[this];simp
 have a:xs.set k x'=xs.take k++x'::xs.drop (k+1):=by rw[List.set_eq_take_append_cons_drop,if_pos e]
 have c:(xs.take k).length=k:=by simp;omega
 have i:E.all xs=E.all (xs.take k)++(E.cells x++E.all (xs.drop (k+1))):=(congrArg E.all b).trans (E.all_append _ _);have d:(E.all (xs.take k)).length=k*E.size:=by rw[E.all_length,c]
 rw[bHi _ _ _ (by rw[E.all_length];have:(k+1)*E.size<=xs.length*E.size:=C8 _ e;rw[C5,C6]at this;omega)];rw[a,E.all_append];show _=E.all (xs.take k)++(E.cells x'++E.all (xs.drop (k+1)));rw[h2,i];generalize E.all (xs.take k)=A at*;generalize E.all (xs.drop (k+1))=B at*
 have g:(A++(E.cells x++B)).take (k*E.size+fo)=A++(E.cells x).take fo:=by rw[<-d,List.take_append,F6 l7,show A.length+fo-A.length=fo from by omega,List.take_append_of_le_length (by rw[E.len];omega)]
 have f:(A++(E.cells x++B)).drop (k*E.size+fo+vs.length)=(E.cells x).drop (fo+vs.length)++B:=by rw[<-d,B8,List.drop_append,List.drop_of_length_le l7,show A.length+(fo+vs.length)-A.length=fo+vs.length from by omega,List.drop_append_of_le_length (by rw[E.len];omega)];simp
 rw[g,f];simp
end
def ablk:Option Addr->Nat
 |some a=>a.block
 |none=>0
def aoff:Option Addr->Nat
 |some a=>a.off
 |none=>0
section
variable {P : Program} {β : fS} {n : Nat} {Γ : Env} {H : List bK} {F : List Fact} {Q : Exit -> Act -> World -> Prop} {K : Act -> World -> Prop} {T : Tab} {α : Type} {E : Flat α}
def Flat.row(E:Flat α)(v:Value)(t:TypeId)(xs:List α):bK:= .row v t E.size xs.length (E.all xs)
def Flat.sl(E:Flat α)(v:Value)(xs:List α):Fact:=Fact.sl (Enc.flat E.size E.cells) v xs
def dD (β:fS)(H:List bK)(F:List Fact)(E:Flat α)(A:Option Addr)(xs:List α):Prop:= ∀w S,St β H S w->All F S w-> ∀k x,xs[k]?=some x->(∃b o,A=some ⟨b,o,none⟩)/\
 ∀j u,(E.cells x)[j]?=some u->w.cell? ⟨ablk A,aoff A+k*E.size+j,none⟩=some u
theorem bG{A:Option Addr}{l c:Nat}{xs:List α}(h:Has F (E.sl (.slice A l c) xs)):dD β H F E A xs:=λw S _ k i x hi=>by
 obtain⟨n,j,e,h⟩:=h S w k;obtain⟨b,o,g,f,m,d,a⟩:=h i x hi;injection e with e
 subst e;subst f;have a:g=E.cells x:=a;subst a;exact⟨⟨b,o,rfl⟩,d⟩
theorem cI{A:Option Addr}{t:TypeId}{m cap:Nat}{xs:List α}{H':List bK}(hH:cT H (E.row (.slice A m cap) t xs) H'):dD β H F E A xs:=λw S s _ i x hi=>by
 have ho:w.ownsRow 0 t E.size (.slice A m cap) xs.length (E.all xs):=s.ok _ hH.mem;have a:i<xs.length:=(F3.1 hi).1
 rcases ho.2 with ⟨e,h⟩|⟨g,d,f,e,_⟩
 .omega
 .injection e with e1 e2 e3
  subst e1 e2;refine⟨⟨g,0,rfl⟩,λj u c=>?_⟩;have b:=(F3.1 c).1;rw[E.len]at b;show w.cell? ⟨g,0+i*E.size+j,none⟩=some u;rw[C7,World.ownsRow.cellAt ho _ (by have:(i+1)*E.size<=xs.length*E.size:=C8 _ a;rw[C5,C6]at this;omega)];exact E.all_get hi c
theorem jY(hT:gA P T){o:Oper}{v:Value}(h:rG T Γ o.op=some v):Sti P β n Γ H F o v:=λ_ w _ f _ _=>bFy hT f h w
theorem cA(hT:gA P T){o:Oper}{t e l c k:Nat}{x i:Operand}{kk:IntKind}{z:Int}{sz:Nat}{de:TD}{A:Option Addr}{xs:List α}(hr:dD β H F E A xs)(ho:o.op= .indexAddr t x i)(hx:Γ.ev x=some (.slice A l c))(hi:Γ.ev i=some (.int kk z))
  (ht:T.get t=some ⟨.slice e,sz⟩) (he:T.get e=some ⟨de,E.size⟩) (hl:l=xs.length) (hz:z=(k:Nat)) (hk:k<xs.length):Sti P β n Γ H F o (.pointer (some ⟨ablk A,aoff A+k*E.size,none⟩)):=λa w S f s h=>by
 obtain⟨⟨b,d,rfl⟩,_⟩:=hr w S s h k _ (F1 hk);subst hz;subst hl;have g:(⟨b,d,none⟩:Addr).add (k*E.size)=⟨b,d+k*E.size,none⟩:=H5 _ _ _
 have h0:(0:Int)<=(k:Int)/\(k:Int)<(xs.length:Int):=⟨l7,l7⟩
 unfold execOp;simp only[ho,f.ev hx,f.ev hi,I1,asIntOf,G9,H3,H6,hT.slice ht w,h0,and_self,if_true,hT.size he,J4,g];rfl
theorem dD.knows{A:Option Addr}{xs:List α}(hr:dD β H F E A xs){k:Nat}{x:α}(hk:xs[k]?=some x)(fo:Nat):nW β H F (ablk A) (aoff A+k*E.size+fo) ((E.cells x).drop fo):=λw S s b j u a=>by
 have:=(hr w S s b k x hk).2 (fo+j) u (by simpa using a)
 rwa[<-B8]at this
theorem cV(hT:gA P T){o:Oper}{t b q:Nat}{p:Operand}{cs:List Value}{i:TI}{v:Value}(hk:nW β H F b q cs)(ho:o.op= .load t p)(hp:Γ.ev p=some (.pointer (some ⟨b,q,none⟩)))(ht:T.get t=some i)(ha:aggD i.desc=false)
  (hv:cs[0]?=some v):Sti P β n Γ H F o v:=λa w S f s k=>by have c:=hk w S s k 0 v hv;rw[C0]at c;unfold execOp;simp only[ho,f.ev hp,Instr.loadAt,H8,loadVar,G9,H3,H6,hT.agg ht,ha,J2,if_false,run_load,c]
theorem j6(hT:gA P T){o:Oper}{t b q:Nat}{p:Operand}{cs:List Value}{i:TI}{v:Value}(hk:nW β H F b q cs)(ho:o.op= .load t p:=by exact rfl)(hp:Γ.ev p=some (.pointer (some ⟨b,q,none⟩)):=by exact rfl)(ht:T.get t=some i:=by exact rfl)(ha:aggD i.desc=false:=by exact rfl)(hv:cs[0]?=some v:=by exact rfl):Sti P β n Γ H F o v:=cV hT hk ho hp ht ha hv
theorem fP(hT:gA P T){o:Oper}{t b q:Nat}{p:Operand}{cs l:List Value}{i:TI}(hk:nW β H F b q cs)(ho:o.op= .load t p)(hp:Γ.ev p=some (.pointer (some ⟨b,q,none⟩)))(ht:T.get t=some i)(ha:aggD i.desc=true)
  (hv:cut cs 0 i.size=some l):Sti P β n Γ H F o (.agg l.toArray):=λa w S f s k=>by obtain⟨h1,h2,e⟩:=bDj hv;have c:=run_loadCells_list (P:=P) w ⟨b,q,none⟩ l (λj u d=>by rw[H5];exact hk w S s k j u (by simpa using e j u d));rw[h2]at c;unfold execOp;simp only[ho,f.ev hp,Instr.loadAt,H8,loadVar,G9,H3,H6,hT.agg ht,ha,if_true,hT.size ht,c]
theorem bQ{t:TypeId}(E:Flat α)(h:At β n Γ (E.row (.slice none 0 0) t []::H) F K):At β n Γ H F K:=at_nilrow (t:=t) (sz:=E.size) h
theorem at_rowv{v:Value}{t:TypeId}{xs:List α}{H':List bK}(hH:cT H (E.row v t xs) H')(h: ∀A cap,v= .slice A xs.length cap->At β n Γ H F K):At β n Γ H F K:=bRg hH λ_ ⟨A,cap,e,_⟩=>h A cap e
theorem fN{ops:Array Oper}{rest:List Oper}{o:Oper}(hT:gA P T){t t' k fo m cap:Nat}{p x:Operand}{v:Value}{vs:List Value}{i:TI}{A:Option Addr}{xs:List α}{y y':α}{H':List bK}(hH:cT H (E.row (.slice A m cap) t' xs) H')(hw:want ops Γ o=some true)(ho:o.op= .store t p x)(hd:o.dst=none)
  (hp:Γ.ev p=some (.pointer (some ⟨ablk A,aoff A+k*E.size+fo,none⟩))) (hx:Γ.ev x=some v) (ht:T.get t=some i) (hc:v.cells=vs.toArray) (hs:k9 vs.length i.size=true)
  (h1:vs.all (·.oneCell')=true) (hk:xs[k]?=some y) (hput:vY (E.cells y) fo vs=some (E.cells y')) (K:At β n Γ (E.row (.slice A m cap) t' (xs.set k y')::H') F (wpList P ops Q rest)):At β n Γ H F (wpList P ops Q (o::rest)):=by
 have b:k<xs.length:=(F3.1 hk).1;refine bRg hH λ_ ⟨j,d,e,h⟩=>?_;injection e with e1 e2 e3
 subst e1 e2 e3;obtain⟨g,rfl⟩:=h l7;have f:=(wB hput).1;rw[E.len]at f;have a:(k+1)*E.size<=xs.length*E.size:=C8 _ b;rw[C5,C6]at a;refine at_store_row hT (off:=k*E.size+fo) hw ho hd (by rw[hp];show _=some (Value.pointer (some ⟨g,_,none⟩));simp[ablk,aoff]) hx (t':=t') (m:=xs.length) (cap:=cap) (sz:=E.size) hH ht hc hs h1 l7 (E.all_set hk hput) ?_;have c:=K;unfold Flat.row at c;rw[List.length_set]at c;exact c
theorem bBc{ops:Array Oper}{rest:List Oper}{o:Oper}{d:Nat}{x y:Operand}{t e:TypeId}{i:TypeInfo}{z:Value}{by_ c q:Nat}{v:Value}{A:Option Addr}{xs ys:List α}{H':List bK}(hH:cT H (E.row v e xs) H')(hr:dD β H F E A ys)(hg:o.guard=none)
  (ho:o.op= .call {callee:= .builtin .append,args:= #[x,y],argTypes:= #[t,t]}) (hd:o.dst=some d) (hn:B2 d n=true) (hu:P.underlying t=some (.slice e)) (hi:P.info? e=some i) (hz:i.zero=some z) (hsize:i.size=E.size) (hby:i.bytes=by_) (hzs:z.cells.size=E.size)
  (hx:Γ.ev x=some v) (hy:Γ.ev y=some (.slice A q c)) (hq:q=ys.length) (hne:0<ys.length) (hbytes:(xs.length+ys.length)*by_<=140737488355328) (hpos:0<by_)
  (k: ∀A' cap',At β n ((d,.slice A' (xs++ys).length cap')::Γ) (E.row (.slice A' (xs++ys).length cap') e (xs++ys)::H') F (wpList P ops Q rest)):At β n Γ H F (wpList P ops Q (o::rest)):=λa w S f s p=>by
 obtain⟨⟨b,D,rfl⟩,_⟩:=hr w S s p 0 _ (F1 hne);subst hq
 have r:xs.length+ys.length<=maxLen:=by have:xs.length+ys.length<=(xs.length+ys.length)*by_:=C9 _ hpos;simp[maxLen];omega
 refine at_append hg ho hd hn hu hi hz hsize hby hzs E.pos hx hH hy (news:=E.all ys) (E.all_length ys) (λw S s p j u B=>?_) E.all_one r hbytes (λJ=>?_) a w S f s p
 .have m:=(F3.1 B).1;rw[E.all_length]at m;have I:j/E.size<ys.length:=Nat.div_lt_of_lt_mul (by rwa[Nat.mul_comm]at m);have G:j%E.size<E.size:=Nat.mod_lt _ E.pos;have g:=F1 I;have h:=F1 (l:=E.cells ys[j/E.size]) (i:=j%E.size) (by rw[E.len];exact G);have e:j/E.size*E.size+j%E.size=j:=by rw[Nat.mul_comm];exact Nat.div_add_mod j E.size
  have h1:=(hr w S s p _ _ g).2 _ _ h;have h2:=E.all_get g h;rw[e,B]at h2;injection h2 with h2
  have C:=h1.trans (congrArg some h2.symm);rw[B8,e]at C;exact C
 .have K:=k;refine bRg (H:=_::H') .head λ_ ⟨A',cap',e,_⟩=>?_;subst e;have:=k A' cap';unfold Flat.row at this;rw[E.all_append,F4]at this;exact this
end
section
variable {P : Program} {β : fS} {n : Nat} {Γ : Env} {H : List bK} {F : List Fact} {Q : Exit -> Act -> World -> Prop} {K : Act -> World -> Prop} {T : Tab} {α : Type} {E : Flat α}
theorem bY{f:FuncId}{fn:Func}(hf:P.funcs[f]?=some fn)(hn:(fn.name== "runtime.NumGoroutine")=false)(hb:fn.body.isNone=false)(args:Array Value)(w:World):(callFunc f args).run P w= .ok (.enter f args) w:=by have a:(program:Sem Program).run P w= .ok P w:=rfl;unfold callFunc;rw[G9,a,H6,hf];simp only[hn,hb,J2,if_false,H3]
theorem bD{β:fS}{n:Nat}{Γ:Env}{H:List bK}{F:List Fact}{Q:Exit->Act->World->Prop}{fn:Func}{ι:Type}{ops:Array Oper}{rest:List Oper}{o:Oper}{d:Nat}{f:FuncId}{ars:Array Operand}{ts:Array TypeId}{vs:List Value}{Hin H2:List bK}{Pre:List Fact}{val:ι->Value}{Hout:ι->List bK}{post:ι->List Fact}(hf:P.funcs[f]?=some fn)(hs:cY P f vs Hin Pre val Hout post)(ho:o.op= .call ⟨.value (.func f),ars,ts⟩)(hv:Γ.evs ars.toList=some vs)(hH:pR H Hin H2)(hF:bA F Pre)(k: ∀x,At β n ((d,val x)::Γ) (Hout x++H2) (post x++F) (wpList P ops Q rest))(hw:want ops Γ o=some true:=by exact rfl)(hd:o.dst=some d:=by exact rfl)(hn:Nat.blt d n=true:=by exact rfl)(h1:(fn.name== "runtime.NumGoroutine")=false:=by exact rfl)(h2:fn.body.isNone=false:=by exact rfl):At β n Γ H F (wpList P ops Q (o::rest)):=at_call (bY hf h1 h2) hs hw ho hd hn hv hH hF k
theorem j2{β:fS}{n:Nat}{Γ:Env}{H:List bK}{F:List Fact}{Q:Exit->Act->World->Prop}{fn:Func}{ι:Type}{ops:Array Oper}{rest:List Oper}{o:Oper}{d:Nat}{f:FuncId}{ars:Array Operand}{ts:Array TypeId}{vs:List Value}{Hin H2:List bK}{Pre:List Fact}{val:ι->Value}{Hout:ι->List bK}{post:ι->List Fact}(hf:P.funcs[f]?=some fn)(hs:cY P f vs Hin Pre val Hout post)(hF:bA F Pre)(k: ∀x,At β n ((d,val x)::Γ) (Hout x++H2) (post x++F) (wpList P ops Q rest))(ho:o.op= .call ⟨.value (.func f),ars,ts⟩:=by exact rfl)(hv:Γ.evs ars.toList=some vs:=by exact rfl)(hH:pR H Hin H2:=by exact .nil)(hw:want ops Γ o=some true:=by exact rfl)(hd:o.dst=some d:=by exact rfl)(hn:Nat.blt d n=true:=by exact rfl)(h1:(fn.name== "runtime.NumGoroutine")=false:=by exact rfl)(h2:fn.body.isNone=false:=by exact rfl):At β n Γ H F (wpList P ops Q (o::rest)):=bD hf hs ho hv hH hF k (hw:=hw) (hd:=hd) (hn:=hn) (h1:=h1) (h2:=h2)
theorem bR{v:Value}{t:TypeId}{xs:List α}{H':List bK}(hH:cT H (E.row v t xs) H')(h:At β n Γ H' (E.sl v xs::F) K):At β n Γ H F K:=λa w S f s k=>by
 have g:=s.perm hH.perm;have m:w.ownsRow 0 t E.size v xs.length (E.all xs):=g.ok _ (E8 ..);have e:=E5.1 g.sep;have j:=g.own _ (E8 ..);have i:All F (λb=>S b\/v.ownBlock=some b) w:=All.mono (λ_ h=> .inl h) (λ_ _=>rfl) k;refine h a w (λb=>S b\/v.ownBlock=some b) f ⟨g.kept,λc l=>g.ok c (E4 _ l),λc l b d=>?_,e.2,λb d=>?_⟩ (All.cons ?_ i)
 .obtain⟨h1,h2,o⟩:=g.own c (E4 _ l) b d;refine⟨h1,h2,λh=>?_⟩
  rcases h with h|h
  .exact o h
  .exact e.1 c l b h d
 .rcases d with d|d
  .exact g.W b d
  .obtain⟨h1,h2,_⟩:=j b d;exact⟨h1,.inr h2⟩
 .exact row_slice m λb d=> .inr d
where
 row_slice {v:Value} {t:TypeId} {xs:List α} {S:nL} {w:World} (hok:w.ownsRow 0 t E.size v xs.length (E.all xs)) (hS: ∀b,v.ownBlock=some b->S b):(E.sl v xs).p S w:=by
  rcases hok.2 with ⟨e,e0⟩|⟨g,cap,cur,e,_⟩
  .have:xs=[]:=F7 e0;subst this;exact⟨none,0,e,λk x hk=>by simp at hk⟩
  .subst e;refine⟨_,cap,rfl,λk x hk=>⟨g,0,E.cells x,rfl,hS g rfl,λj u hj=>?_,rfl⟩⟩;have hlt:k<xs.length:=(F3.1 hk).1;have hj':=(F3.1 hj).1;rw[E.len]at hj';show w.cell? ⟨g,0+k*E.size+j,none⟩=some u;rw[C7,World.ownsRow.cellAt hok _ (by have:(k+1)*E.size<=xs.length*E.size:=C8 _ hlt;rw[C5,C6]at this;omega)];exact E.all_get hk hj
def Lends (L:List bK)(G:List Fact):Prop:= ∀S w,(∀c∈L,c.ok w)->(∀c∈L,∀b,c.blk=some b->S b)->All G S w
theorem lG:Lends [] []:=λ_ _ _ _ g hg=>by simp at hg
theorem pH{v:Value}{t:TypeId}{xs:List α}{L:List bK}{G:List Fact}(h:Lends L G):Lends (E.row v t xs::L) (E.sl v xs::G):=λS w a e=>
 All.cons (bR.row_slice (a _ (E8 ..)) λb f=>e _ (E8 ..) b f) (h S w (λc d=>a c (E4 _ d)) λc d=>e c (E4 _ d))
theorem St.lend{Hin L H2:List bK}{S:nL}{w:World}(s:St β (Hin++(L++H2)) S w):St ⟨w,bEy Hin,λb=>S b\/bEy L b⟩ Hin (λb=>S b\/bEy L b) w where
 kept:=pU.refl _ _
 ok:=λc f=>s.ok c (E6 _ f)
 own:=λc f b a=>⟨(s.own c (E6 _ f) b a).1,.inl ⟨c,f,a⟩,λh=>by
  rcases h with h|⟨d,g,e⟩
  .exact(s.own c (E6 _ f) b a).2.2 h
  .exact(E7.1 s.sep).2.2 c f d (E6 _ g) b a e⟩
 sep:=(E7.1 s.sep).1
 W:=λb a=>⟨by
  rcases a with a|⟨d,g,e⟩
  .exact(s.W b a).1
  .exact(s.own d (F2 _ (E6 _ g)) b e).1,.inl a⟩
theorem St.leave'{Hin Hout H1:List bK}{S S' Z:nL}{w w':World}(s:St β (Hin++H1) S w)(s':St ⟨w,bEy Hin,Z⟩ Hout S' w'):St β (Hout++H1) S w':=by
 have sp:=E7.1 s.sep;have hin: ∀b,bEy Hin b->b<w.heap.size/\(β.M b\/β.w.heap.size<=b)/\ ¬S b:=λb ⟨c,a,f⟩=>s.own c (E6 _ a) b f
 have h2: ∀c∈H1,∀b,c.blk=some b->b<w.heap.size/\(β.M b\/β.w.heap.size<=b)/\ ¬S b/\ ¬bEy Hin b:=λc a b f=>by obtain⟨h1,h2,n⟩:=s.own c (F2 _ a) b f;exact⟨h1,h2,n,λ⟨d,k,g⟩=>sp.2.2 d k c a b g f⟩
 refine⟨s.kept.trans s'.kept (λi hi=>(hin i hi).2.1),λc a=>?_,λc a b f=>?_,E7.2 ⟨s'.sep,sp.2.1,λc a d k b f g=>?_⟩,λb f=>⟨l5 (s.W b f).1 s'.kept.size,(s.W b f).2⟩⟩
 .rcases E3.1 a with a|a
  .exact s'.ok c a
  .exact bK.ok_of (s.ok c (F2 _ a)) λb f=>s'.kept.block b (h2 c a b f).1 (h2 c a b f).2.2.2
 .rcases E3.1 a with a|a
  .obtain⟨j,e,m⟩:=s'.own c a b f;refine⟨j,?_,λh=>?_⟩
   .rcases e with e|e
    .exact(hin b e).2.1
    .exact .inr (B1 s.kept.size e)
   .rcases e with e|e
    .exact(hin b e).2.2 h
    .exact absurd (s.W b h).1 (C3.2 e)
  .obtain⟨j,e,m,l⟩:=h2 c a b f;exact⟨l5 j s'.kept.size,e,m⟩
 .obtain⟨j,_,_,l⟩:=h2 d k b g
  rcases (s'.own c a b f).2.1 with e|e
  .exact l e
  .exact absurd j (C3.2 e)
theorem hQ{ι:Type}{ops:Array Oper}{rest:List Oper}{o:Oper}{d:Nat}{f:FuncId}{ars:Array Operand}{ts:Array TypeId}{vs:List Value}{Hin H1 L H2:List bK}{G Pre:List Fact}{val:ι->Value}{Hout:ι->List bK}{post:ι->List Fact}
  (hcf: ∀(args:Array Value) (w:World),(callFunc f args).run P w= .ok (.enter f args) w) (hs:cY P f vs Hin Pre val Hout post) (hw:want ops Γ o=some true) (ho:o.op= .call ⟨.value (.func f),ars,ts⟩) (hd:o.dst=some d) (hn:B2 d n=true)
  (hv:Γ.evs ars.toList=some vs) (hH:pR H Hin H1) (hL:pR H1 L H2) (hG:Lends L G) (hF:bA (G++F) Pre) (ps:ι->Prop) (hp: ∀x S w,All (post x) S w->ps x)
  (k: ∀x,ps x->At β n ((d,val x)::Γ) (Hout x++H1) F (wpList P ops Q rest)):At β n Γ H F (wpList P ops Q (o::rest)):=
 lN hw λa w S f s q=>by unfold I7;rw[run_call hcf ho f hv w,J0];have l:=s.perm hH.perm;have m:=l.perm (hL.perm.append_left Hin);have i:All (G++F) (λb=>S b\/bEy L b) w:=(hG _ w (λc g=>m.ok c (F2 _ (E6 _ g))) (λc g b j=> .inr ⟨c,g,j⟩)).append (All.mono (λ_ h=> .inl h) (λ_ _=>rfl) q);refine(hs _ w m.lend (hF.all _ w i)).mono ?_;rintro e r ⟨x,u,rfl,p,t⟩;show wpList P ops Q rest (a.put o.dst (val x)) r;rw[hd];refine k x (hp x _ _ t) _ _ S (f.put w6 _) (l.leave' p) (All.mono (λ_ h=>h) (λb j=>p.kept.block b (s.W b j).1 (λ⟨c,g,h⟩=>(l.own c (E6 _ g) b h).2.2 j)) q)
theorem jW{f:FuncId}{args:List Value}{Pre:List Fact}{v:Value}(h: ∀S w,(∀b,S b->b<w.heap.size)->All Pre S w->Calls P f args.toArray w λe w'=>e= .returned v/\Below w.heap.size w w'):
  cY P f args [] Pre (λ_:Unit=>v) (λ_=>[]) (λ_=>[]):=λS w s k=>by refine(h S w (λb d=>(s.W b d).1) k).mono ?_;rintro e w' ⟨rfl,d⟩;exact⟨(),S,rfl,⟨pU.of_below _ d,λc i=>by simp at i,λc i=>by simp at i,List.Pairwise.nil,λb a=>⟨l5 (s.W b a).1 d.size,.inl a⟩⟩,λg hg=>by simp at hg⟩
theorem bJ{d:Nat}{k:IntKind}{z z':Int}(hz:z=z')(h:At β n ((d,.int k z')::Γ) H F K):At β n ((d,.int k z)::Γ) H F K:=by rw[hz];exact h
theorem hZ{d:Nat}{v v':Value}(hz:v=v')(h:At β n ((d,v')::Γ) H F K):At β n ((d,v)::Γ) H F K:=by rw[hz];exact h
theorem cG{d:Nat}{t:Bool}(ht:t=true->At β n ((d,.bool true)::Γ) H F K)(hf:t=false->At β n ((d,.bool false)::Γ) H F K):At β n ((d,.bool t)::Γ) H F K:=by
 cases t
 .exact hf rfl
 .exact ht rfl
theorem kQ{z:Int}{k:Nat}(h:z=k)(hk:k<9223372036854775808):IntKind.i64.wrap z=k:=by subst h;simp only[J5,J6,J7];simp;omega
theorem yW{z:Int}(h1: -9223372036854775808<=z)(h2:z<9223372036854775808):IntKind.i64.wrap z=z:=by simp only[J5,J6,J7];simp;omega
def Env.parts(Γ:Env):List (Nat×Operand)->Option (List (Nat×Value))
 |[]=>some []
 |(i,x)::r=>match Γ.ev x,Γ.parts r with
  |some v,some vs=>some ((i,v)::vs)
  |_,_=>none
theorem Fits.parts{a:Act}(h:Fits n Γ a): ∀{ps:List (Nat×Operand)} {vs:List (Nat×Value)},Γ.parts ps=some vs->ps.map (λp=>(p.1,a.eval p.2))=vs
 |[],vs,hx=>by simp[Env.parts]at hx;simp[hx]
 |(i,x)::r,vs,hx=>by
  unfold Env.parts at hx
  cases b:Γ.ev x with
  |none=>simp[b]at hx
  |some v=>
   cases hr:Γ.parts r with
   |none=>simp[b,hr]at hx
   |some us=>
    simp[b,hr]at hx;subst hx;simp[h.ev b,h.parts hr]
theorem bE{o:Oper}{t:TypeId}{ps:Array (Nat×Operand)}{vs:List (Nat×Value)}{cs:Array Value}(ho:o.op= .build t ps)(hv:Γ.parts ps.toList=some vs)(hb:P.built t vs=some cs):Sti P β n Γ H F o (.agg cs):=λa w S f s k=>by
 have b:=f.parts hv;have:(ps.map λ(i,x)=>(i,a.eval x)).toList=vs:=by rw[Array.toList_map];exact b
 unfold execOp;simp only[ho];rw[G9,run_build w t _ cs (by rw[this];exact hb)];rfl
theorem j3{o:Oper}{t:TypeId}{ps:Array (Nat×Operand)}{vs:List (Nat×Value)}{cs:Array Value}(hb:P.built t vs=some cs)(ho:o.op= .build t ps:=by exact rfl)(hv:Γ.parts ps.toList=some vs:=by exact rfl):Sti P β n Γ H F o (.agg cs):=bE ho hv hb
theorem bH{ops:Array Oper}{rest:List Oper}{o:Oper}{d:Nat}{t:TypeId}{z:Value}{cs:List Value}(hw:want ops Γ o=some true)(ho:o.op= .alloc t)(hd:o.dst=some d)(hn:B2 d n=true)
  (hz:(P.info? t).bind (·.zero)=some z) (hc:z.cells=cs.toArray) (k: ∀b,At β n ((d,.pointer (some ⟨b,0,none⟩))::Γ) (.obj b (.cells cs.toArray t)::H) F (wpList P ops Q rest)):At β n Γ H F (wpList P ops Q (o::rest)):=
 lN hw λa w S f s e=>by
  have hr:(execOp a.eval o).run P w= .ok (.value (.pointer (some ⟨w.heap.size,0,none⟩))) (w.alloc (.cells cs.toArray t)):=by
   cases hi:P.info? t with
   |none=>simp[hi]at hz
   |some i=>
    simp[hi]at hz;have c:(zeroValue t).run P w= .ok z w:=by simp[zeroValue,typeInfo,hi,hz]
    unfold execOp;simp only[ho,Instr.alloc,G9,c,H6,newVar,newRow,hc];rfl
  unfold I7;rw[hr,I8,hd];exact k _ _ _ S (f.put w6 _) (s.alloc _) (All.alloc s e _)
theorem j1{ops:Array Oper}{rest:List Oper}{o:Oper}{d:Nat}{t:TypeId}{z:Value}{cs:List Value}(hz:(P.info? t).bind (·.zero)=some z)(k: ∀b,At β n ((d,.pointer (some ⟨b,0,none⟩))::Γ) (.obj b (.cells cs.toArray t)::H) F (wpList P ops Q rest))(hw:want ops Γ o=some true:=by exact rfl)(ho:o.op= .alloc t:=by exact rfl)(hd:o.dst=some d:=by exact rfl)(hn:Nat.blt d n=true:=by exact rfl)(hc:z.cells=cs.toArray:=by exact rfl):At β n Γ H F (wpList P ops Q (o::rest)):=bH hw ho hd hn hz hc k
theorem bU{b:Nat}{t:TypeId}{xs:List α}{H':List bK}{cs:List Value}(hH:cT H (.obj b (.cells cs.toArray t)) H')(hcs:cs=E.all xs):dD β H F E (some ⟨b,0,none⟩) xs:=λw S s _ i x hi=>by
 have h:w.heap[b]?=some (.cells cs.toArray t):=s.ok _ hH.mem;refine⟨⟨b,0,rfl⟩,λj u a=>?_⟩;show w.cell? ⟨b,0+i*E.size+j,none⟩=some u;unfold D0;rw[h,hcs];have:=E.all_get hi a
 simpa using this
theorem fU(hT:gA P T){o:Oper}{t e b off m k:Nat}{x i:Operand}{kk:IntKind}{z:Int}{sz:Nat}{ei:TI}(ho:o.op= .indexAddr t x i)(hx:Γ.ev x=some (.pointer (some ⟨b,off,none⟩)))(hi:Γ.ev i=some (.int kk z))
  (ht:T.get t=some ⟨.array m e,sz⟩) (he:T.get e=some ei) (hz:z=(k:Nat)) (hk:k<m):Sti P β n Γ H F o (.pointer (some ⟨b,off+k*ei.size,none⟩)):=λa w S f s _=>by
 subst hz;have c:(⟨b,off,none⟩:Addr).add (k*ei.size)=⟨b,off+k*ei.size,none⟩:=H5 _ _ _
 have h0:(0:Int)<=(k:Int)/\(k:Int)<(m:Int):=⟨l7,l7⟩
 unfold execOp;simp only[ho,f.ev hx,f.ev hi,I1,H8,asIntOf,G9,H3,H6,hT.array ht,h0,and_self,if_true,hT.size he,J4,c]
end
theorem bA.sub{F:List Fact}: ∀{G:List Fact},(∀g∈G,g∈F)->bA F G
 |[],_=>trivial
 |g::_,h=>⟨Has.of (h g (E8 ..)),bA.sub λx hx=>h x (E4 _ hx)⟩
theorem bA.self{F:List Fact}:bA F F:=bA.sub λ_ h=>h
theorem yZ{b:Bool}(h:(!b)=true):b=false:=by cases b<;>simp_all
theorem mT{b:Bool}(h:(!b)=false):b=true:=by cases b<;>simp_all
section
variable {P : Program} {β : fS} {n : Nat} {Γ : Env} {H : List bK} {F : List Fact} {Q : Exit -> Act -> World -> Prop} {K : Act -> World -> Prop} {T : Tab} {α : Type} {E : Flat α}
theorem bYo{c:Code}(k:Nat)(h:At β n Γ H F (E1 P c Q k)):At β n Γ H F ((E0 c).wp P Q):=λa w S f s b=>wp_loop_rounds k (h a w S f s b)
theorem oY{c:Code}{k:Nat}(h:At β n Γ H F (c.wp P (Exit.then (E1 P c Q k) Q))):At β n Γ H F (E1 P c Q (k+1)):=λa w S f s b=>by rw[rounds_succ];exact h a w S f s b
theorem uL{A:Option Addr}{t:TypeId}{m cap:Nat}{xs:List α}{H':List bK}(hH:cT H (E.row (.slice A m cap) t xs) H')(hm:0<xs.length)(h: ∀g,A=some ⟨g,0,none⟩->At β n Γ H F K):At β n Γ H F K:=bRg hH λ_ ⟨c,a,e,b⟩=>by
 injection e with e1 e2 e3
 obtain⟨g,hg⟩:=b hm;exact h g (e1.trans hg)
theorem gB(hT:gA P T){o:Oper}{t e b off l c k:Nat}{x i:Operand}{kk:IntKind}{z:Int}{sz:Nat}{ei:TI}(ho:o.op= .indexAddr t x i)(hx:Γ.ev x=some (.slice (some ⟨b,off,none⟩) l c))(hi:Γ.ev i=some (.int kk z))
  (ht:T.get t=some ⟨.slice e,sz⟩) (he:T.get e=some ei) (hz:z=(k:Nat)) (hk:k<l):Sti P β n Γ H F o (.pointer (some ⟨b,off+k*ei.size,none⟩)):=λa w S f s _=>by
 subst hz;have d:(⟨b,off,none⟩:Addr).add (k*ei.size)=⟨b,off+k*ei.size,none⟩:=H5 _ _ _
 have h0:(0:Int)<=(k:Int)/\(k:Int)<(l:Int):=⟨l7,l7⟩
 unfold execOp;simp only[ho,f.ev hx,f.ev hi,I1,asIntOf,G9,H3,H6,hT.slice ht w,h0,and_self,if_true,hT.size he,J4,d]
theorem kD{ops:Array Oper}{rest:List Oper}{o:Oper}{d:Nat}{t e:TypeId}{x:Operand}{v:Value}{ie:TypeInfo}{z:Value}{cs:List Value}(hw:want ops Γ o=some true)(ho:o.op= .buildSlice t 1 #[(0,x)])(hd:o.dst=some d)(hn:B2 d n=true)
  (hx:Γ.ev x=some v) (hu:P.underlying t=some (.slice e)) (hie:P.info? e=some ie) (hz:ie.zero=some z) (hs:ie.size<=16777216) (hp:0<ie.size) (hf:Instr.fill (λi=>some (i*ie.size,ie.size)) ((Array.range (1*ie.size)).map (z.cells[· %z.cells.size]!)) [(0,v)]=some cs.toArray)
  (k: ∀b,At β n ((d,.slice (some ⟨b,0,none⟩) 1 1)::Γ) (.obj b (.cells cs.toArray e)::H) F (wpList P ops Q rest)):At β n Γ H F (wpList P ops Q (o::rest)):=
 bDh (m:=1) (parts:= #[(0,x)]) (e:=e) (cs:=cs) hw ho hd hn (λa w f=>by
  have:=run_buildSlice (P:=P) w t e 1 #[(0,a.eval x)] cs.toArray ie z hu hie hz l7 l7 (by rw[f.ev hx];exact hf)
  simpa using this) k
end
section
variable {P : Program} {β : fS} {n : Nat} {Γ : Env} {H : List bK} {F : List Fact} {Q : Exit -> Act -> World -> Prop} {K : Act -> World -> Prop} {T : Tab} {ops : Array Oper} {rest : List Oper} {o : Oper} {d : Nat} {v : Value}
theorem sp(hT:gA P T)(k:At β n ((d,v)::Γ) H F (wpList P ops Q rest))(hw:want ops Γ o=some true:=by exact rfl)(hd:o.dst=some d:=by exact rfl)(hn:Nat.blt d n=true:=by exact rfl)(h:rG T Γ o.op=some v:=by exact rfl):
  At β n Γ H F (wpList P ops Q (o::rest)):=bRz hw hd hn (jY hT h) k
theorem ss(h:Sti P β n Γ H F o v)(k:At β n ((d,v)::Γ) H F (wpList P ops Q rest))(hw:want ops Γ o=some true:=by exact rfl)(hd:o.dst=some d:=by exact rfl)(hn:Nat.blt d n=true:=by exact rfl):
  At β n Γ H F (wpList P ops Q (o::rest)):=bRz hw hd hn h k
theorem sk(k:At β n ((d,undef)::Γ) H F (wpList P ops Q rest))(hw:want ops Γ o=some false:=by exact rfl)(hd:o.dst=some d:=by exact rfl)(hn:Nat.blt d n=true:=by exact rfl):
  At β n Γ H F (wpList P ops Q (o::rest)):=bSo hw hd hn k
theorem sp2(hT:gA P T){o2:Oper}{d2:Nat}{v2:Value}(k:At β n ((d2,v2)::(d,v)::Γ) H F (wpList P ops Q rest))(w0:want ops (Γ) o=some true:=by exact rfl)(e0:o.dst=some d:=by exact rfl)(l0:Nat.blt d n=true:=by exact rfl)(p0:rG T (Γ) o.op=some v:=by exact rfl)(w1:want ops ((d,v)::Γ) o2=some true:=by exact rfl)(e1:o2.dst=some d2:=by exact rfl)(l1:Nat.blt d2 n=true:=by exact rfl)(p1:rG T ((d,v)::Γ) o2.op=some v2:=by exact rfl):
  At β n Γ H F (wpList P ops Q (o::o2::rest)):=sp hT (sp hT (k) w1 e1 l1 p1) w0 e0 l0 p0
theorem sk2{o2:Oper}{d2:Nat}(k:At β n ((d2,undef)::(d,undef)::Γ) H F (wpList P ops Q rest))(w0:want ops (Γ) o=some false:=by exact rfl)(e0:o.dst=some d:=by exact rfl)(l0:Nat.blt d n=true:=by exact rfl)(w1:want ops ((d,undef)::Γ) o2=some false:=by exact rfl)(e1:o2.dst=some d2:=by exact rfl)(l1:Nat.blt d2 n=true:=by exact rfl):
  At β n Γ H F (wpList P ops Q (o::o2::rest)):=sk (sk (k) w1 e1 l1) w0 e0 l0
theorem sp3(hT:gA P T){o2 o3:Oper}{d2 d3:Nat}{v2 v3:Value}(k:At β n ((d3,v3)::(d2,v2)::(d,v)::Γ) H F (wpList P ops Q rest))(w0:want ops (Γ) o=some true:=by exact rfl)(e0:o.dst=some d:=by exact rfl)(l0:Nat.blt d n=true:=by exact rfl)(p0:rG T (Γ) o.op=some v:=by exact rfl)(w1:want ops ((d,v)::Γ) o2=some true:=by exact rfl)(e1:o2.dst=some d2:=by exact rfl)(l1:Nat.blt d2 n=true:=by exact rfl)(p1:rG T ((d,v)::Γ) o2.op=some v2:=by exact rfl)(w2:want ops ((d2,v2)::(d,v)::Γ) o3=some true:=by exact rfl)(e2:o3.dst=some d3:=by exact rfl)(l2:Nat.blt d3 n=true:=by exact rfl)(p2:rG T ((d2,v2)::(d,v)::Γ) o3.op=some v3:=by exact rfl):
  At β n Γ H F (wpList P ops Q (o::o2::o3::rest)):=sp hT (sp hT (sp hT (k) w2 e2 l2 p2) w1 e1 l1 p1) w0 e0 l0 p0
theorem sk3{o2 o3:Oper}{d2 d3:Nat}(k:At β n ((d3,undef)::(d2,undef)::(d,undef)::Γ) H F (wpList P ops Q rest))(w0:want ops (Γ) o=some false:=by exact rfl)(e0:o.dst=some d:=by exact rfl)(l0:Nat.blt d n=true:=by exact rfl)(w1:want ops ((d,undef)::Γ) o2=some false:=by exact rfl)(e1:o2.dst=some d2:=by exact rfl)(l1:Nat.blt d2 n=true:=by exact rfl)(w2:want ops ((d2,undef)::(d,undef)::Γ) o3=some false:=by exact rfl)(e2:o3.dst=some d3:=by exact rfl)(l2:Nat.blt d3 n=true:=by exact rfl):
  At β n Γ H F (wpList P ops Q (o::o2::o3::rest)):=sk (sk (sk (k) w2 e2 l2) w1 e1 l1) w0 e0 l0
theorem sp4(hT:gA P T){o2 o3 o4:Oper}{d2 d3 d4:Nat}{v2 v3 v4:Value}(k:At β n ((d4,v4)::(d3,v3)::(d2,v2)::(d,v)::Γ) H F (wpList P ops Q rest))(w0:want ops (Γ) o=some true:=by exact rfl)(e0:o.dst=some d:=by exact rfl)(l0:Nat.blt d n=true:=by exact rfl)(p0:rG T (Γ) o.op=some v:=by exact rfl)(w1:want ops ((d,v)::Γ) o2=some true:=by exact rfl)(e1:o2.dst=some d2:=by exact rfl)(l1:Nat.blt d2 n=true:=by exact rfl)(p1:rG T ((d,v)::Γ) o2.op=some v2:=by exact rfl)(w2:want ops ((d2,v2)::(d,v)::Γ) o3=some true:=by exact rfl)(e2:o3.dst=some d3:=by exact rfl)(l2:Nat.blt d3 n=true:=by exact rfl)(p2:rG T ((d2,v2)::(d,v)::Γ) o3.op=some v3:=by exact rfl)(w3:want ops ((d3,v3)::(d2,v2)::(d,v)::Γ) o4=some true:=by exact rfl)(e3:o4.dst=some d4:=by exact rfl)(l3:Nat.blt d4 n=true:=by exact rfl)(p3:rG T ((d3,v3)::(d2,v2)::(d,v)::Γ) o4.op=some v4:=by exact rfl):
  At β n Γ H F (wpList P ops Q (o::o2::o3::o4::rest)):=sp hT (sp hT (sp hT (sp hT (k) w3 e3 l3 p3) w2 e2 l2 p2) w1 e1 l1 p1) w0 e0 l0 p0
theorem sk4{o2 o3 o4:Oper}{d2 d3 d4:Nat}(k:At β n ((d4,undef)::(d3,undef)::(d2,undef)::(d,undef)::Γ) H F (wpList P ops Q rest))(w0:want ops (Γ) o=some false:=by exact rfl)(e0:o.dst=some d:=by exact rfl)(l0:Nat.blt d n=true:=by exact rfl)(w1:want ops ((d,undef)::Γ) o2=some false:=by exact rfl)(e1:o2.dst=some d2:=by exact rfl)(l1:Nat.blt d2 n=true:=by exact rfl)(w2:want ops ((d2,undef)::(d,undef)::Γ) o3=some false:=by exact rfl)(e2:o3.dst=some d3:=by exact rfl)(l2:Nat.blt d3 n=true:=by exact rfl)(w3:want ops ((d3,undef)::(d2,undef)::(d,undef)::Γ) o4=some false:=by exact rfl)(e3:o4.dst=some d4:=by exact rfl)(l3:Nat.blt d4 n=true:=by exact rfl):
  At β n Γ H F (wpList P ops Q (o::o2::o3::o4::rest)):=sk (sk (sk (sk (k) w3 e3 l3) w2 e2 l2) w1 e1 l1) w0 e0 l0
theorem kT1{c0 c1:bK}{l:List bK}:cT (c0::c1::l) c1 (c0::l):=cT.tail (cT.head)
theorem kT2{c0 c1 c2:bK}{l:List bK}:cT (c0::c1::c2::l) c2 (c0::c1::l):=cT.tail (cT.tail (cT.head))
theorem kT3{c0 c1 c2 c3:bK}{l:List bK}:cT (c0::c1::c2::c3::l) c3 (c0::c1::c2::l):=cT.tail (cT.tail (cT.tail (cT.head)))
theorem kT4{c0 c1 c2 c3 c4:bK}{l:List bK}:cT (c0::c1::c2::c3::c4::l) c4 (c0::c1::c2::c3::l):=cT.tail (cT.tail (cT.tail (cT.tail (cT.head))))
theorem kT5{c0 c1 c2 c3 c4 c5:bK}{l:List bK}:cT (c0::c1::c2::c3::c4::c5::l) c5 (c0::c1::c2::c3::c4::l):=cT.tail (cT.tail (cT.tail (cT.tail (cT.tail (cT.head)))))
theorem kT6{c0 c1 c2 c3 c4 c5 c6:bK}{l:List bK}:cT (c0::c1::c2::c3::c4::c5::c6::l) c6 (c0::c1::c2::c3::c4::c5::l):=cT.tail (cT.tail (cT.tail (cT.tail (cT.tail (cT.tail (cT.head))))))
theorem kT7{c0 c1 c2 c3 c4 c5 c6 c7:bK}{l:List bK}:cT (c0::c1::c2::c3::c4::c5::c6::c7::l) c7 (c0::c1::c2::c3::c4::c5::c6::l):=cT.tail (cT.tail (cT.tail (cT.tail (cT.tail (cT.tail (cT.tail (cT.head)))))))
theorem Sel.c0{c0:bK}{l R:List bK}(k:Sel (l) R):Sel (c0::l) (c0::R):= .cons .head k
theorem pR.c0{c0:bK}{l R X:List bK}(k:pR (l) R X):pR (c0::l) (c0::R) X:= .cons .head k
theorem Sel.c1{c0 c1:bK}{l R:List bK}(k:Sel (c0::l) R):Sel (c0::c1::l) (c1::R):= .cons kT1 k
theorem pR.c1{c0 c1:bK}{l R X:List bK}(k:pR (c0::l) R X):pR (c0::c1::l) (c1::R) X:= .cons kT1 k
theorem Sel.c2{c0 c1 c2:bK}{l R:List bK}(k:Sel (c0::c1::l) R):Sel (c0::c1::c2::l) (c2::R):= .cons kT2 k
theorem pR.c2{c0 c1 c2:bK}{l R X:List bK}(k:pR (c0::c1::l) R X):pR (c0::c1::c2::l) (c2::R) X:= .cons kT2 k
theorem Sel.c3{c0 c1 c2 c3:bK}{l R:List bK}(k:Sel (c0::c1::c2::l) R):Sel (c0::c1::c2::c3::l) (c3::R):= .cons kT3 k
theorem pR.c3{c0 c1 c2 c3:bK}{l R X:List bK}(k:pR (c0::c1::c2::l) R X):pR (c0::c1::c2::c3::l) (c3::R) X:= .cons kT3 k
theorem Sel.c4{c0 c1 c2 c3 c4:bK}{l R:List bK}(k:Sel (c0::c1::c2::c3::l) R):Sel (c0::c1::c2::c3::c4::l) (c4::R):= .cons kT4 k
theorem pR.c4{c0 c1 c2 c3 c4:bK}{l R X:List bK}(k:pR (c0::c1::c2::c3::l) R X):pR (c0::c1::c2::c3::c4::l) (c4::R) X:= .cons kT4 k
theorem Sel.c5{c0 c1 c2 c3 c4 c5:bK}{l R:List bK}(k:Sel (c0::c1::c2::c3::c4::l) R):Sel (c0::c1::c2::c3::c4::c5::l) (c5::R):= .cons kT5 k
theorem pR.c5{c0 c1 c2 c3 c4 c5:bK}{l R X:List bK}(k:pR (c0::c1::c2::c3::c4::l) R X):pR (c0::c1::c2::c3::c4::c5::l) (c5::R) X:= .cons kT5 k
theorem Sel.c6{c0 c1 c2 c3 c4 c5 c6:bK}{l R:List bK}(k:Sel (c0::c1::c2::c3::c4::c5::l) R):Sel (c0::c1::c2::c3::c4::c5::c6::l) (c6::R):= .cons kT6 k
theorem pR.c6{c0 c1 c2 c3 c4 c5 c6:bK}{l R X:List bK}(k:pR (c0::c1::c2::c3::c4::c5::l) R X):pR (c0::c1::c2::c3::c4::c5::c6::l) (c6::R) X:= .cons kT6 k
theorem Sel.c7{c0 c1 c2 c3 c4 c5 c6 c7:bK}{l R:List bK}(k:Sel (c0::c1::c2::c3::c4::c5::c6::l) R):Sel (c0::c1::c2::c3::c4::c5::c6::c7::l) (c7::R):= .cons kT7 k
theorem pR.c7{c0 c1 c2 c3 c4 c5 c6 c7:bK}{l R X:List bK}(k:pR (c0::c1::c2::c3::c4::c5::c6::l) R X):pR (c0::c1::c2::c3::c4::c5::c6::c7::l) (c7::R) X:= .cons kT7 k
theorem kT8{c0 c1 c2 c3 c4 c5 c6 c7 c8:bK}{l:List bK}:cT (c0::c1::c2::c3::c4::c5::c6::c7::c8::l) c8 (c0::c1::c2::c3::c4::c5::c6::c7::l):=cT.tail (cT.tail (cT.tail (cT.tail (cT.tail (cT.tail (cT.tail (cT.tail (cT.head))))))))
theorem kT9{c0 c1 c2 c3 c4 c5 c6 c7 c8 c9:bK}{l:List bK}:cT (c0::c1::c2::c3::c4::c5::c6::c7::c8::c9::l) c9 (c0::c1::c2::c3::c4::c5::c6::c7::c8::l):=cT.tail (cT.tail (cT.tail (cT.tail (cT.tail (cT.tail (cT.tail (cT.tail (cT.tail (cT.head)))))))))
theorem bKz{c0 c1 c2 c3 c4 c5 c6 c7 c8 c9 c10:bK}{l:List bK}:cT (c0::c1::c2::c3::c4::c5::c6::c7::c8::c9::c10::l) c10 (c0::c1::c2::c3::c4::c5::c6::c7::c8::c9::l):=cT.tail (cT.tail (cT.tail (cT.tail (cT.tail (cT.tail (cT.tail (cT.tail (cT.tail (cT.tail (cT.head))))))))))
theorem bLt{c0 c1 c2 c3 c4 c5 c6 c7 c8 c9 c10 c11:bK}{l:List bK}:cT (c0::c1::c2::c3::c4::c5::c6::c7::c8::c9::c10::c11::l) c11 (c0::c1::c2::c3::c4::c5::c6::c7::c8::c9::c10::l):=cT.tail (cT.tail (cT.tail (cT.tail (cT.tail (cT.tail (cT.tail (cT.tail (cT.tail (cT.tail (cT.tail (cT.head)))))))))))
theorem bMg{c0 c1 c2 c3 c4 c5 c6 c7 c8 c9 c10 c11 c12:bK}{l:List bK}:cT (c0::c1::c2::c3::c4::c5::c6::c7::c8::c9::c10::c11::c12::l) c12 (c0::c1::c2::c3::c4::c5::c6::c7::c8::c9::c10::c11::l):=cT.tail (cT.tail (cT.tail (cT.tail (cT.tail (cT.tail (cT.tail (cT.tail (cT.tail (cT.tail (cT.tail (cT.tail (cT.head))))))))))))
theorem bLn{c0 c1 c2 c3 c4 c5 c6 c7 c8 c9 c10 c11 c12 c13:bK}{l:List bK}:cT (c0::c1::c2::c3::c4::c5::c6::c7::c8::c9::c10::c11::c12::c13::l) c13 (c0::c1::c2::c3::c4::c5::c6::c7::c8::c9::c10::c11::c12::l):=cT.tail (cT.tail (cT.tail (cT.tail (cT.tail (cT.tail (cT.tail (cT.tail (cT.tail (cT.tail (cT.tail (cT.tail (cT.tail (cT.head)))))))))))))
theorem mT0{α:Type}{a0:α}{l:List α}:a0∈a0::l:= .head _
theorem mT1{α:Type}{a0 a1:α}{l:List α}:a1∈a0::a1::l:= .tail _ (.head _)
theorem mT2{α:Type}{a0 a1 a2:α}{l:List α}:a2∈a0::a1::a2::l:= .tail _ (.tail _ (.head _))
theorem mT3{α:Type}{a0 a1 a2 a3:α}{l:List α}:a3∈a0::a1::a2::a3::l:= .tail _ (.tail _ (.tail _ (.head _)))
theorem mT4{α:Type}{a0 a1 a2 a3 a4:α}{l:List α}:a4∈a0::a1::a2::a3::a4::l:= tQ4 (.head _)
theorem mT5{α:Type}{a0 a1 a2 a3 a4 a5:α}{l:List α}:a5∈a0::a1::a2::a3::a4::a5::l:= tQ4 (.tail _ (.head _))
theorem mT6{α:Type}{a0 a1 a2 a3 a4 a5 a6:α}{l:List α}:a6∈a0::a1::a2::a3::a4::a5::a6::l:= tQ4 (.tail _ (.tail _ (.head _)))
theorem mT7{α:Type}{a0 a1 a2 a3 a4 a5 a6 a7:α}{l:List α}:a7∈a0::a1::a2::a3::a4::a5::a6::a7::l:= tQ4 (.tail _ (.tail _ (.tail _ (.head _))))
theorem mT8{α:Type}{a0 a1 a2 a3 a4 a5 a6 a7 a8:α}{l:List α}:a8∈a0::a1::a2::a3::a4::a5::a6::a7::a8::l:= tQ4 (tQ4 (.head _))
theorem mT9{α:Type}{a0 a1 a2 a3 a4 a5 a6 a7 a8 a9:α}{l:List α}:a9∈a0::a1::a2::a3::a4::a5::a6::a7::a8::a9::l:= tQ4 (tQ4 (.tail _ (.head _)))
theorem qW{α:Type}{a0 a1 a2 a3 a4 a5 a6 a7 a8 a9 a10:α}{l:List α}:a10∈a0::a1::a2::a3::a4::a5::a6::a7::a8::a9::a10::l:= tQ4 (tQ4 (.tail _ (.tail _ (.head _))))
theorem pY{α:Type}{a0 a1 a2 a3 a4 a5 a6 a7 a8 a9 a10 a11:α}{l:List α}:a11∈a0::a1::a2::a3::a4::a5::a6::a7::a8::a9::a10::a11::l:= tQ4 (tQ4 (.tail _ (.tail _ (.tail _ (.head _)))))
theorem mV{α:Type}{a0 a1 a2 a3 a4 a5 a6 a7 a8 a9 a10 a11 a12:α}{l:List α}:a12∈a0::a1::a2::a3::a4::a5::a6::a7::a8::a9::a10::a11::a12::l:= tQ4 (tQ4 (tQ4 (.head _)))
theorem lM{α:Type}{a0 a1 a2 a3 a4 a5 a6 a7 a8 a9 a10 a11 a12 a13:α}{l:List α}:a13∈a0::a1::a2::a3::a4::a5::a6::a7::a8::a9::a10::a11::a12::a13::l:= tQ4 (tQ4 (tQ4 (.tail _ (.head _))))
theorem wH{α:Type}{a0 a1 a2 a3 a4 a5 a6 a7 a8 a9 a10 a11 a12 a13 a14:α}{l:List α}:a14∈a0::a1::a2::a3::a4::a5::a6::a7::a8::a9::a10::a11::a12::a13::a14::l:= tQ4 (tQ4 (tQ4 (.tail _ (.tail _ (.head _)))))
theorem d7{a0:Fact}{l:List Fact}:Has (a0::l) a0:=Has.of mT0
theorem d8{a0 a1:Fact}{l:List Fact}:Has (a0::a1::l) a1:=Has.of mT1
theorem d9{a0 a1 a2:Fact}{l:List Fact}:Has (a0::a1::a2::l) a2:=Has.of mT2
theorem e6{a0 a1 a2 a3:Fact}{l:List Fact}:Has (a0::a1::a2::a3::l) a3:=Has.of mT3
theorem e7{a0 a1 a2 a3 a4:Fact}{l:List Fact}:Has (a0::a1::a2::a3::a4::l) a4:=Has.of mT4
theorem e8{a0 a1 a2 a3 a4 a5:Fact}{l:List Fact}:Has (a0::a1::a2::a3::a4::a5::l) a5:=Has.of mT5
theorem e9{a0 a1 a2 a3 a4 a5 a6:Fact}{l:List Fact}:Has (a0::a1::a2::a3::a4::a5::a6::l) a6:=Has.of mT6
theorem f3{a0 a1 a2 a3 a4 a5 a6 a7:Fact}{l:List Fact}:Has (a0::a1::a2::a3::a4::a5::a6::a7::l) a7:=Has.of mT7
theorem f5{a0 a1 a2 a3 a4 a5 a6 a7 a8:Fact}{l:List Fact}:Has (a0::a1::a2::a3::a4::a5::a6::a7::a8::l) a8:=Has.of mT8
theorem f6{a0 a1 a2 a3 a4 a5 a6 a7 a8 a9:Fact}{l:List Fact}:Has (a0::a1::a2::a3::a4::a5::a6::a7::a8::a9::l) a9:=Has.of mT9
theorem f7{a0 a1 a2 a3 a4 a5 a6 a7 a8 a9 a10:Fact}{l:List Fact}:Has (a0::a1::a2::a3::a4::a5::a6::a7::a8::a9::a10::l) a10:=Has.of qW
theorem f8{a0 a1 a2 a3 a4 a5 a6 a7 a8 a9 a10 a11:Fact}{l:List Fact}:Has (a0::a1::a2::a3::a4::a5::a6::a7::a8::a9::a10::a11::l) a11:=Has.of pY
theorem f9{a0 a1 a2 a3 a4 a5 a6 a7 a8 a9 a10 a11 a12:Fact}{l:List Fact}:Has (a0::a1::a2::a3::a4::a5::a6::a7::a8::a9::a10::a11::a12::l) a12:=Has.of mV
theorem g0{a0 a1 a2 a3 a4 a5 a6 a7 a8 a9 a10 a11 a12 a13:Fact}{l:List Fact}:Has (a0::a1::a2::a3::a4::a5::a6::a7::a8::a9::a10::a11::a12::a13::l) a13:=Has.of lM
theorem ldO(hT:gA P T){t b q:Nat}{p:Operand}{cs:List Value}{i:TI}(hk:nW β H F b q cs)(ho:o.op= .load t p:=by exact rfl)(hp:Γ.ev p=some (.pointer (some ⟨b,q,none⟩)):=by exact rfl)(ht:T.get t=some i:=by exact rfl)(ha:aggD i.desc=false:=by exact rfl)
  (hv:cs[0]?=some v:=by exact rfl):Sti P β n Γ H F o v:=cV hT hk ho hp ht ha hv
theorem ldN(hT:gA P T){t b q:Nat}{p:Operand}{cs l:List Value}{i:TI}(hk:nW β H F b q cs)(ho:o.op= .load t p:=by exact rfl)(hp:Γ.ev p=some (.pointer (some ⟨b,q,none⟩)):=by exact rfl)(ht:T.get t=some i:=by exact rfl)(ha:aggD i.desc=true:=by exact rfl)
  (hv:cut cs 0 i.size=some l:=by exact rfl):Sti P β n Γ H F o (.agg l.toArray):=fP hT hk ho hp ht ha hv
theorem sto(hT:gA P T){t t' b off:Nat}{p x:Operand}{vs cs cs':List Value}{i:TI}{H':List bK}(hH:cT H (.obj b (.cells cs.toArray t')) H')(k:At β n Γ (.obj b (.cells cs'.toArray t')::H') F (wpList P ops Q rest))(hw:want ops Γ o=some true:=by exact rfl)(ho:o.op= .store t p x:=by exact rfl)(hd:o.dst=none:=by exact rfl)
  (hp:Γ.ev p=some (.pointer (some ⟨b,off,none⟩)):=by exact rfl) (hx:Γ.ev x=some v:=by exact rfl) (ht:T.get t=some i:=by exact rfl) (hc:v.cells=vs.toArray:=by exact rfl) (hs:Nat.beq vs.length i.size=true:=by exact rfl)
  (h1:vs.all (·.oneCell')=true:=by exact rfl) (hput:vY cs off vs=some cs':=by exact rfl):At β n Γ H F (wpList P ops Q (o::rest)):=at_store hT hw ho hd hp hx hH ht hc hs h1 hput k
theorem sr{id:Nat}{l:List Oper}{y:Code}(h:At β n Γ H F (wpList P l.toArray (Exit.then (y.wp P Q) Q) l)):At β n Γ H F ((Code.seq (D8 id l.toArray false) y).wp P Q):=bP (dH h)
theorem nn(h:At β n Γ H F K):At β n Γ H F (wpList P ops (Exit.then K Q) []):=sZ (dB h)
end
section
variable {P : Program} {β : fS} {n : Nat} {Γ : Env} {H : List bK} {F : List Fact} {Q : Exit -> Act -> World -> Prop} {K : Act -> World -> Prop} {T : Tab} {α : Type} {E : Flat α}
theorem Env.Sub.append{Γ:Env}: ∀{Δ Δ':Env},Γ.Sub Δ->Γ.Sub Δ'->Γ.Sub (Δ++Δ')
 |[],_,_,h=>h
 |_::_,_,h,k=>⟨h.1,Env.Sub.append h.2 k⟩
theorem bA.append{F:List Fact}: ∀{G G':List Fact},bA F G->bA F G'->bA F (G++G')
 |[],_,_,h=>h
 |_::_,_,h,k=>⟨h.1,bA.append h.2 k⟩
theorem bA.drop(k:Nat){F:List Fact}:bA F (F.drop k):=bA.sub λ_ h=>List.mem_of_mem_drop h
theorem Sel.self: ∀{H:List bK},Sel H H
 |[]=> .nil
 |_::_=> .cons .head Sel.self
theorem pR.sel{H R H2:List bK}(h:pR H R H2):Sel H (R++H2):=by
 induction h with
 |nil=>exact Sel.self
 |cons h _ ih=>exact .cons h ih
theorem cF{ι:Type}{c:Code}(Δ:Env)(hΔ:Γ.Sub Δ)(G:ι->Env)(HH:ι->List bK){Hr:List bK}(FF:ι->List Fact)(μ:ι->Nat)(x0:ι)(hG:Γ.Sub (G x0))(hH:pR H (HH x0) Hr)(hF:bA F (FF x0))
  (round: ∀x,At β n (G x++Δ) (HH x++Hr) (FF x++F) (c.wp P (Exit.then (Back β n (λx=>G x++Δ) (λx=>HH x++Hr) (λx=>FF x++F) μ (μ x)) Q))):At β n Γ H F ((E0 c).wp P Q):=
 sN (λx=>G x++Δ) (λx=>HH x++Hr) (λx=>FF x++F) μ x0 (hG.append hΔ) hH.sel (hF.append bA.self) round
theorem dA{ι:Type}{G:ι->Env}{Δ:Env}{HH:ι->List bK}{Hr:List bK}{FF:ι->List Fact}{F0:List Fact}{μ:ι->Nat}{m:Nat}(x:ι)(hμ:μ x<m)(hG:Γ.Sub (G x))(hΔ:Γ.Sub Δ)(hH:Sel H (HH x++Hr))(hF:bA F (FF x))(hF0:bA F F0):
  At β n Γ H F (Back β n (λx=>G x++Δ) (λx=>HH x++Hr) (λx=>FF x++F0) μ m):=
 jZ (G:=λx=>G x++Δ) (HH:=λx=>HH x++Hr) (FF:=λx=>FF x++F0) x hμ (hG.append hΔ) hH (hF.append hF0)
theorem at_make{ops:Array Oper}{rest:List Oper}{o:Oper}{d m:Nat}{t e:TypeId}{x y:Operand}{kx ky:IntKind}{i:TypeInfo}{z:Value}{xs:List α}(hw:want ops Γ o=some true)(ho:o.op= .makeSlice t x y)(hd:o.dst=some d)(hn:B2 d n=true)
  (hx:Γ.ev x=some (.int kx (m:Nat))) (hy:Γ.ev y=some (.int ky (m:Nat))) (hu:P.underlying t=some (.slice e)) (hi:P.info? e=some i) (hz:i.zero=some z) (hsize:i.size=E.size) (hb:i.bytes*m<=281474976710656) (hm:m<=maxLen)
  (hxs:(madeCells z.cells (m*E.size)).toList=E.all xs) (hl:xs.length=m) (k: ∀b,At β n ((d,.slice (some ⟨b,0,none⟩) m m)::Γ) (E.row (.slice (some ⟨b,0,none⟩) m m) e xs::H) F (wpList P ops Q rest)):At β n Γ H F (wpList P ops Q (o::rest)):=
 lN hw λa w S f s v=>by
  subst hl;have q:(xs.length:Int)<=9223372036854775807:=by simp[maxLen]at hm;omega
  have r:(i.bytes:Int)*(xs.length:Int)<=281474976710656:=by
   have h:((i.bytes*xs.length:Nat):Int)<=281474976710656:=l7
   rwa[Int.natCast_mul]at h
  have hr:=run_make (P:=P) w t e i z hu hi hz kx ky xs.length xs.length l7 (Int.le_refl _) r q;simp only[J4]at hr
  have p:(execOp a.eval o).run P w= .ok (.value (.slice (some ⟨w.heap.size,0,none⟩) xs.length xs.length)) (w.alloc (.cells (madeCells z.cells (xs.length*i.size)) e)):=by unfold execOp;simp only[ho,f.ev hx,f.ev hy];rw[G9,hr];rfl
  unfold I7;rw[p,I8,hd];have l:=World.ownsRow_lit w (base:=0) (e:=e) (size:=i.size) (madeCells z.cells (xs.length*i.size)) xs.length (C4 _) hm (size_madeCells _ _);have j:=s.alloc (.cells (madeCells z.cells (xs.length*i.size)) e);refine k w.heap.size _ _ S (f.put w6 _) ⟨j.kept,λc g=>?_,λc g b hb=>?_,?_,j.W⟩ (All.alloc s v _)
  .rcases E2.1 g with rfl|g
   .show World.ownsRow _ _ _ _ _ _ _;rw[<-hxs,<-hsize];exact l
   .exact j.ok c (E4 _ g)
  .rcases E2.1 g with rfl|g
   .exact j.own (.obj w.heap.size (.cells (madeCells z.cells (xs.length*i.size)) e)) (E8 ..) b hb
   .exact j.own c (E4 _ g) b hb
  .have u:=E5.1 j.sep;exact E5.2 ⟨λd hd b hb=>u.1 d hd b hb,u.2⟩
end
def bOt:Flat Int where
 size:=1
 cells:=λz=>[.int .i64 z]
 len:=λ_=>rfl
 one:=λx u hu=>by simp at hu;subst hu;rfl
 pos:=m6
end
section
open Go.RowKit Go.ChangeShapes Go.WideShapes
structure Sl (α:Type) where
 I:Option Addr
 cap:Nat
 A:List α
abbrev j8{α:Type}(l:Sl α):Value:= .slice l.I l.A.length l.cap
abbrev k6(z:Int):Value:= .int .i64 z
abbrev k7(z:Int):Value:= .int .u8 z
instance {α : Type} : Inhabited (Sl α) := ⟨none, 0, []⟩
def Sl.v {α:Type}(s:Sl α):Value:= .slice s.I s.A.length s.cap
def Fact.and(f g:Fact):Fact:=⟨λS w=>f.p S w/\g.p S w,λhs ha h=>⟨f.mono hs ha h.1,g.mono hs ha h.2⟩⟩
def Fact.each{α:Type}(xs:List α)(g:α->Fact):Fact:=⟨λS w=> ∀x∈xs,(g x).p S w,λhs ha h x hx=>(g x).mono hs ha (h x hx)⟩
def Fact.true:Fact:=⟨λ_ _=>True,λ_ _ h=>h⟩
section
variable {F : List Fact} {f g : Fact} {α : Type}
theorem Has.left(h:Has F (f.and g)):Has F f:=λS w k=>(h S w k).1
theorem Has.right(h:Has F (f.and g)):Has F g:=λS w k=>(h S w k).2
theorem Has.and(h:Has F f)(k:Has F g):Has F (f.and g):=λS w q=>⟨h S w q,k S w q⟩
theorem Has.each{xs:List α}{g:α->Fact}(h:Has F (Fact.each xs g)){x:α}(hx:x∈xs):Has F (g x):=λS w k=>h S w k x hx
theorem Has.true:Has F Fact.true:=λ_ _ _=>trivial
end
structure Ty (α:Type) where
 E:Flat α
 deep:α->Fact
def Ty.sl {α:Type}(T:Ty α)(s:Sl α):Fact:=(T.E.sl s.v s.A).and (Fact.each s.A T.deep)
section
variable {F : List Fact} {α : Type} {T : Ty α}
theorem Has.cells{s:Sl α}(h:Has F (T.sl s)):Has F (T.E.sl (j8 s) s.A):=h.left
theorem Has.at{s:Sl α}(h:Has F (T.sl s)){k:Nat}{x:α}(hx:s.A[k]?=some x):Has F (T.deep x):=h.right.each (j0 hx)
end
def uA {α H:Type}(enc:TypeId×Value->H)(P:Program)(w:World)(t:TypeId)(cells:α->List Value)(deep:α->Fact):Prop:=
 ∀fuel cs x,DataW.trod enc P w 0 (λ_=>true) true fuel t cs=some x->(∀n∈x.1.weights P t,n<=reachBytes)-> ∃a,cs=cells a/\(deep a).p (λb=>b<w.heap.size) w
section
variable {H : Type} {enc : TypeId × Value -> H} {P : Program} {w : World} {t e : TypeId}
theorem spotOf{a:Addr}{v:Value}(h:w.cell? a=some v):a.spot=none:=by
 unfold D0 at h;split at h
 .cases hs:a.spot with
  |none=>rfl
  |some x=>rw[hs]at h;simp at h
 .cases h
theorem tE{k:IntKind}(hu:P.underlying t=some (.int k)):uA enc P w t (λz:Int=>[.int k z]) (λz=>Fact.pure ((Lit.int k z).wf=true)):=λa c x h _=>by obtain⟨n,e,_,b⟩:=DataW.trod_int hu h;exact⟨n,e,b⟩
theorem opens_string(hu:P.underlying t=some .string):uA enc P w t (λs:ByteArray=>[.string s]) (λs=>Fact.pure (s.size<=140737488355328)):=λa d x h b=>by
 obtain⟨s,e,hx,_⟩:=DataW.trod_string hu h;refine⟨s,e,?_⟩;have:=b s.data.toList.length (by rw[hx];simp only[DataW.weights,List.mem_singleton]);have c:s.data.toList.length=s.size:=by rw[Array.length_toList];rfl
 rw[c]at this;show s.size<=_;exact B1 this m6
theorem bOj{d:DataW H}: ∀{ds:List (DataW H)},d∈ds-> ∀n∈d.weights P e,n∈DataW.weightsAll P e ds
 |[],h,_,_=>by simp at h
 |d0::ds,h,n,hn=>by
  rw[DataW.weightsAll,E3]
  rcases E2.1 h with rfl|h
  .exact .inl hn
  .exact .inr (bOj h n hn)
theorem opens_slice{α:Type} [Inhabited α]{T:Ty α}(hu:P.underlying t=some (.slice e))(hc:P.cellsOf e=T.E.size)(he:uA enc P w e T.E.cells T.deep):
  uA enc P w t (λs:Sl α=>[s.v]) (λs=>(T.sl s).and (Fact.pure (s.A.length*P.bytesOf e<=140737488355328))):=λM X x h L=>by
 rcases Deep.open_slice hu h with ⟨rfl,_⟩|⟨a,len,l,m,n,D,Y,rfl,_,R,_,O,rfl,hi⟩
 .exact⟨⟨none,0,[]⟩,rfl,⟨⟨none,0,rfl,λk x z=>by simp at z⟩,λx hx=>by simp at hx⟩,by show 0*_<=_;omega⟩
 .have Q:len<=m:=by rw[O];simp;exact R
  have C:len*P.bytesOf e<=140737488355328:=by have:=L ((((F8 len).map D).length+((F8 (m-len)).map λj=>D (len+j)).length)*P.bytesOf e) (by simp[DataW.weights,hu]);have h2:len*P.bytesOf e<=(len+(m-len))*P.bytesOf e:=C8 _ l7;simp only[List.length_map,List.length_range]at this;unfold reachBytes at this;omega
  have hel: ∀i,i<len-> ∃q:α,(∀j,j<T.E.size->w.cell? ((a.add (i*T.E.size)).add j)=(T.E.cells q)[j]?)/\(T.deep q).p (λb=>b<w.heap.size) w:=λi c=>by
   obtain⟨W,g,ht⟩:=hi i l7;rw[hc]at g;obtain⟨_,V,K⟩:=World.cells?_some g
   obtain⟨q,hq,U⟩:=he _ _ _ ht (λn hn=>L n (by
    simp only[DataW.weights,hu,E2,E3]
    exact .inr (.inl (bOj (List.mem_map.2 ⟨i,by simpa using c,rfl⟩) n hn))))
   exact⟨q,λj A=>by rw[K j A,hq],U⟩
  obtain⟨f,hf⟩: ∃f:Nat->α,∀i,i<len->(∀j,j<T.E.size->w.cell? ((a.add (i*T.E.size)).add j)=(T.E.cells (f i))[j]?)/\(T.deep (f i)).p (λb=>b<w.heap.size) w:=
   ⟨λi=>if h:i<len then (hel i h).choose else default,λi c=>by simp only[dif_pos c];exact(hel i c).choose_spec⟩
  refine⟨⟨some a,l,(F8 len).map f⟩,by simp[Sl.v],⟨⟨some a,l,rfl,λk q z=>?_⟩,λq hq=>?_⟩,by show((F8 len).map f).length*_<=_;simpa using C⟩
  .have hkl:k<len:=by simpa using (F3.1 z).1
   have hq:q=f k:=by
    have:=(F3.1 z).2
    simpa using this.symm
   subst hq;have hc:=(hf k hkl).1;obtain⟨y,N,r⟩:=a
   have G:r=none:=by
    have h0:=(hf 0 l7).1 0 T.E.pos;have d:0<(T.E.cells (f 0)).length:=by rw[T.E.len];exact T.E.pos
    rw[F1 d,Nat.zero_mul]at h0;have h1:w.cell? ⟨y,N,r⟩=some ((T.E.cells (f 0))[0]):=by simpa[H4]using h0
    exact spotOf h1
   subst G
   have B: ∀o i,(⟨y,o,none⟩:Addr).add i=⟨y,o+i,none⟩:=λo i=>by unfold H4;split<;>simp_all
   refine⟨y,N,T.E.cells (f k),rfl,?_,λj u A=>?_,rfl⟩
   .have d:0<(T.E.cells (f k)).length:=by rw[T.E.len];exact T.E.pos
    have h0:=hc 0 T.E.pos;rw[F1 d,B,B]at h0
    rcases k8 y w.heap.size with d|J
    .exact d
    .simp[D0,D2 J]at h0
   .have I:j<T.E.size:=by
     have:=(F3.1 A).1
     rwa[T.E.len]at this
    have:=hc j I;rw[B,B]at this;exact this.trans A
  .obtain⟨i,c,rfl⟩:=List.mem_map.1 hq;exact(hf i (by simpa using c)).2
def slE (α:Type):Flat (Sl α) where
 size:=1
 cells:=λs=>[.slice s.I s.A.length s.cap]
 len:=λ_=>rfl
 one:=λx u hu=>by simp at hu;subst hu;rfl
 pos:=m6
def Ty.slice{α:Type}(T:Ty α)(b:Nat):Ty (Sl α):=⟨slE α,λs=>(T.sl s).and (Fact.pure (s.A.length*b<=140737488355328))⟩
theorem sM{α:Type} [Inhabited α]{T:Ty α}{b:Nat}(hu:P.underlying t=some (.slice e))(hc:P.cellsOf e=T.E.size)(hb:P.bytesOf e=b)(he:uA enc P w e T.E.cells T.deep):uA enc P w t (T.slice b).E.cells (T.slice b).deep:=by subst hb;exact opens_slice hu hc he
theorem fZ{fs:Array Field}{ds:List (DataW H)}{R:Nat}(hu:P.underlying t=some (.struct fs))(hw: ∀n∈(DataW.agg ds).weights P t,n<=R){j:Nat}{f:Field}(hf:fs[j]?=some f){d:DataW H}(hd:ds[j]?=some d): ∀n∈d.weights P f.type,n<=R:=λn hn=>by
 refine hw n ?_;simp only[DataW.weights,hu];refine DataW.weights_mem_each (j:=j) (t:=f.type) (d:=d) ?_ hd n hn;have:fs.toList[j]?=some f:=by simpa using hf
 simp[this]
theorem uA.arg{α:Type}{cells:α->List Value}{deep:α->Fact}(h:uA enc P w t cells deep){v:Value}{d:DataW H}{p:List MemPlace}(ht:DataW.Trod enc P w 0 (λ_=>true) true t v d p){ts:List TypeId}{ds:List (DataW H)}{j:Nat}
  (hsz:(DataW.weightsEach P ts ds).all (· <=reachBytes)=true) (hj:ts[j]?=some t) (hd:ds[j]?=some d): ∃a,v.cells.toList=cells a/\(deep a).p (λb=>b<w.heap.size) w:=by
 obtain⟨c,hf⟩:=ht
 exact h c _ _ hf λn hn=>by
  have:=E9.1 hsz _ (DataW.weights_mem_each hj hd n hn)
  simpa using this
end
def intTy:Ty Int:=⟨bOt,λz=>Fact.pure ((Lit.int .i64 z).wf=true)⟩
end
section
open Go.RowKit
section
variable {P : Program} {β : fS} {n : Nat} {Γ : Env} {H : List bK} {F : List Fact} {Q : Exit -> Act -> World -> Prop} {K : Act -> World -> Prop} {T : Tab} {α : Type} {E : Flat α}
def heldBlk(v:Value):List α->Option Nat
 |[]=>none
 |_::_=>v.ownBlock
def Flat.held(E:Flat α)(v:Value)(xs:List α):bK:= .gen (heldBlk v xs) λo=> ∃A cap,v= .slice A xs.length cap/\(xs=[]\/ ∃g off cs t fz,A=some ⟨g,off,none⟩/\o=some (.cells cs t fz)/\ ∀j u,(E.all xs)[j]?=some u->cs.toList[off+j]?=some u/\(fz.1<=off+j&&off+j<fz.2)=false)
theorem held_open{w:World}{v:Value}{xs:List α}(h:(E.held v xs).ok w){k:Nat}(hk:k<xs.length): ∃g off cap cs t fz,v= .slice (some ⟨g,off,none⟩) xs.length cap/\(E.held v xs).blk=some g/\w.heap[g]?=some (.cells cs t fz)/\
  ∀j u,(E.all xs)[j]?=some u->cs.toList[off+j]?=some u/\(fz.1<=off+j&&off+j<fz.2)=false:=by
 obtain⟨A,cap,e,h⟩:=h
 rcases h with h|⟨g,off,cs,t,fz,b,a,h⟩
 .subst h;simp at hk
 .subst e;subst b
  cases xs with
  |nil=>simp at hk
  |cons x r=>exact⟨g,off,cap,cs,t,fz,rfl,rfl,a,h⟩
theorem held_reads{w:World}{v:Value}{xs:List α}(h:(E.held v xs).ok w){S:nL}(hS: ∀b,(E.held v xs).blk=some b->S b):(E.sl v xs).p S w:=by
 have h0:=h;obtain⟨A,d,e,_⟩:=h;refine⟨A,d,e,λk x f=>?_⟩;obtain⟨g,a,i,q,t,o,c,n,hh,m⟩:=held_open h0 (F3.1 f).1;rw[e]at c;injection c with c
 subst c;refine⟨g,a,E.cells x,rfl,hS g n,λj u l=>?_,rfl⟩;have:=(m _ _ (E.all_get f l)).1;show w.cell? ⟨g,a+k*E.size+j,none⟩=some u;unfold D0;rw[hh];rw[B8]
 simpa using this
theorem reads_held{A:Option Addr}{m cap:Nat}{xs:List α}{H':List bK}(hH:cT H (E.held (.slice A m cap) xs) H'):dD β H F E A xs:=λw S s _ i x hi=>by
 have h:=held_reads (S:=λ_=>True) (s.ok _ hH.mem) (λ_ _=>trivial);obtain⟨k,j,e,h⟩:=h;obtain⟨b,o,f,d,g,c,a⟩:=h i x hi;injection e with e
 subst e;subst d;have a:f=E.cells x:=a;subst a;exact⟨⟨b,o,rfl⟩,c⟩
theorem gY{ops:Array Oper}{rest:List Oper}{o:Oper}{d:Nat}{x y:Operand}{t e:TypeId}{i:TypeInfo}{z:Value}{by_ c q:Nat}{v:Value}{A:Option Addr}{xs ys:List α}{H':List bK}(hH:cT H (E.row v e xs) H')(hr:dD β H F E A ys)(hg:o.guard=none)
  (ho:o.op= .call {callee:= .builtin .append,args:= #[x,y],argTypes:= #[t,t]}) (hd:o.dst=some d) (hn:B2 d n=true) (hu:P.underlying t=some (.slice e)) (hi:P.info? e=some i) (hz:i.zero=some z) (hsize:i.size=E.size) (hby:i.bytes=by_) (hzs:z.cells.size=E.size)
  (hx:Γ.ev x=some v) (hy:Γ.ev y=some (.slice A q c)) (hq:q=ys.length) (hbytes:(xs.length+ys.length)*by_<=140737488355328) (hpos:0<by_)
  (k: ∀A' cap',At β n ((d,.slice A' (xs++ys).length cap')::Γ) (E.row (.slice A' (xs++ys).length cap') e (xs++ys)::H') F (wpList P ops Q rest)):At β n Γ H F (wpList P ops Q (o::rest)):=by
 by_cases G:0<ys.length
 .exact bBc hH hr hg ho hd hn hu hi hz hsize hby hzs hx hy hq G hbytes hpos k
 .have h0:ys=[]:=F7 l7;subst h0;subst hq;simp only[F9]at k;refine at_rowv hH λA' cap' e=>?_;subst e
  cases A with
  |none=>
   have V:want ops Γ o=some true:=by unfold want;rw[hg]
   refine lN V λa w S f s M=>?_;have m:w.ownsRow 0 e E.size (.slice A' xs.length cap') xs.length (E.all xs):=s.ok _ hH.mem
   have D:(I4 #[t,t] o.type #[.slice A' xs.length cap',.slice none 0 c]).run P w= .ok (.slice A' xs.length cap') w:=by
    rcases m.2 with ⟨e,e0⟩|⟨g,Z,Y,e,_,_,I,_⟩
    .injection e with e1 B e3
     subst e1 e3;rw[B];simp[I4,run_underlying hu,sizeOf,typeInfo,hi,I5,I6]
    .injection e with e1 B e3
     subst e1 e3;simp[I4,run_underlying hu,sizeOf,typeInfo,hi,I5,I6,I,storeCells]
   have C:(execOp a.eval o).run P w= .ok (.value (.slice A' xs.length cap')) w:=by unfold execOp;simp only[ho,resolve,invoke,builtin,G9,H3,H6,List.map_toArray,List.map_cons,List.map_nil,f.ev hx,f.ev hy,List.length_nil,D]
   unfold I7;rw[C,I8,hd];exact k A' cap' _ _ S (f.put w6 _) (s.perm hH.perm) M
  |some ad=>
   intro a w S f s M;have m:w.ownsRow 0 e E.size (.slice A' xs.length cap') xs.length (E.all xs):=s.ok _ hH.mem;have J:xs.length*by_<=140737488355328:=by simpa using hbytes
   have N:xs.length<=maxLen:=by have:xs.length<=xs.length*by_:=C9 _ hpos;simp[maxLen];omega
   refine wpList_append_own_at w hg x y t ho 0 e i z E.size by_ hu hi hz hsize hby hzs E.pos _ xs.length (E.all xs) (f.ev hx) m ad 0 c [] (f.ev hy) m9 (λj u W=>by simp at W) m9 N J (C4 _) ?_;intro O w' l p _ L;rw[F9]at l;have R:=s.perm hH.perm;rw[hd];have U:=R.swap_row (qU p) L l;refine bRg (β:=β) (n:=n) (Γ:=(d,O)::Γ) (H:= .row O e E.size (xs.length+0) (E.all xs)::H') (F:=F) (K:=wpList P ops Q rest) .head (λ_ ⟨A2,r,B,_⟩=>?_) _ _ S (f.put w6 _) U (All.mono (λ_ h=>h) (s.agree (qU p) (λb X e=>(R.own _ (E8 ..) b e.symm).2.2 X)) M);subst B;exact k A2 r
theorem bEd{ops:Array Oper}{rest:List Oper}{o:Oper}{d:Nat}{t e:TypeId}{ie:TypeInfo}(E:Flat α)(hw:want ops Γ o=some true)(ho:o.op= .buildSlice t 0 #[])(hd:o.dst=some d)(hn:B2 d n=true)
  (hu:P.underlying t=some (.slice e)) (hie:P.info? e=some ie)
  (k: ∀b,At β n ((d,.slice (some ⟨b,0,none⟩) 0 0)::Γ) (E.row (.slice (some ⟨b,0,none⟩) 0 0) e []::H) F (wpList P ops Q rest)):At β n Γ H F (wpList P ops Q (o::rest)):=by
 refine bDh (m:=0) (parts:= #[]) (e:=e) (cs:=[]) hw ho hd hn (λa w f=>?_) λb=>?_
 .simp[I0,run_underlying hu,sizeOf,typeInfo,hie,newRow,Instr.fill,Array.range_zero']
 .intro a w S f s p;have i:w.heap[b]?=some (.cells #[] e (0,0)):=s.ok _ (E8 ..);refine k b a w S f ⟨s.kept,λc g=>?_,λc g l h=>?_,?_,s.W⟩ p
  .rcases E2.1 g with rfl|g
   .exact⟨by simp[Flat.all],.inr ⟨b,0,#[],rfl,C4 _,i,B0 _,by simp[maxLen],m9,by simp[Flat.all]⟩⟩
   .exact s.ok c (E4 _ g)
  .rcases E2.1 g with rfl|g
   .exact s.own (.obj b (.cells #[] e)) (E8 ..) l h
   .exact s.own c (E4 _ g) l h
  .have j:=E5.1 s.sep;exact E5.2 ⟨λd hd b h=>j.1 d hd b h,j.2⟩
end
abbrev Bs:=List UInt8
def bs (l:Bs):ByteArray:=⟨l.toArray⟩
theorem mM(l:Bs):(bs l).size=l.length:=rfl
theorem bs_data(l:Bs):(bs l).data.toList=l:=rfl
section
variable {P : Program} {β : fS} {n : Nat} {Γ : Env} {H : List bK} {F : List Fact} {Q : Exit -> Act -> World -> Prop} {K : Act -> World -> Prop} {T : Tab} {α : Type} {E : Flat α}
theorem dJ{o:Oper}{t tt:TypeId}{x y:Operand}{a b:Bs}(ho:o.op= .binOp .add t x y tt)(hx:Γ.ev x=some (.string (bs a)))(hy:Γ.ev y=some (.string (bs b)))(hl:a.length+b.length<=9223372036854775807):Sti P β n Γ H F o (.string (bs (a++b))):=λc w S f s k=>by
 have d: ¬(((bs a).size+(bs b).size:Nat):Int)>IntKind.i64.max:=by rw[mM,mM];simp[IntKind.max,J6,J7];omega
 have e:bs a++bs b=bs (a++b):=by apply ByteArray.ext;simp[bs]
 unfold execOp;simp only[ho,f.ev hx,f.ev hy,eqGuard,binOp,Op.stringOp,if_neg d,e];rfl
theorem fM(hT:gA P T){o:Oper}{t k sz:Nat}{x i:Operand}{kk:IntKind}{z:Int}{a:Bs}{b:UInt8}(ho:o.op= .index t x i)(hx:Γ.ev x=some (.string (bs a)))(hi:Γ.ev i=some (.int kk z))(ht:T.get t=some ⟨.string,sz⟩)(hz:z=(k:Nat))(hb:a[k]?=some b):
  Sti P β n Γ H F o (k7 b.toNat):=λc w S f s _=>by
 subst hz;obtain⟨g,hb⟩:=F3.1 hb
 have hr:=run_index_string (P:=P) w t (bs a) kk (k:Int) (by
  have:=hT.string ht w;obtain⟨d,hu,h⟩:=hT.any ht;cases d<;>simp[TD.of]at h
  exact hu)
 rw[dif_pos ⟨l7,by rw[mM];omega⟩]at hr
 have e:(bs a)[(k:Int).toNat]'(by rw[mM];simpa using g)=b:=by rw[<-hb];simp[bs,ByteArray.getElem_eq_getElem_data]
 unfold execOp;simp only[ho,f.ev hx,f.ev hi];rw[G9,hr,e];rfl
theorem gA.str(hT:gA P T){t sz:Nat}(ht:T.get t=some ⟨.string,sz⟩):P.underlying t=some .string:=by
 obtain⟨d,hu,a⟩:=hT.any ht;cases d<;>simp[TD.of]at a
 exact hu
theorem bCg(hT:gA P T){t sz:Nat}(ht:T.get t=some ⟨.string,sz⟩)(a:Bs)(lo hi mx:Option Value)(w:World):(I2 t (.string (bs a)) lo hi mx).run P w=(Instr.slice t (.string (bs a)) lo hi mx).run P w:=by have hu:=hT.str ht;simp[I2,run_underlying hu]
theorem cAh(hT:gA P T){o:Oper}{t k sz:Nat}{x i:Operand}{kk:IntKind}{z:Int}{a:Bs}(ho:o.op= .slice t x (some i) none none)(hx:Γ.ev x=some (.string (bs a)))(hi:Γ.ev i=some (.int kk z))(ht:T.get t=some ⟨.string,sz⟩)(hz:z=(k:Nat))(hk:k<=a.length):
  Sti P β n Γ H F o (.string (bs (a.drop k))):=λc w S f s _=>by
 subst hz;have hr:=run_slice_string_l (P:=P) w t (bs a) (hT.str ht) kk (k:Int) l7 am0
 have e:(bs a).extract (k:Int).toNat (bs a).size=bs (a.drop k):=by rw[mM];show(ByteArray.mk a.toArray).extract _ _=_;rw[ByteArray.extract_mk,F6 m9];rfl
 unfold execOp;simp only[ho,f.ev hx,J8,J9,f.ev hi];rw[G9,bCg hT ht,hr,e];rfl
theorem bDx(hT:gA P T){o:Oper}{t k sz:Nat}{x i:Operand}{kk:IntKind}{z:Int}{a:Bs}(ho:o.op= .slice t x none (some i) none)(hx:Γ.ev x=some (.string (bs a)))(hi:Γ.ev i=some (.int kk z))(ht:T.get t=some ⟨.string,sz⟩)(hz:z=(k:Nat))(hk:k<=a.length):
  Sti P β n Γ H F o (.string (bs (a.take k))):=λc w S f s _=>by
 subst hz;have hr:=run_slice_string_h (P:=P) w t (bs a) (hT.str ht) kk (k:Int) l7 am0
 have e:(bs a).extract 0 (k:Int).toNat=bs (a.take k):=by show(ByteArray.mk a.toArray).extract _ _=_;rw[ByteArray.extract_mk];rfl
 unfold execOp;simp only[ho,f.ev hx,J8,J9,f.ev hi];rw[G9,bCg hT ht,hr,e];rfl
theorem cS(hT:gA P T){o:Oper}{t j k sz:Nat}{x i i':Operand}{kk kk':IntKind}{z z':Int}{a:Bs}(ho:o.op= .slice t x (some i) (some i') none)(hx:Γ.ev x=some (.string (bs a)))(hi:Γ.ev i=some (.int kk z))(hi':Γ.ev i'=some (.int kk' z'))(ht:T.get t=some ⟨.string,sz⟩)(hz:z=(j:Nat))(hz':z'=(k:Nat))(hj:j<=k)(hk:k<=a.length):
  Sti P β n Γ H F o (.string (bs ((a.drop j).take (k-j)))):=λc w S f s _=>by
 subst hz hz';have hr:=run_slice_string (P:=P) w t (bs a) kk kk' (j:Int) (k:Int) (hT.str ht) l7 l7 am0
 have e:(bs a).extract (j:Int).toNat (k:Int).toNat=bs ((a.drop j).take (k-j)):=by show(ByteArray.mk a.toArray).extract _ _=_;rw[ByteArray.extract_mk];rfl
 unfold execOp;simp only[ho,f.ev hx,J8,f.ev hi,f.ev hi',J9];rw[G9,bCg hT ht,hr,e];rfl
def iS (A:Option Addr)(l size c:Nat):Option Addr:=if c=l then A else A.map (·.add (l*size))
end
section
variable {P : Program} {β : fS} {n : Nat} {Γ : Env} {H : List bK} {F : List Fact} {Q : Exit -> Act -> World -> Prop} {K : Act -> World -> Prop} {T : Tab} {α : Type} {E : Flat α}
theorem at_scope{c:Code}(h:At β n Γ H F (c.wp P (Exit.noGoto Q))):At β n Γ H F ((Code.scope c).wp P Q):=λa w S f s k=>wp_scope_straight (h a w S f s k)
theorem at_label{l:Nat}(h:At β n Γ H F (Q .normal)):At β n Γ H F ((Code.label l).wp P Q):=λa w S f s k=>wp_label (h a w S f s k)
theorem n_scope(h:At β n Γ H F (Q .normal)):At β n Γ H F (Exit.noGoto Q .normal):=h
theorem r_scope(h:At β n Γ H F (Q .ret)):At β n Γ H F (Exit.noGoto Q .ret):=h
theorem x_scope{i:Nat}(h:At β n Γ H F (Q (.exit i))):At β n Γ H F (Exit.noGoto Q (.exit i)):=h
theorem run_callv{o:Oper}{f:FuncId}{x:Operand}{first cap:Array Value}{ars:Array Operand}{ts:Array TypeId}{vs:List Value}{a:Act}(hcf: ∀(args:Array Value) (w:World),(callFunc f args).run P w= .ok (.enter f args) w)(ho:o.op= .call ⟨.value x,ars,ts⟩)(fi:Fits n Γ a)
  (hx:Γ.ev x=some (.func (.func f) first cap)) (hv:Γ.evs ars.toList=some vs) (w:World):(execOp a.eval o).run P w= .ok (.enter f (first++vs.toArray++cap)) w:=by
 have b:ars.map a.eval=vs.toArray:=by
  apply D4
  simpa using fi.evs hv
 unfold execOp;simp only[ho,resolve,fi.ev hx,Deferred.ofValue,G9,H3,H6,invoke];simp[b,hcf]
theorem jA{ι:Type}{ops:Array Oper}{rest:List Oper}{o:Oper}{d:Nat}{f:FuncId}{x:Operand}{first cap:Array Value}{ars:Array Operand}{ts:Array TypeId}{vs all:List Value}{Hin H2:List bK}{Pre:List Fact}{val:ι->Value}{Hout:ι->List bK}{post:ι->List Fact}
  (hcf: ∀(args:Array Value) (w:World),(callFunc f args).run P w= .ok (.enter f args) w) (hs:cY P f all Hin Pre val Hout post) (hw:want ops Γ o=some true) (ho:o.op= .call ⟨.value x,ars,ts⟩) (hx:Γ.ev x=some (.func (.func f) first cap)) (hd:o.dst=some d) (hn:B2 d n=true)
  (hv:Γ.evs ars.toList=some vs) (hall:first.toList++vs++cap.toList=all) (hH:pR H Hin H2) (hF:bA F Pre) (k: ∀x,At β n ((d,val x)::Γ) (Hout x++H2) (post x++F) (wpList P ops Q rest)):At β n Γ H F (wpList P ops Q (o::rest)):=
 lN hw λa w S f s g=>by
  unfold I7;rw[run_callv hcf ho f hx hv w,J0]
  have e:first++vs.toArray++cap=all.toArray:=by rw[<-hall];apply D4;simp
  rw[e];have b:=s.perm hH.perm;refine(hs S w b.enter (hF.all S w g)).mono ?_;rintro e i ⟨x,l,rfl,c,j⟩;show wpList P ops Q rest (a.put o.dst (val x)) i;rw[hd];exact k x _ _ _ (f.put w6 _) (b.leave c) ((All.mono (λ_ h=> .inr h) (λ_ _=>rfl) j).append (All.leave b c g))
def resVal(a:Act):ResultVar->Sem Value
 |.tmp t=>pure (a.tmps.getD t undef)
 |.cell ad t=>do loadVar t (<-asAddr (a.tmps.getD ad undef))
def RV (P:Program)(β:fS)(n:Nat)(Γ:Env)(H:List bK)(F:List Fact)(r:ResultVar)(v:Value):Prop:= ∀a w S,Fits n Γ a->St β H S w->All F S w->(resVal a r).run P w= .ok v w
theorem bW{t:Nat}{v:Value}(h:Γ.get t=some v):RV P β n Γ H F (.tmp t) v:=λa w S f _ _=>by have:=f.get t v h;simp[resVal,D3,this]
theorem qR(hT:gA P T){t ty b q:Nat}{i:TI}{cs l:List Value}(hk:nW β H F b q cs)(h:Γ.get t=some (.pointer (some ⟨b,q,none⟩)))(ht:T.get ty=some i)(ha:aggD i.desc=true)(hv:cut cs 0 i.size=some l):RV P β n Γ H F (.cell t ty) (.agg l.toArray):=λa w S f s k=>by have:=f.get t _ h;obtain⟨h1,h2,e⟩:=bDj hv;have c:=run_loadCells_list (P:=P) w ⟨b,q,none⟩ l (λj u d=>by rw[H5];exact hk w S s k j u (by simpa using e j u d));rw[h2]at c;unfold resVal;simp only[D3,this,K0,asAddr,G9,H3,H6,loadVar,hT.agg ht,ha,if_true,hT.size ht,c]
theorem rv_cell1(hT:gA P T){t ty b q:Nat}{i:TI}{cs:List Value}{v:Value}(hk:nW β H F b q cs)(h:Γ.get t=some (.pointer (some ⟨b,q,none⟩)))(ht:T.get ty=some i)(ha:aggD i.desc=false)(hv:cs[0]?=some v):RV P β n Γ H F (.cell t ty) v:=λa w S f s k=>by have:=f.get t _ h;have c:=hk w S s k 0 v hv;rw[C0]at c;unfold resVal;simp only[D3,this,K0,asAddr,G9,H3,H6,loadVar,hT.agg ht,ha,J2,if_false,run_load,c]
theorem zG(fn:Func)(a:Act):results fn a.tmps=(do let vs<-fn.results.mapM (resVal a);pure (if h:vs.size=1 then vs[0]else .tuple vs)):=by
 have e:(λx:ResultVar=>(match x with|.tmp t=>pure (a.tmps.getD t undef)|.cell ad t=>do loadVar t (<-asAddr (a.tmps.getD ad undef)):Sem Value))=resVal a:=by
  funext x
  cases x<;>rfl
 unfold results;rw[<-e];rfl
section
variable {ι : Type} {fn : Func} {val : ι -> Value} {Hout : ι -> List bK} {post : ι -> List Fact} {r1 r2 r3 : ResultVar} {v1 v2 v3 : Value}
theorem bAm(x:ι)(hr:fn.results= #[])(hH:Sel H (Hout x))(hF:bA F (post x))(he: .tuple #[]=val x):At β n Γ H F (bodyPost P fn (bWq β val Hout post) .normal):=λa w S f s k=>by refine⟨f.defers,.tuple #[],?_,x,S,by rw[he],s.sel hH,hF.all S w k⟩;rw[zG,hr];simp
theorem iX(x:ι)(hr:fn.results= #[r1])(h1:RV P β n Γ H F r1 v1)(hH:Sel H (Hout x))(hF:bA F (post x))(he:v1=val x):At β n Γ H F (bodyPost P fn (bWq β val Hout post) .ret):=λa w S f s k=>by refine⟨f.defers,v1,?_,x,S,by rw[he],s.sel hH,hF.all S w k⟩;rw[zG,hr];simp[h1 a w S f s k]
theorem dF(x:ι)(hr:fn.results= #[r1,r2])(h1:RV P β n Γ H F r1 v1)(h2:RV P β n Γ H F r2 v2)(hH:Sel H (Hout x))(hF:bA F (post x))(he: .tuple #[v1,v2]=val x):At β n Γ H F (bodyPost P fn (bWq β val Hout post) .ret):=λa w S f s k=>by refine⟨f.defers,.tuple #[v1,v2],?_,x,S,by rw[he],s.sel hH,hF.all S w k⟩;rw[zG,hr];simp[h1 a w S f s k,h2 a w S f s k]
theorem at_res3(x:ι)(hr:fn.results= #[r1,r2,r3])(h1:RV P β n Γ H F r1 v1)(h2:RV P β n Γ H F r2 v2)(h3:RV P β n Γ H F r3 v3)(hH:Sel H (Hout x))(hF:bA F (post x))(he: .tuple #[v1,v2,v3]=val x):At β n Γ H F (bodyPost P fn (bWq β val Hout post) .ret):=λa w S f s k=>by refine⟨f.defers,.tuple #[v1,v2,v3],?_,x,S,by rw[he],s.sel hH,hF.all S w k⟩;rw[zG,hr];simp[h1 a w S f s k,h2 a w S f s k,h3 a w S f s k]
end
end
theorem or_u8(a b:UInt8):IntKind.u8.wrap (((BitVec.ofInt IntKind.u8.bits (a.toNat:Int) ||| BitVec.ofInt IntKind.u8.bits (b.toNat:Int)).toNat:Nat):Int)=(((a ||| b).toNat:Nat):Int):=by
 show IntKind.u8.wrap (((BitVec.ofInt 8 (a.toNat:Int) ||| BitVec.ofInt 8 (b.toNat:Int)).toNat:Nat):Int)=_
 have h1: ∀c:UInt8,BitVec.ofInt 8 (c.toNat:Int)=c.toBitVec:=λc=>by apply BitVec.eq_of_toNat_eq;simp
 rw[h1,h1];have h2:(a.toBitVec ||| b.toBitVec).toNat=(a ||| b).toNat:=rfl;have d:=(a ||| b).toNat_lt;rw[h2];generalize (a ||| b).toNat=c at*;simp only[J5,J6,J7];simp;omega
theorem bEc{H:Type}{enc:TypeId×Value->H}{P:Program}{w:World}{t:TypeId}(hu:P.underlying t=some .string):uA enc P w t (λs:Bs=>[.string (bs s)]) (λs=>Fact.pure (s.length<=140737488355328)):=λa c x h b=>by obtain⟨s,e,hs⟩:=opens_string hu a c x h b;exact⟨s.data.toList,e,hs⟩
section
variable {P : Program} {ops : Array Oper} {md : Region.Mode} {C : World -> Prop} {R : Array Bool -> Act -> World -> Prop}
def bRj (P:Program)(md:Region.Mode)(ops:Array Oper)(C:World->Prop)(R:Array Bool->Act->World->Prop):Nat->Array Bool->Act->World->Prop
 |0,listed,a,w=>C w/\R listed a w
 |fuel+1,listed,a,w=>C w/\G1 md ops listed≠[]/\ ∀i∈G1 md ops listed,fOp P ops i (bRj P md ops C R fuel (listed.setIfInBounds i true)) a w
theorem zI{Q:Exit->Act->World->Prop}(hR: ∀listed a w,R listed a w->wpAny P md ops Q 1 listed a w): ∀(fuel:Nat) (listed:Array Bool) (a:Act) (w:World),bRj P md ops C R fuel listed a w->wpAny P md ops Q (fuel+1) listed a w
 |0,_,_,_,h=>hR _ _ _ h.2
 |fuel+1,listed,a,w,h=>by
  refine⟨λe=>absurd e h.2.1,λi hi=>?_⟩;have hf:=h.2.2 i hi;unfold wpOp;split
  .rename_i ho;obtain⟨_,j,b,_⟩:=mem_ready.1 hi;rw[ho]at b;cases b
  .rename_i o ho;have h1:=wpNm (hf o ho);split
   .rename_i c;simp only[c,if_true]at h1;exact .inl (bCo rfl (λu g f=>zI hR fuel _ _ _ f) (λd g f=>zI hR fuel _ _ _ f) h1)
   .rename_i c;simp only[c]at h1;exact zI hR fuel _ _ _ h1
def depsIn(md:Region.Mode)(ops:Array Oper)(listed:Array Bool)(l:Nat):Prop:= ∀o,ops[l]?=some o-> ∀e∈o.after,G2 md e=true->listed.getD e.on false=true
def xN (md:Region.Mode)(ops:Array Oper)(listed:Array Bool):Prop:= ∀j,listed.getD j false=true->depsIn md ops listed j
def waitsN(md:Region.Mode)(ops:Array Oper):Nat->Nat->Nat->Bool
 |0,_,_=>false
 |n+1,l,i=>match ops[l]? with
  |some o=>o.after.any λe=>G2 md e&&(e.on==i || waitsN md ops n e.on i)
  |none=>false
def waits (md:Region.Mode)(ops:Array Oper)(l i:Nat):Bool:=waitsN md ops 4 l i
theorem bYy{listed:Array Bool}(hc:xN md ops listed): ∀(n l i:Nat),waitsN md ops n l i=true->depsIn md ops listed l->listed.getD i false=true
 |0,_,_,h,_=>by cases h
 |n+1,l,i,h,hd=>by
  unfold waitsN at h
  cases ho:ops[l]? with
  |none=>rw[ho]at h;cases h
  |some o=>
   rw[ho]at h;obtain⟨e,he,a⟩:=Array.any_eq_true'.1 h;rw[J3,Bool.or_eq_true]at a;have h1:=hd o ho e he a.1
   rcases a.2 with h2|h2
   .have h2:e.on=i:=by simpa using h2
    rw[<-h2];exact h1
   .exact bYy hc n e.on i h2 (hc _ h1)
theorem bTt{listed:Array Bool}{l:Nat}(h:l∈G1 md ops listed):depsIn md ops listed l:=λo ho e he d=>by obtain⟨_,c,b,a⟩:=mem_ready.1 h;have:o=c:=Option.some.inj (ho.symm.trans b);subst this;exact a e he d
theorem waits_not{l i:Nat}{listed:Array Bool}(hc:xN md ops listed)(h:waits md ops l i=true)(hi:listed.getD i false≠true):l∉G1 md ops listed:=λa=>hi (bYy hc 4 l i h (bTt a))
theorem getD_set{listed:Array Bool}{j k:Nat}(h:listed.getD k false=true):(listed.setIfInBounds j true).getD k false=true:=by
 by_cases e:j=k
 .subst e
  rcases k8 j listed.size with a|a
  .simp[a]
  .simp[D2 a]at h
 .rw[getD_set_ne false e];exact h
theorem xN.set{listed:Array Bool}(hc:xN md ops listed){j:Nat}(hj:j∈G1 md ops listed):xN md ops (listed.setIfInBounds j true):=λk a o ho e he b=>by
 by_cases c:j=k
 .subst c;exact getD_set (bTt hj o ho e he b)
 .rw[getD_set_ne false c]at a;exact getD_set (hc k a o ho e he b)
theorem xN.none{n:Nat}:xN md ops (D7 n false):=λj a=>by
 simp at a
 rcases k8 j n with h|h<;>simp[h]at a
theorem wpAnyR_first{i l:Nat}{oi:Oper}{v:Value}(hi:ops[i]?=some oi)(hw:waits md ops l i=true)(hsel: ∀(j:Nat) (o:Oper) cs b,ops[j]?=some o->o.op≠ .select cs b)(hR: ∀listed a w,R listed a w->G1 md ops listed=[l]):
  ∀(fuel:Nat) (listed:Array Bool) (a:Act) (w:World),xN md ops listed->
   (∀j oj,ops[j]?=some oj->j≠i->listed.getD j true=false->(∀e∈oj.after,G2 md e=true->e.on≠i)->oi.apart ops oj=true)->
   i∈G1 md ops listed->Fl P ops C oi v a->
   bRj P md ops C R fuel (listed.setIfInBounds i true) (a.put oi.dst v) w->bRj P md ops C R (fuel+1) listed a w:=by
 have d: ∀{listed:Array Bool},i∈G1 md ops listed->listed.getD i false≠true:=λ{listed} hr e=>by
  have h0:=(mem_ready.1 hr).1
  rcases k8 i listed.size with z|z
  .simp[z]at h0 e;rw[h0]at e;cases e
  .simp[D2 z]at e
 intro fuel
 induction fuel with
 |zero=>
  intro listed a w y _ hr hy H;refine⟨H.1,λh=>al2,λj p=>?_⟩
  by_cases c:j=i
  .subst c;exact hy.fOp hi H.1 H
  .have h1:=ready_mono p c;rw[hR _ _ _ H.2]at h1;have h2:j=l:=by simpa using h1
   subst h2;exact absurd p (waits_not y hw (d hr))
 |succ fuel ih=>
  intro listed a w y f hr hy H;refine⟨H.1,λh=>al2,λj p=>?_⟩
  by_cases c:j=i
  .subst c;exact hy.fOp hi H.1 H
  .have h1:=H.2.2 j (ready_mono p c);obtain⟨m,oj,n,s⟩:=mem_ready.1 p
   have q: ∀e∈oj.after,G2 md e=true->e.on≠i:=λe he E x=>by have h1:=s e he E;rw[x]at h1;exact d hr h1
   have h2:=fOp_put n (f j oj n c m q) (λcs b=>hsel i oi cs b hi) (λcs b=>hsel j oj cs b n) hy h1;have g: ∀k ok,ops[k]?=some ok->k≠i->(listed.setIfInBounds j true).getD k true=false->
     (∀e∈ok.after,G2 md e=true->e.on≠i)->oi.apart ops ok=true:=λk ok D u d t=>by
    refine f k ok D u ?_ t
    by_cases r:j=k
    .subst r;exact m
    .rw[getD_set_ne true r]at d;exact d
   refine mY (λG B A=>ih (listed.setIfInBounds j true) G B (y.set p) g (ready_mono hr (Ne.symm c)) A.1 ?_) h2;rw[D6 _ _ c];exact A.2
def qZ (P:Program)(ops:Array Oper)(C:World->Prop)(Q:Exit->Act->World->Prop)(l:Nat):List (Bool×Nat)->Act->World->Prop
 |[],a,w=>fOp P ops l (Q .normal) a w
 |(true,k)::r,a,w=> ∃o v,ops[k]?=some o/\Fl P ops C o v a/\qZ P ops C Q l r (a.put o.dst v) w
 |(false,k)::r,a,w=>fOp P ops k (λa w=>C w/\qZ P ops C Q l r a w) a w
def bTf (md:Region.Mode)(ops:Array Oper)(l:Nat):List (Bool×Nat)->Array Bool->Bool
 |[],listed=>(G1 md ops listed==[l])&&(G1 md ops (listed.setIfInBounds l true)).isEmpty
 |(true,k)::r,listed=>(G1 md ops listed).contains k&&G3 md ops listed k&&waits md ops l k&&bTf md ops l r (listed.setIfInBounds k true)
 |(false,k)::r,listed=>(G1 md ops listed==[k])&&bTf md ops l r (listed.setIfInBounds k true)
def EndL (P:Program)(md:Region.Mode)(ops:Array Oper)(Q:Exit->Act->World->Prop)(l:Nat)(listed:Array Bool)(a:Act)(w:World):Prop:=
 G1 md ops listed=[l]/\G1 md ops (listed.setIfInBounds l true)=[]/\fOp P ops l (Q .normal) a w
theorem bGq{Q:Exit->Act->World->Prop}{l:Nat}(hs:G4 ops=true): ∀(od:List (Bool×Nat)) (listed:Array Bool) (a:Act) (w:World),xN md ops listed->bTf md ops l od listed=true->C w->qZ P ops C Q l od a w->bRj P md ops C (EndL P md ops Q l) od.length listed a w
 |[],listed,a,w,_,hB,hC,h=>by
  simp only[bTf,J3,beq_iff_eq]at hB;exact⟨hC,hB.1,by simpa using hB.2,h⟩
 |(true,k)::r,listed,a,w,hc,hB,hC,h=>by
  simp only[bTf,J3]at hB;obtain⟨o,v,ho,hy,c⟩:=h;exact wpAnyR_first ho hB.1.2 (G6 hs) (λ_ _ _ h=>h.1) r.length listed a w hc (G7 ho hB.1.1.2) (by simpa using hB.1.1.1) hy (bGq hs r _ _ _ (hc.set (by simpa using hB.1.1.1)) hB.2 hC c)
 |(false,k)::r,listed,a,w,hc,hB,hC,h=>by
  simp only[bTf,J3,beq_iff_eq]at hB;refine⟨hC,λh0=>ak2,λi hi=>?_⟩;rw[hB.1]at hi;have:i=k:=by simpa using hi
  subst this;exact mY (λe d b=>bGq hs r _ _ _ (hc.set (by rw[hB.1];simp)) hB.2 b.1 b.2) h
theorem end_any{Q:Exit->Act->World->Prop}{l:Nat}(listed:Array Bool)(a:Act)(w:World)(h:EndL P md ops Q l listed a w):wpAny P md ops Q 1 listed a w:=by
 refine⟨λe=>(by rw[h.1]at e;cases e),λi hi=>?_⟩;rw[h.1]at hi;have:i=l:=by simpa using hi
 subst this;have hf:=h.2.2;unfold wpOp;split
 .rename_i ho;have j:i∈G1 md ops listed:=by rw[h.1];simp
  obtain⟨_,k,b,_⟩:=mem_ready.1 j;rw[ho]at b;cases b
 .rename_i o ho;have h1:=wpNm (hf o ho);split
  .rename_i c;simp only[c,if_true]at h1;exact .inl (bCo rfl (λu g f=>⟨h.2.1,f⟩) (λd g f=>⟨h.2.1,f⟩) h1)
  .rename_i c;simp only[c]at h1;exact⟨h.2.1,h1⟩
def mixLOk(l:Nat)(od:List (Bool×Nat))(ops:Array Oper):Bool:=G4 ops&&k9 (od.length+1) ops.size&&bTf .any ops l od (D7 ops.size false)
end
section
variable {P : Program} {β : fS} {n : Nat} {Γ : Env} {H : List bK} {F : List Fact} {Q : Exit -> Act -> World -> Prop} {Hk : List bK} {F0 : List Fact} {ops : Array Oper}
theorem wJ{id:Nat}{l:List Oper}(last:Nat)(Hk:List bK)(F0:List Fact)(od:List (Bool×Nat))(hm:P.follows .mixedOrders=true)(hB:mixLOk last od l.toArray=true)(hH:Sel H Hk)(hF:bA F F0)
  (h:At β n Γ H F (qZ P l.toArray (StF β Hk F0) Q last od)):At β n Γ H F ((D8 id l.toArray true).wp P Q):=λa w S f s k=>by
 simp only[mixLOk,J3]at hB;have e:=StF.drew ⟨S,s,k⟩;obtain⟨d,b,c⟩:=e;refine wp_region_any hm ?_;have h1:=bGq (P:=P) (md:= .any) (C:=StF β Hk F0) (Q:=Q) hB.1.1 od (D7 l.toArray.size false) a _ xN.none hB.2 (StF.sel hH hF ⟨d,b,c⟩) (h a _ d f b c);have h2:=zI (Q:=Q) end_any _ _ _ _ h1
 rwa[A0 hB.1.2]at h2
theorem bQc{r:List (Bool×Nat)}{o:Oper}{l k d:Nat}{v:Value}(hk:ops[k]?=some o)(hw:want ops Γ o=some true)(hd:o.dst=some d)(hn:B2 d n=true)(h:Sti P β n Γ Hk F0 o v)
  (K:At β n ((d,v)::Γ) H F (qZ P ops (StF β Hk F0) Q l r)):At β n Γ H F (qZ P ops (StF β Hk F0) Q l ((true,k)::r)):=λa w S f s g=>by refine⟨o,v,hk,.inl ⟨f.want hw,λb ⟨i,c,e⟩=>h a b i f c e⟩,?_⟩;rw[hd];exact K _ _ S (f.put w6 v) s g
theorem stL{r:List (Bool×Nat)}{o:Oper}{l k d:Nat}{v:Value}(hk:ops[k]?=some o)(h:Sti P β n Γ Hk F0 o v)(K:At β n ((d,v)::Γ) H F (qZ P ops (StF β Hk F0) Q l r))(hw:want ops Γ o=some true:=by exact rfl)(hd:o.dst=some d:=by exact rfl)(hn:Nat.blt d n=true:=by exact rfl):At β n Γ H F (qZ P ops (StF β Hk F0) Q l ((true,k)::r)):=bQc hk hw hd hn h K
theorem atl_op{r:List (Bool×Nat)}{o:Oper}{l k:Nat}{C:World->Prop}(hk:ops[k]?=some o)(h:At β n Γ H F (wpList P ops (Nm λa w=>C w/\qZ P ops C Q l r a w) [o])):At β n Γ H F (qZ P ops C Q l ((false,k)::r)):=λa w S f s d c b=>by have:c=o:=Option.some.inj (b.symm.trans hk);subst this;exact h a w S f s d
theorem atl_go{r:List (Bool×Nat)}{l:Nat}(hH:Sel H Hk)(hF:bA F F0)(h:At β n Γ H F (qZ P ops (StF β Hk F0) Q l r)):At β n Γ H F (wpList P ops (Nm λa w=>StF β Hk F0 w/\qZ P ops (StF β Hk F0) Q l r a w) []):=λa w S f s k=>
 ⟨rfl,StF.sel hH hF ⟨S,s,k⟩,h a w S f s k⟩
theorem atl_last{o:Oper}{l:Nat}{C:World->Prop}(hk:ops[l]?=some o)(h:At β n Γ H F (wpList P ops (Nm (Q .normal)) [o])):At β n Γ H F (qZ P ops C Q l []):=λa w S f s d c b=>by have:c=o:=Option.some.inj (b.symm.trans hk);subst this;exact h a w S f s d
theorem atl_end{K:Act->World->Prop}(h:At β n Γ H F K):At β n Γ H F (wpList P ops (Nm K) []):=λa w S f s k=>⟨rfl,h a w S f s k⟩
end
inductive Tr where
 |nil
 |fl (k:Nat) (r:Tr)
 |op (k:Nat) (r:Tr)
 |two (k l:Nat) (r s:Tr)
def Tr.len:Tr->Nat
 |.nil=>0
 |.fl _ r=>r.len+1
 |.op _ r=>r.len+1
 |.two _ _ r _=>r.len+1
section
variable {P : Program} {ops : Array Oper} {md : Region.Mode} {C : World -> Prop} {Q : Exit -> Act -> World -> Prop}
def lP (P:Program)(ops:Array Oper)(C:World->Prop)(Q:Exit->Act->World->Prop):Tr->Act->World->Prop
 |.nil,a,w=>Q .normal a w
 |.fl k r,a,w=> ∃o v,ops[k]?=some o/\Fl P ops C o v a/\lP P ops C Q r (a.put o.dst v) w
 |.op k r,a,w=>fOp P ops k (λa w=>C w/\lP P ops C Q r a w) a w
 |.two k l r s,a,w=>fOp P ops k (λa w=>C w/\lP P ops C Q r a w) a w/\fOp P ops l (λa w=>C w/\lP P ops C Q s a w) a w
def bFd (md:Region.Mode)(ops:Array Oper):Tr->Array Bool->Bool
 |.nil,listed=>(G1 md ops listed).isEmpty
 |.fl k r,listed=>(G1 md ops listed).contains k&&G3 md ops listed k&&bFd md ops r (listed.setIfInBounds k true)
 |.op k r,listed=>(G1 md ops listed==[k])&&bFd md ops r (listed.setIfInBounds k true)
 |.two k l r s,listed=>(G1 md ops listed==[k,l])&&k9 r.len s.len&&bFd md ops r (listed.setIfInBounds k true)&&bFd md ops s (listed.setIfInBounds l true)
theorem tU(hs:G4 ops=true): ∀(l:Tr) (listed:Array Bool) (a:Act) (w:World),bFd md ops l listed=true->C w->lP P ops C Q l a w->bGw P md ops C Q l.len listed a w
 |.nil,listed,a,w,hB,hC,h=>⟨hC,by simpa[bFd]using hB,h⟩
 |.fl k r,listed,a,w,hB,hC,h=>by
  simp only[bFd,J3]at hB;obtain⟨o,v,ho,hy,f⟩:=h;exact bAq ho (G6 hs) r.len listed a w (G7 ho hB.1.2) (by simpa using hB.1.1) hy (tU hs r _ _ _ hB.2 hC f)
 |.op k r,listed,a,w,hB,hC,h=>by
  simp only[bFd,J3,beq_iff_eq]at hB;refine⟨hC,λh0=>ak2,λi hi=>?_⟩;rw[hB.1]at hi;have:i=k:=by simpa using hi
  subst this;exact mY (λd c b=>tU hs r _ _ _ hB.2 b.1 b.2) h
 |.two k l r s,listed,a,w,hB,hC,h=>by
  simp only[bFd,J3,beq_iff_eq]at hB;obtain⟨⟨⟨h1,h2⟩,g⟩,h4⟩:=hB;refine⟨hC,λh0=>am5,λi hi=>?_⟩;rw[h1]at hi;have hi:i=k\/i=l:=by simpa using hi
  rcases hi with rfl|rfl
  .exact mY (λd c b=>tU hs r _ _ _ g b.1 b.2) h.1
  .have e:Tr.len (.two k i r s)=s.len+1:=by simp only[Tr.len,A0 h2]
   have j:r.len=s.len:=A0 h2;rw[j];exact mY (λd c b=>tU hs s _ _ _ h4 b.1 b.2) h.2
def mixTOk(l:Tr)(ops:Array Oper):Bool:=G4 ops&&k9 l.len ops.size&&bFd .any ops l (D7 ops.size false)
end
section
variable {P : Program} {β : fS} {n : Nat} {Γ : Env} {H : List bK} {F : List Fact} {Q : Exit -> Act -> World -> Prop} {Hk : List bK} {F0 : List Fact} {ops : Array Oper}
theorem kZ{id:Nat}{l:List Oper}(Hk:List bK)(F0:List Fact)(od:Tr)(hm:P.follows .mixedOrders=true)(hB:mixTOk od l.toArray=true)(hH:Sel H Hk)(hF:bA F F0)
  (h:At β n Γ H F (lP P l.toArray (StF β Hk F0) Q od)):At β n Γ H F ((D8 id l.toArray true).wp P Q):=λa w S f s k=>by
 simp only[mixTOk,J3]at hB;have e:=StF.drew ⟨S,s,k⟩;obtain⟨d,b,c⟩:=e;refine wp_region_any hm (tH (C:=StF β Hk F0) _ _ _ _ ?_);have:=tU (P:=P) (md:= .any) (C:=StF β Hk F0) (Q:=Q) hB.1.1 od (D7 l.toArray.size false) a _ hB.2 (StF.sel hH hF ⟨d,b,c⟩) (h a _ d f b c)
 rwa[A0 hB.1.2]at this
theorem mW{C:World->Prop}(h:At β n Γ H F (Q .normal)):At β n Γ H F (lP P ops C Q .nil):=h
theorem bKm{r:Tr}{o:Oper}{k d:Nat}{v:Value}(hk:ops[k]?=some o)(hw:want ops Γ o=some true)(hd:o.dst=some d)(hn:B2 d n=true)(h:Sti P β n Γ Hk F0 o v)
  (K:At β n ((d,v)::Γ) H F (lP P ops (StF β Hk F0) Q r)):At β n Γ H F (lP P ops (StF β Hk F0) Q (.fl k r)):=λa w S f s g=>by refine⟨o,v,hk,.inl ⟨f.want hw,λb ⟨i,c,e⟩=>h a b i f c e⟩,?_⟩;rw[hd];exact K _ _ S (f.put w6 v) s g
theorem sqT{r:Tr}{o:Oper}{k d:Nat}{v:Value}(hk:ops[k]?=some o)(h:Sti P β n Γ Hk F0 o v)(K:At β n ((d,v)::Γ) H F (lP P ops (StF β Hk F0) Q r))(hw:want ops Γ o=some true:=by exact rfl)(hd:o.dst=some d:=by exact rfl)(hn:Nat.blt d n=true:=by exact rfl):At β n Γ H F (lP P ops (StF β Hk F0) Q (.fl k r)):=bKm hk hw hd hn h K
theorem pvT{r:Tr}{o:Oper}{k d:Nat}{v:Value}{T:Tab}(hT:gA P T)(K:At β n ((d,v)::Γ) H F (lP P ops (StF β Hk F0) Q r))(hk:ops[k]?=some o:=by exact rfl)(hw:want ops Γ o=some true:=by exact rfl)(hd:o.dst=some d:=by exact rfl)(hn:Nat.blt d n=true:=by exact rfl)(h:rG T Γ o.op=some v:=by exact rfl):At β n Γ H F (lP P ops (StF β Hk F0) Q (.fl k r)):=bKm hk hw hd hn (λ_ w _ f _ _=>bFy hT f h w) K
theorem att_skipped{r:Tr}{o:Oper}{k d:Nat}{C:World->Prop}(hk:ops[k]?=some o)(hw:want ops Γ o=some false)(hd:o.dst=some d)(hn:B2 d n=true)
  (K:At β n ((d,undef)::Γ) H F (lP P ops C Q r)):At β n Γ H F (lP P ops C Q (.fl k r)):=λa w S f s b=>by refine⟨o,undef,hk,.inr ⟨f.want hw,rfl⟩,?_⟩;rw[hd];exact K _ _ S (f.put w6 undef) s b
theorem zS{o:Oper}{k:Nat}{K:Act->World->Prop}(hk:ops[k]?=some o)(h:At β n Γ H F (wpList P ops (Nm K) [o])):At β n Γ H F (fOp P ops k K):=λa w S f s d c b=>by have:c=o:=Option.some.inj (b.symm.trans hk);subst this;exact h a w S f s d
theorem iM{r:Tr}{o:Oper}{k:Nat}{C:World->Prop}(hk:ops[k]?=some o)(h:At β n Γ H F (wpList P ops (Nm λa w=>C w/\lP P ops C Q r a w) [o])):At β n Γ H F (lP P ops C Q (.op k r)):=zS hk h
theorem gT{r s:Tr}{o o':Oper}{k l:Nat}{C:World->Prop}(hk:ops[k]?=some o)(hl:ops[l]?=some o')(h:At β n Γ H F (wpList P ops (Nm λa w=>C w/\lP P ops C Q r a w) [o]))(h':At β n Γ H F (wpList P ops (Nm λa w=>C w/\lP P ops C Q s a w) [o'])):
  At β n Γ H F (lP P ops C Q (.two k l r s)):=λa w S f b c=>⟨zS hk h a w S f b c,zS hl h' a w S f b c⟩
theorem cZ{r:Tr}(hH:Sel H Hk)(hF:bA F F0)(h:At β n Γ H F (lP P ops (StF β Hk F0) Q r)):At β n Γ H F (wpList P ops (Nm λa w=>StF β Hk F0 w/\lP P ops (StF β Hk F0) Q r a w) []):=λa w S f s k=>
 ⟨rfl,StF.sel hH hF ⟨S,s,k⟩,h a w S f s k⟩
end
section
variable {P : Program} {ops : Array Oper} {md : Region.Mode} {C : World -> Prop} {R : Array Bool -> Act -> World -> Prop}
def bEl (P:Program)(ops:Array Oper)(K:Act->World->Prop):List Nat->Act->World->Prop
 |[],a,w=>K a w
 |l::r,a,w=>fOp P ops l (bEl P ops K r) a w
def vL (P:Program)(ops:Array Oper)(C:World->Prop)(Q:Exit->Act->World->Prop)(ls:List Nat):List (Bool×Nat)->Act->World->Prop
 |[],a,w=>bEl P ops (Q .normal) ls a w
 |(true,k)::r,a,w=> ∃o v,ops[k]?=some o/\Fl P ops C o v a/\vL P ops C Q ls r (a.put o.dst v) w
 |(false,k)::r,a,w=>fOp P ops k (λa w=>C w/\vL P ops C Q ls r a w) a w
end
section
variable {P : Program} {β : fS} {n : Nat} {Γ : Env} {H : List bK} {F : List Fact} {Q : Exit -> Act -> World -> Prop} {Hk : List bK} {F0 : List Fact} {ops : Array Oper} {ls : List Nat}
theorem ats_sti{r:List (Bool×Nat)}{o:Oper}{k d:Nat}{v:Value}(hk:ops[k]?=some o)(hw:want ops Γ o=some true)(hd:o.dst=some d)(hn:B2 d n=true)(h:Sti P β n Γ Hk F0 o v)
  (K:At β n ((d,v)::Γ) H F (vL P ops (StF β Hk F0) Q ls r)):At β n Γ H F (vL P ops (StF β Hk F0) Q ls ((true,k)::r)):=λa w S f s g=>by refine⟨o,v,hk,.inl ⟨f.want hw,λb ⟨i,c,e⟩=>h a b i f c e⟩,?_⟩;rw[hd];exact K _ _ S (f.put w6 v) s g
theorem ats_op{r:List (Bool×Nat)}{o:Oper}{k:Nat}{C:World->Prop}(hk:ops[k]?=some o)(h:At β n Γ H F (wpList P ops (Nm λa w=>C w/\vL P ops C Q ls r a w) [o])):At β n Γ H F (vL P ops C Q ls ((false,k)::r)):=λa w S f s d c b=>by have:c=o:=Option.some.inj (b.symm.trans hk);subst this;exact h a w S f s d
theorem ats_go{r:List (Bool×Nat)}(hH:Sel H Hk)(hF:bA F F0)(h:At β n Γ H F (vL P ops (StF β Hk F0) Q ls r)):At β n Γ H F (wpList P ops (Nm λa w=>StF β Hk F0 w/\vL P ops (StF β Hk F0) Q ls r a w) []):=λa w S f s k=>
 ⟨rfl,StF.sel hH hF ⟨S,s,k⟩,h a w S f s k⟩
theorem ats_tail{C:World->Prop}(h:At β n Γ H F (bEl P ops (Q .normal) ls)):At β n Γ H F (vL P ops C Q ls []):=h
theorem ats_last{K:Act->World->Prop}{o:Oper}{l:Nat}(hk:ops[l]?=some o)(h:At β n Γ H F (wpList P ops (Nm (bEl P ops K ls)) [o])):At β n Γ H F (bEl P ops K (l::ls)):=λa w S f s d c b=>by have:c=o:=Option.some.inj (b.symm.trans hk);subst this;exact h a w S f s d
theorem ats_nil{K:Act->World->Prop}(h:At β n Γ H F K):At β n Γ H F (bEl P ops K []):=h
end
section
variable {P : Program} {β : fS} {n : Nat} {Γ : Env} {H : List bK} {F : List Fact} {Q : Exit -> Act -> World -> Prop} {K : Act -> World -> Prop} {T : Tab} {ops : Array Oper} {rest : List Oper} {o : Oper} {d : Nat} {v : Value}
theorem ldqO(hT:gA P T){t b q:Nat}{p:Operand}{cs:List Value}{i:TI}(ho:o.op= .load t p:=by exact rfl)(hp:Γ.ev p=some (.pointer (some ⟨b,q,none⟩)):=by exact rfl)(ht:T.get t=some i:=by exact rfl)(ha:aggD i.desc=false:=by exact rfl)(hk:nW β H F b q cs:=by first|exact cK cT.head|exact cK kT1|exact cK kT2|exact cK kT3|exact cK kT4|exact cK kT5|exact cK kT6|exact cK kT7|exact cK kT8|exact cK kT9|exact cK bKz|exact cK bLt|exact cK bMg|exact cK bLn)(hv:cs[0]?=some v:=by exact rfl):Sti P β n Γ H F o v:=cV hT hk ho hp ht ha hv
theorem ldqN(hT:gA P T){t b q:Nat}{p:Operand}{cs l:List Value}{i:TI}(ho:o.op= .load t p:=by exact rfl)(hp:Γ.ev p=some (.pointer (some ⟨b,q,none⟩)):=by exact rfl)(ht:T.get t=some i:=by exact rfl)(ha:aggD i.desc=true:=by exact rfl)(hk:nW β H F b q cs:=by first|exact cK cT.head|exact cK kT1|exact cK kT2|exact cK kT3|exact cK kT4|exact cK kT5|exact cK kT6|exact cK kT7|exact cK kT8|exact cK kT9|exact cK bKz|exact cK bLt|exact cK bMg|exact cK bLn)(hv:cut cs 0 i.size=some l:=by exact rfl):Sti P β n Γ H F o (.agg l.toArray):=fP hT hk ho hp ht ha hv
theorem stoq(hT:gA P T){t t' b off:Nat}{p x:Operand}{vs cs cs':List Value}{i:TI}{H':List bK}(k:At β n Γ (.obj b (.cells cs'.toArray t')::H') F (wpList P ops Q rest))(ho:o.op= .store t p x:=by exact rfl)(hp:Γ.ev p=some (.pointer (some ⟨b,off,none⟩)):=by exact rfl)(hx:Γ.ev x=some v:=by exact rfl)(hH:cT H (.obj b (.cells cs.toArray t')) H':=by first|exact cT.head|exact kT1|exact kT2|exact kT3|exact kT4|exact kT5|exact kT6|exact kT7|exact kT8|exact kT9|exact bKz|exact bLt|exact bMg|exact bLn)(ht:T.get t=some i:=by exact rfl)(hc:v.cells=vs.toArray:=by exact rfl)(hs:Nat.beq vs.length i.size=true:=by exact rfl)(h1:vs.all (·.oneCell')=true:=by exact rfl)(hput:vY cs off vs=some cs':=by exact rfl)(hw:want ops Γ o=some true:=by exact rfl)(hd:o.dst=none:=by exact rfl):At β n Γ H F (wpList P ops Q (o::rest)):=at_store hT hw ho hd hp hx hH ht hc hs h1 hput k
theorem gdC{c:Code}(h:At β n Γ H F (c.wp P Q)):At β n Γ H F (c.wp P Q):=h
theorem gdW{l:List Oper}(h:At β n Γ H F (wpList P ops Q l)):At β n Γ H F (wpList P ops Q l):=h
theorem gdN(h:At β n Γ H F (wpList P ops Q [])):At β n Γ H F (wpList P ops Q []):=h
theorem gdT{e:Exit}(h:At β n Γ H F (Exit.then K Q e)):At β n Γ H F (Exit.then K Q e):=h
theorem gdB{i:Nat}{e:Exit}(h:At β n Γ H F (Exit.inBlock i Q e)):At β n Γ H F (Exit.inBlock i Q e):=h
theorem gdS{e:Exit}(h:At β n Γ H F (Exit.noGoto Q e)):At β n Γ H F (Exit.noGoto Q e):=h
theorem gdM{C:World->Prop}{r:List (Bool×Nat)}(h:At β n Γ H F (sL P ops C Q r)):At β n Γ H F (sL P ops C Q r):=h
theorem gdL{C:World->Prop}{r:List (Bool×Nat)}{l:Nat}(h:At β n Γ H F (qZ P ops C Q l r)):At β n Γ H F (qZ P ops C Q l r):=h
theorem gdX{C:World->Prop}{r:Tr}(h:At β n Γ H F (lP P ops C Q r)):At β n Γ H F (lP P ops C Q r):=h
theorem gdY{C:World->Prop}{ls:List Nat}{r:List (Bool×Nat)}(h:At β n Γ H F (vL P ops C Q ls r)):At β n Γ H F (vL P ops C Q ls r):=h
theorem jA0{p:Prop}(h:p:=by first|exact bA.drop 0|exact bA.drop 1|exact bA.drop 2|exact bA.drop 3|exact bA.drop 4|exact bA.drop 5|exact bA.drop 6|exact bA.drop 7|exact bA.drop 8|exact bA.drop 9|exact bA.drop 10|exact bA.drop 11|exact bA.drop 12|exact bA.drop 13|exact bA.drop 14|exact bA.drop 15|exact bA.drop 16|exact bA.drop 17|exact bA.drop 18|exact bA.drop 19|exact bA.drop 20|exact bA.drop 21|exact bA.drop 22|exact bA.drop 23|exact bA.drop 24|exact bA.drop 25|exact bA.drop 26|exact bA.drop 27|exact bA.drop 28|exact bA.drop 29|exact bA.drop 30|exact bA.drop 31|exact bA.drop 32|exact bA.drop 33|exact bA.drop 34|exact bA.drop 35|exact bA.drop 36|exact bA.drop 37|exact bA.drop 38|exact bA.drop 39|exact bA.drop 40|exact bA.drop 41|exact bA.drop 42|exact bA.drop 43|exact bA.drop 44|exact bA.drop 45|exact bA.drop 46|exact bA.drop 47|exact bA.drop 48|exact bA.drop 49|exact bA.drop 50|exact bA.drop 51|exact bA.drop 52|exact bA.drop 53|exact bA.drop 54|exact bA.drop 55|exact bA.drop 56|exact bA.drop 57|exact bA.drop 58|exact bA.drop 59|exact bA.drop 60|exact bA.drop 61|exact bA.drop 62|exact bA.drop 63|exact bA.drop 64|exact bA.drop 65|exact bA.drop 66|exact bA.drop 67|exact bA.drop 68|exact bA.drop 69):p:=h
theorem one{R G:Prop}(k:R)(h:R->G:=by
  intro k_
  first
  |((with_reducible refine gdC ?_);first|with_reducible exact bP k_|with_reducible exact dH k_|with_reducible exact cW k_|with_reducible exact fH k_|with_reducible exact iJ k_|with_reducible exact tI k_|with_reducible exact at_scope k_|with_reducible exact at_label k_|exact cC rfl rfl k_|exact jT rfl rfl k_)
  |((with_reducible refine gdW ?_);first|((with_reducible refine gdN ?_);first|((with_reducible refine fJ ?_ ?_ k_);(repeat (first|exact Sel.nil|refine Sel.cons cT.head ?_|refine Sel.cons kT1 ?_|refine Sel.cons kT2 ?_|refine Sel.cons kT3 ?_|refine Sel.cons kT4 ?_|refine Sel.cons kT5 ?_|refine Sel.cons kT6 ?_|refine Sel.cons kT7 ?_|refine Sel.cons kT8 ?_|refine Sel.cons kT9 ?_|refine Sel.cons bKz ?_|refine Sel.cons bLt ?_|refine Sel.cons bMg ?_|refine Sel.cons bLn ?_));(first|exact trivial|exact jA0))|((with_reducible refine atl_go ?_ ?_ k_);(repeat (first|exact Sel.nil|refine Sel.cons cT.head ?_|refine Sel.cons kT1 ?_|refine Sel.cons kT2 ?_|refine Sel.cons kT3 ?_|refine Sel.cons kT4 ?_|refine Sel.cons kT5 ?_|refine Sel.cons kT6 ?_|refine Sel.cons kT7 ?_|refine Sel.cons kT8 ?_|refine Sel.cons kT9 ?_|refine Sel.cons bKz ?_|refine Sel.cons bLt ?_|refine Sel.cons bMg ?_|refine Sel.cons bLn ?_));(first|exact trivial|exact jA0))|((with_reducible refine cZ ?_ ?_ k_);(repeat (first|exact Sel.nil|refine Sel.cons cT.head ?_|refine Sel.cons kT1 ?_|refine Sel.cons kT2 ?_|refine Sel.cons kT3 ?_|refine Sel.cons kT4 ?_|refine Sel.cons kT5 ?_|refine Sel.cons kT6 ?_|refine Sel.cons kT7 ?_|refine Sel.cons kT8 ?_|refine Sel.cons kT9 ?_|refine Sel.cons bKz ?_|refine Sel.cons bLt ?_|refine Sel.cons bMg ?_|refine Sel.cons bLn ?_));(first|exact trivial|exact jA0))|((with_reducible refine ats_go ?_ ?_ k_);(repeat (first|exact Sel.nil|refine Sel.cons cT.head ?_|refine Sel.cons kT1 ?_|refine Sel.cons kT2 ?_|refine Sel.cons kT3 ?_|refine Sel.cons kT4 ?_|refine Sel.cons kT5 ?_|refine Sel.cons kT6 ?_|refine Sel.cons kT7 ?_|refine Sel.cons kT8 ?_|refine Sel.cons kT9 ?_|refine Sel.cons bKz ?_|refine Sel.cons bLt ?_|refine Sel.cons bMg ?_|refine Sel.cons bLn ?_));(first|exact trivial|exact jA0))|with_reducible exact atl_end k_|with_reducible exact sZ k_)|exact bRz rfl rfl rfl (jY hT rfl) k_|exact bSo rfl rfl rfl k_|exact bRz rfl rfl rfl (ldqO hT) k_|exact bRz rfl rfl rfl (ldqN hT) k_|exact stoq hT k_)
  |((with_reducible refine gdT ?_);first|with_reducible exact dB k_|with_reducible exact cJ k_|with_reducible exact nK k_)
  |((with_reducible refine gdB ?_);first|with_reducible exact mE k_|with_reducible exact iK k_|with_reducible exact tO k_|((with_reducible refine x_pass ?_ k_);exact rfl))
  |((with_reducible refine gdS ?_);first|with_reducible exact n_scope k_|with_reducible exact r_scope k_|with_reducible exact x_scope k_)
  |((with_reducible refine gdM ?_);first|with_reducible exact uU k_|exact bIh rfl rfl rfl rfl (jY hT rfl) k_|exact wW rfl rfl rfl rfl k_|with_reducible exact bGf rfl k_|exact bIh rfl rfl rfl rfl (ldqO hT) k_|exact bIh rfl rfl rfl rfl (ldqN hT) k_)
  |((with_reducible refine gdL ?_);first|exact bQc rfl rfl rfl rfl (jY hT rfl) k_|with_reducible exact atl_op rfl k_|with_reducible exact atl_last rfl k_|exact bQc rfl rfl rfl rfl (ldqO hT) k_|exact bQc rfl rfl rfl rfl (ldqN hT) k_)
  |((with_reducible refine gdX ?_);first|with_reducible exact mW k_|exact bKm rfl rfl rfl rfl (jY hT rfl) k_|exact att_skipped rfl rfl rfl rfl k_|with_reducible exact iM rfl k_|exact bKm rfl rfl rfl rfl (ldqO hT) k_|exact bKm rfl rfl rfl rfl (ldqN hT) k_)
  |((with_reducible refine gdY ?_);first|with_reducible exact ats_tail k_|exact ats_sti rfl rfl rfl rfl (jY hT rfl) k_|with_reducible exact ats_op rfl k_|exact ats_sti rfl rfl rfl rfl (ldqO hT) k_|exact ats_sti rfl rfl rfl rfl (ldqN hT) k_)
  |with_reducible exact ats_last rfl k_
  |with_reducible exact ats_nil k_):G:=h k
theorem g2{R G:Prop}(k:R)(h:R->G:=by intro k_;(iterate 2 refine one ?_);exact k_):G:=h k
theorem g3{R G:Prop}(k:R)(h:R->G:=by intro k_;(iterate 3 refine one ?_);exact k_):G:=h k
theorem g4{R G:Prop}(k:R)(h:R->G:=by intro k_;(iterate 4 refine one ?_);exact k_):G:=h k
theorem g5{R G:Prop}(k:R)(h:R->G:=by intro k_;(iterate 5 refine one ?_);exact k_):G:=h k
theorem g6{R G:Prop}(k:R)(h:R->G:=by intro k_;(iterate 6 refine one ?_);exact k_):G:=h k
theorem g7{R G:Prop}(k:R)(h:R->G:=by intro k_;(iterate 7 refine one ?_);exact k_):G:=h k
theorem g8{R G:Prop}(k:R)(h:R->G:=by intro k_;(iterate 8 refine one ?_);exact k_):G:=h k
theorem g9{R G:Prop}(k:R)(h:R->G:=by intro k_;(iterate 9 refine one ?_);exact k_):G:=h k
theorem g10{R G:Prop}(k:R)(h:R->G:=by intro k_;(iterate 10 refine one ?_);exact k_):G:=h k
theorem g11{R G:Prop}(k:R)(h:R->G:=by intro k_;(iterate 11 refine one ?_);exact k_):G:=h k
theorem g12{R G:Prop}(k:R)(h:R->G:=by intro k_;(iterate 12 refine one ?_);exact k_):G:=h k
theorem g13{R G:Prop}(k:R)(h:R->G:=by intro k_;(iterate 13 refine one ?_);exact k_):G:=h k
theorem g14{R G:Prop}(k:R)(h:R->G:=by intro k_;(iterate 14 refine one ?_);exact k_):G:=h k
theorem g15{R G:Prop}(k:R)(h:R->G:=by intro k_;(iterate 15 refine one ?_);exact k_):G:=h k
theorem g16{R G:Prop}(k:R)(h:R->G:=by intro k_;(iterate 16 refine one ?_);exact k_):G:=h k
theorem g17{R G:Prop}(k:R)(h:R->G:=by intro k_;(iterate 17 refine one ?_);exact k_):G:=h k
theorem g18{R G:Prop}(k:R)(h:R->G:=by intro k_;(iterate 18 refine one ?_);exact k_):G:=h k
theorem g19{R G:Prop}(k:R)(h:R->G:=by intro k_;(iterate 19 refine one ?_);exact k_):G:=h k
theorem g20{R G:Prop}(k:R)(h:R->G:=by intro k_;(iterate 20 refine one ?_);exact k_):G:=h k
theorem g21{R G:Prop}(k:R)(h:R->G:=by intro k_;(iterate 21 refine one ?_);exact k_):G:=h k
theorem g22{R G:Prop}(k:R)(h:R->G:=by intro k_;(iterate 22 refine one ?_);exact k_):G:=h k
theorem g23{R G:Prop}(k:R)(h:R->G:=by intro k_;(iterate 23 refine one ?_);exact k_):G:=h k
theorem g24{R G:Prop}(k:R)(h:R->G:=by intro k_;(iterate 24 refine one ?_);exact k_):G:=h k
theorem g25{R G:Prop}(k:R)(h:R->G:=by intro k_;(iterate 25 refine one ?_);exact k_):G:=h k
theorem g26{R G:Prop}(k:R)(h:R->G:=by intro k_;(iterate 26 refine one ?_);exact k_):G:=h k
theorem g27{R G:Prop}(k:R)(h:R->G:=by intro k_;(iterate 27 refine one ?_);exact k_):G:=h k
theorem g28{R G:Prop}(k:R)(h:R->G:=by intro k_;(iterate 28 refine one ?_);exact k_):G:=h k
theorem g29{R G:Prop}(k:R)(h:R->G:=by intro k_;(iterate 29 refine one ?_);exact k_):G:=h k
theorem g30{R G:Prop}(k:R)(h:R->G:=by intro k_;(iterate 30 refine one ?_);exact k_):G:=h k
theorem g31{R G:Prop}(k:R)(h:R->G:=by intro k_;(iterate 31 refine one ?_);exact k_):G:=h k
theorem g32{R G:Prop}(k:R)(h:R->G:=by intro k_;(iterate 32 refine one ?_);exact k_):G:=h k
theorem g34{R G:Prop}(k:R)(h:R->G:=by intro k_;(iterate 34 refine one ?_);exact k_):G:=h k
theorem g35{R G:Prop}(k:R)(h:R->G:=by intro k_;(iterate 35 refine one ?_);exact k_):G:=h k
theorem g37{R G:Prop}(k:R)(h:R->G:=by intro k_;(iterate 37 refine one ?_);exact k_):G:=h k
theorem g40{R G:Prop}(k:R)(h:R->G:=by intro k_;(iterate 40 refine one ?_);exact k_):G:=h k
end
section
variable {P : Program} {β : fS} {n : Nat} {Γ : Env} {H : List bK} {F : List Fact} {Q : Exit -> Act -> World -> Prop} {K : Act -> World -> Prop} {T : Tab} {c : Operand} {x y : Code} {d : Nat}
theorem dP{a b:Int}(ht:a<b->At β n Γ H F (x.wp P Q))(hf:b<=a->At β n Γ H F (y.wp P Q))(hc:Γ.ev c=some (.bool (decide (a<b))):=by exact rfl):At β n Γ H F ((Code.cond c x y).wp P Q):=bX hc (λh=>ht (of_decide_eq_true h)) (λh=>hf (Int.not_lt.1 (of_decide_eq_false h)))
theorem lR{a b:Int}(ht:a<b->At β n ((d,.bool true)::Γ) H F K)(hf:b<=a->At β n ((d,.bool false)::Γ) H F K):At β n ((d,.bool (decide (a<b)))::Γ) H F K:=cG (λh=>ht (of_decide_eq_true h)) (λh=>hf (Int.not_lt.1 (of_decide_eq_false h)))
theorem bLv{a b:Int}(ht:a<=b->At β n Γ H F (x.wp P Q))(hf:b<a->At β n Γ H F (y.wp P Q))(hc:Γ.ev c=some (.bool (decide (a<=b))):=by exact rfl):At β n Γ H F ((Code.cond c x y).wp P Q):=bX hc (λh=>ht (of_decide_eq_true h)) (λh=>hf (Int.not_le.1 (of_decide_eq_false h)))
theorem bRx{a b:Int}(ht:a<=b->At β n ((d,.bool true)::Γ) H F K)(hf:b<a->At β n ((d,.bool false)::Γ) H F K):At β n ((d,.bool (decide (a<=b)))::Γ) H F K:=cG (λh=>ht (of_decide_eq_true h)) (λh=>hf (Int.not_le.1 (of_decide_eq_false h)))
theorem gN{α:Type} [BEq α] [LawfulBEq α]{a b:α}(ht:a=b->At β n Γ H F (x.wp P Q))(hf:a≠b->At β n Γ H F (y.wp P Q))(hc:Γ.ev c=some (.bool (a==b)):=by exact rfl):At β n Γ H F ((Code.cond c x y).wp P Q):=bX hc (λh=>ht (eq_of_beq h)) (λh=>hf (beq_eq_false_iff_ne.1 h))
theorem sD{α:Type} [BEq α] [LawfulBEq α]{a b:α}(ht:a=b->At β n ((d,.bool true)::Γ) H F K)(hf:a≠b->At β n ((d,.bool false)::Γ) H F K):At β n ((d,.bool (a==b))::Γ) H F K:=cG (λh=>ht (eq_of_beq h)) (λh=>hf (beq_eq_false_iff_ne.1 h))
theorem uD{α:Type} [BEq α] [LawfulBEq α]{a b:α}(ht:a≠b->At β n Γ H F (x.wp P Q))(hf:a=b->At β n Γ H F (y.wp P Q))(hc:Γ.ev c=some (.bool (a !=b)):=by exact rfl):At β n Γ H F ((Code.cond c x y).wp P Q):=bX hc (λh=>ht (bne_iff_ne.1 h)) (λh=>hf (bne_eq_false_iff_eq.1 h))
theorem yQ{α:Type} [BEq α] [LawfulBEq α]{a b:α}(ht:a≠b->At β n ((d,.bool true)::Γ) H F K)(hf:a=b->At β n ((d,.bool false)::Γ) H F K):At β n ((d,.bool (a !=b))::Γ) H F K:=cG (λh=>ht (bne_iff_ne.1 h)) (λh=>hf (bne_eq_false_iff_eq.1 h))
theorem iQ{b:Bool}(ht:b=false->At β n Γ H F (x.wp P Q))(hf:b=true->At β n Γ H F (y.wp P Q))(hc:Γ.ev c=some (.bool (!b)):=by exact rfl):At β n Γ H F ((Code.cond c x y).wp P Q):=bX hc (λh=>ht (yZ h)) (λh=>hf (mT h))
theorem bTi{b:Bool}(ht:b=false->At β n ((d,.bool true)::Γ) H F K)(hf:b=true->At β n ((d,.bool false)::Γ) H F K):At β n ((d,.bool (!b))::Γ) H F K:=cG (λh=>ht (yZ h)) (λh=>hf (mT h))
theorem fX{b:Bool}(ht:b=true->At β n Γ H F (x.wp P Q))(hf:b=false->At β n Γ H F (y.wp P Q))(hc:Γ.ev c=some (.bool b):=by exact rfl):At β n Γ H F ((Code.cond c x y).wp P Q):=bX hc ht hf
theorem inc{k:IntKind}{z:Int}(m:Nat)(h:At β n ((d,.int k m)::Γ) H F K)(hz:z=(m:Int):=by exact kQ l7 l7):At β n ((d,.int k z)::Γ) H F K:=bJ hz h
theorem gx{α:Type}(l:List α)(i:Nat)(h:i<l.length:=by omega): ∃x,l[i]?=some x:=⟨_,F1 h⟩
theorem rvcq(hT:gA P T){t ty b q:Nat}{i:TI}{cs l:List Value}(h:Γ.get t=some (.pointer (some ⟨b,q,none⟩)):=by exact rfl)(ht:T.get ty=some i:=by exact rfl)(ha:aggD i.desc=true:=by exact rfl)(hk:nW β H F b q cs:=by first|exact cK cT.head|exact cK kT1|exact cK kT2|exact cK kT3|exact cK kT4|exact cK kT5|exact cK kT6|exact cK kT7|exact cK kT8|exact cK kT9|exact cK bKz|exact cK bLt|exact cK bMg|exact cK bLn)(hv:cut cs 0 i.size=some l:=by exact rfl):RV P β n Γ H F (.cell t ty) (.agg l.toArray):=qR hT hk h ht ha hv
theorem rvc1q(hT:gA P T){t ty b q:Nat}{i:TI}{cs:List Value}{v:Value}(h:Γ.get t=some (.pointer (some ⟨b,q,none⟩)):=by exact rfl)(ht:T.get ty=some i:=by exact rfl)(ha:aggD i.desc=false:=by exact rfl)(hk:nW β H F b q cs:=by first|exact cK cT.head|exact cK kT1|exact cK kT2|exact cK kT3|exact cK kT4|exact cK kT5|exact cK kT6|exact cK kT7|exact cK kT8|exact cK kT9|exact cK bKz|exact cK bLt|exact cK bMg|exact cK bLn)(hv:cs[0]?=some v:=by exact rfl):RV P β n Γ H F (.cell t ty) v:=rv_cell1 hT hk h ht ha hv
theorem rvt{r:ResultVar}{v:Value}(h:RV P β n Γ H F r v:=by first|exact bW rfl|exact rvcq hT|exact rvc1q hT):RV P β n Γ H F r v:=h
theorem selt{R:List bK}(h:Sel H R:=by repeat (first|exact Sel.nil|refine Sel.cons cT.head ?_|refine Sel.cons kT1 ?_|refine Sel.cons kT2 ?_|refine Sel.cons kT3 ?_|refine Sel.cons kT4 ?_|refine Sel.cons kT5 ?_|refine Sel.cons kT6 ?_|refine Sel.cons kT7 ?_|refine Sel.cons kT8 ?_|refine Sel.cons kT9 ?_|refine Sel.cons bKz ?_|refine Sel.cons bLt ?_|refine Sel.cons bMg ?_|refine Sel.cons bLn ?_)):Sel H R:=h
theorem subt{Δ:Env}(h:Γ.Sub Δ:=by repeat (first|exact trivial|refine And.intro rfl ?_)):Γ.Sub Δ:=h
theorem hdt{G:List Fact}(h:bA F G:=by first|exact trivial|exact jA0):bA F G:=h
section
variable {ι : Type} {fn : Func} {val : ι -> Value} {Hout : ι -> List bK} {post : ι -> List Fact} {r1 r2 r3 : ResultVar} {v1 v2 v3 : Value}
theorem rs1(x:ι)(hF:bA F (post x))(hr:fn.results= #[r1]:=by exact rfl)(h1:RV P β n Γ H F r1 v1:=by exact rvt)(hH:Sel H (Hout x):=by exact selt)(he:v1=val x:=by exact rfl):At β n Γ H F (bodyPost P fn (bWq β val Hout post) .ret):=iX x hr h1 hH hF he
theorem rs2(x:ι)(hF:bA F (post x))(hr:fn.results= #[r1,r2]:=by exact rfl)(h1:RV P β n Γ H F r1 v1:=by exact rvt)(h2:RV P β n Γ H F r2 v2:=by exact rvt)(hH:Sel H (Hout x):=by exact selt)(he: .tuple #[v1,v2]=val x:=by exact rfl):At β n Γ H F (bodyPost P fn (bWq β val Hout post) .ret):=dF x hr h1 h2 hH hF he
theorem rs3(x:ι)(hF:bA F (post x))(hr:fn.results= #[r1,r2,r3]:=by exact rfl)(h1:RV P β n Γ H F r1 v1:=by exact rvt)(h2:RV P β n Γ H F r2 v2:=by exact rvt)(h3:RV P β n Γ H F r3 v3:=by exact rvt)(hH:Sel H (Hout x):=by exact selt)(he: .tuple #[v1,v2,v3]=val x:=by exact rfl):At β n Γ H F (bodyPost P fn (bWq β val Hout post) .ret):=at_res3 x hr h1 h2 h3 hH hF he
theorem bk2{G:ι->Env}{Δ:Env}{HH:ι->List bK}{Hr:List bK}{FF:ι->List Fact}{F0:List Fact}{μ:ι->Nat}{m:Nat}(x:ι)(hF:bA F (FF x))(hμ:μ x<m:=by first|omega|(dsimp only;omega))(hG:Γ.Sub (G x):=by exact subt)(hΔ:Γ.Sub Δ:=by exact subt)(hH:Sel H (HH x++Hr):=by exact selt)(hF0:bA F F0:=by exact hdt):At β n Γ H F (Back β n (λx=>G x++Δ) (λx=>HH x++Hr) (λx=>FF x++F0) μ m):=dA x hμ hG hΔ hH hF hF0
end
end
section
variable {P : Program} {β : fS} {n : Nat} {Γ : Env} {H : List bK} {F : List Fact} {T : Tab} {α : Type} {E : Flat α}
theorem Ho{g:Fact}(h:g∈F:=by repeat (first|exact List.Mem.head _|refine List.Mem.tail _ ?_)):Has F g:=Has.of h
theorem rdt{A:Option Addr}{xs:List α}(h:dD β H F E A xs:=by first|exact bG Ho|exact cI ab4|exact reads_held ab4|exact bU ab4 rfl):dD β H F E A xs:=h
theorem ixs{o:Oper}{t e l c:Nat}{x i:Operand}{kk:IntKind}{z:Int}{sz:Nat}{de:TD}{A:Option Addr}{xs:List α}(k:Nat)(hT:gA P T:=by exact hT)(ho:o.op= .indexAddr t x i:=by exact rfl)(hx:Γ.ev x=some (.slice A l c):=by exact rfl)(hi:Γ.ev i=some (.int kk z):=by exact rfl)(hr:dD β H F E A xs:=by exact rdt)(ht:T.get t=some ⟨.slice e,sz⟩:=by exact rfl)(he:T.get e=some ⟨de,E.size⟩:=by exact rfl)(hl:l=xs.length:=by exact rfl)(hz:z=(k:Nat):=by exact rfl)(hk:k<xs.length:=by omega):Sti P β n Γ H F o (.pointer (some ⟨ablk A,aoff A+k*E.size,none⟩)):=cA hT hr ho hx hi ht he hl hz hk
theorem fG{o:Oper}{t:Nat}{p:Operand}{i:TI}{A:Option Addr}{xs:List α}{k:Nat}{x:α}{v:Value}(hx:xs[k]?=some x)(fo:Nat)(hT:gA P T:=by exact hT)(ho:o.op= .load t p:=by exact rfl)(hr:dD β H F E A xs:=by exact rdt)(hp:Γ.ev p=some (.pointer (some ⟨ablk A,aoff A+k*E.size+fo,none⟩)):=by exact rfl)(ht:T.get t=some i:=by exact rfl)(ha:aggD i.desc=false:=by exact rfl)(hv:((E.cells x).drop fo)[0]?=some v:=by exact rfl):Sti P β n Γ H F o (v):=cV hT (hr.knows hx fo) ho hp ht ha hv
theorem pF{o:Oper}{t:Nat}{p:Operand}{i:TI}{A:Option Addr}{xs:List α}{k:Nat}{x:α}{l:List Value}(hx:xs[k]?=some x)(fo:Nat)(hT:gA P T:=by exact hT)(ho:o.op= .load t p:=by exact rfl)(hr:dD β H F E A xs:=by exact rdt)(hp:Γ.ev p=some (.pointer (some ⟨ablk A,aoff A+k*E.size+fo,none⟩)):=by exact rfl)(ht:T.get t=some i:=by exact rfl)(ha:aggD i.desc=true:=by exact rfl)(hv:cut ((E.cells x).drop fo) 0 i.size=some l:=by exact rfl):Sti P β n Γ H F o (.agg l.toArray):=fP hT (hr.knows hx fo) ho hp ht ha hv
theorem u8{α:Type}{a0 a1 a2 a3 a4 a5 a6 a7 x:α}{l:List α}(h:x∈l):x∈a0::a1::a2::a3::a4::a5::a6::a7::l:= tQ4 (.tail _ (.tail _ (.tail _ (.tail _ h))))
theorem asd{p:Prop}(h:p:=by first|assumption|(simp only[Bool.not_eq_true',Bool.not_eq_false',beq_iff_eq];assumption)):p:=h
