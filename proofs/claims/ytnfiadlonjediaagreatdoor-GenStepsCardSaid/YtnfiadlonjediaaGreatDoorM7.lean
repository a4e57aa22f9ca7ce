/- Texts of one proof, one behind the other: MixS, Dns, Grows, PolyK0, TysK, CoreP, LifeP, FuseP, FuseQ, Cut, CorF. -/
import Derived.Test.YtnfiadlonjediaaGreatDoorM6
import Derived.Test.YtnfiadlonjediaaGreatDoorM4
import Derived.Test.YtnfiadlonjediaaGreatDoorM2
import Derived.Laws.Slices
set_option maxRecDepth 100000
namespace Go.Proofs.YtnfiadlonjediaaGreatDoor
open Lib renaming hid->R1
open _root_.Bool renaming true_or->T7,true_eq_false->T8,and_eq_true->G1
open _root_.List renaming getElem?_eq_some_iff->D9,replicate->T9,length_modify->U0,getElem?_modify->U1,foldl_cons->U2,length_cons->E1,mem_cons_self->D5,mem_cons_of_mem->D1,mem_cons->C9,any_eq_true->U3,mem_filterMap->U4,getD_eq_getElem?_getD->U5,getElem?_set->U6,getElem?_cons_succ->U7,all_eq_true->D6,getElem?_map->I7,filter_append->U8,length_map->K3
open _root_.Option renaming map_some->I2,map_none->I3
open Result renaming andThen_ok->E8
open Sem renaming run_bind->E6
section
open Go.RowKit Go.Proofs.Tryz
section
variable {P : Program} {ops : Array Oper} {md : Region.Mode} {C : World -> Prop} {R : Array Bool -> Act -> World -> Prop}
def zT (P:Program)(ops:Array Oper)(K:Act->World->Prop):List Nat->Act->World->Prop
 |[],a,w=>K a w
 |l::r,a,w=>fOp P ops l (zT P ops K r) a w
def sR (P:Program)(ops:Array Oper)(C:World->Prop)(Q:Exit->Act->World->Prop)(ls:List Nat):List (Bool×Nat)->Act->World->Prop
 |[],a,w=>zT P ops (Q .normal) ls a w
 |(true,k)::r,a,w=> ∃o v,ops[k]?=some o/\Fl P ops C o v a/\sR P ops C Q ls r (a.put o.dst v) w
 |(false,k)::r,a,w=>fOp P ops k (λa w=>C w/\sR P ops C Q ls r a w) a w
end
section
variable {P : Program} {β : dE} {n : Nat} {Γ : Env} {H : List bC} {F : List bE} {Q : Exit -> Act -> World -> Prop} {Hk : List bC} {F0 : List bE} {ops : Array Oper} {ls : List Nat}
theorem ats_sti{r:List (Bool×Nat)}{o:Oper}{k d:Nat}{v:Value}(hk:ops[k]?=some o)(hw:want ops Γ o=some true)(hd:o.dst=some d)(hn:Nat.blt d n=true)(h:Sti P β n Γ Hk F0 o v)
  (K:At β n ((d,v)::Γ) H F (sR P ops (StF β Hk F0) Q ls r)):At β n Γ H F (sR P ops (StF β Hk F0) Q ls ((true,k)::r)):=λa w S f s g=>by
 refine⟨o,v,hk,.inl ⟨f.want hw,λb ⟨i,c,e⟩=>h a b i f c e⟩,?_⟩;rw[hd];exact K _ _ S (f.put m9 v) s g
theorem ats_op{r:List (Bool×Nat)}{o:Oper}{k:Nat}{C:World->Prop}(hk:ops[k]?=some o)(h:At β n Γ H F (wpList P ops (Nm λa w=>C w/\sR P ops C Q ls r a w) [o])):At β n Γ H F (sR P ops C Q ls ((false,k)::r)):=λa w S f s d c b=>by
 have:c=o:=Option.some.inj (b.symm.trans hk);subst this;exact h a w S f s d
theorem ats_go{r:List (Bool×Nat)}(hH:Sel H Hk)(hF:bA F F0)(h:At β n Γ H F (sR P ops (StF β Hk F0) Q ls r)):At β n Γ H F (wpList P ops (Nm λa w=>StF β Hk F0 w/\sR P ops (StF β Hk F0) Q ls r a w) []):=λa w S f s k=>
 ⟨rfl,StF.sel hH hF ⟨S,s,k⟩,h a w S f s k⟩
theorem ats_tail{C:World->Prop}(h:At β n Γ H F (zT P ops (Q .normal) ls)):At β n Γ H F (sR P ops C Q ls []):=h
theorem ats_last{K:Act->World->Prop}{o:Oper}{l:Nat}(hk:ops[l]?=some o)(h:At β n Γ H F (wpList P ops (Nm (zT P ops K ls)) [o])):At β n Γ H F (zT P ops K (l::ls)):=λa w S f s d c b=>by
 have:c=o:=Option.some.inj (b.symm.trans hk);subst this;exact h a w S f s d
theorem ats_nil{K:Act->World->Prop}(h:At β n Γ H F K):At β n Γ H F (zT P ops K []):=h
end
section
variable {P : Program} {β : dE} {n : Nat} {Γ : Env} {H : List bC} {F : List bE} {Q : Exit -> Act -> World -> Prop} {K : Act -> World -> Prop} {T : Tab} {ops : Array Oper} {rest : List Oper} {o : Oper} {d : Nat} {v : Value}
theorem ldqO(hT:dU P T){t b q:Nat}{p:Operand}{cs:List Value}{i:TI}(ho:o.op= .load t p:=by exact rfl)(hp:Γ.ev p=some (.pointer (some ⟨b,q,none⟩)):=by exact rfl)(ht:T.get t=some i:=by exact rfl)(ha:aggD i.desc=false:=by exact rfl)(hk:oU β H F b q cs:=by first|exact bO bU.head|exact bO kT1|exact bO kT2|exact bO kT3|exact bO kT4|exact bO kT5|exact bO kT6|exact bO kT7|exact bO kT8|exact bO kT9|exact bO bHz|exact bO bIm|exact bO bHw|exact bO bHy)(hv:cs[0]?=some v:=by exact rfl):Sti P β n Γ H F o v:=bK hT hk ho hp ht ha hv
theorem ldqN(hT:dU P T){t b q:Nat}{p:Operand}{cs l:List Value}{i:TI}(ho:o.op= .load t p:=by exact rfl)(hp:Γ.ev p=some (.pointer (some ⟨b,q,none⟩)):=by exact rfl)(ht:T.get t=some i:=by exact rfl)(ha:aggD i.desc=true:=by exact rfl)(hk:oU β H F b q cs:=by first|exact bO bU.head|exact bO kT1|exact bO kT2|exact bO kT3|exact bO kT4|exact bO kT5|exact bO kT6|exact bO kT7|exact bO kT8|exact bO kT9|exact bO bHz|exact bO bIm|exact bO bHw|exact bO bHy)(hv:cut cs 0 i.size=some l:=by exact rfl):Sti P β n Γ H F o (.agg l.toArray):=sH hT hk ho hp ht ha hv
theorem stoq(hT:dU P T){t t' b off:Nat}{p x:Operand}{vs cs cs':List Value}{i:TI}{H':List bC}(k:At β n Γ (.obj b (.cells cs'.toArray t')::H') F (wpList P ops Q rest))(ho:o.op= .store t p x:=by exact rfl)(hp:Γ.ev p=some (.pointer (some ⟨b,off,none⟩)):=by exact rfl)(hx:Γ.ev x=some v:=by exact rfl)(hH:bU H (.obj b (.cells cs.toArray t')) H':=by first|exact bU.head|exact kT1|exact kT2|exact kT3|exact kT4|exact kT5|exact kT6|exact kT7|exact kT8|exact kT9|exact bHz|exact bIm|exact bHw|exact bHy)(ht:T.get t=some i:=by exact rfl)(hc:v.cells=vs.toArray:=by exact rfl)(hs:Nat.beq vs.length i.size=true:=by exact rfl)(h1:vs.all (·.oneCell')=true:=by exact rfl)(hput:rP cs off vs=some cs':=by exact rfl)(hw:want ops Γ o=some true:=by exact rfl)(hd:o.dst=none:=by exact rfl):At β n Γ H F (wpList P ops Q (o::rest)):=rC hT hw ho hd hp hx hH ht hc hs h1 hput k
theorem gdC{c:Code}(h:At β n Γ H F (c.wp P Q)):At β n Γ H F (c.wp P Q):=h
theorem gdW{l:List Oper}(h:At β n Γ H F (wpList P ops Q l)):At β n Γ H F (wpList P ops Q l):=h
theorem gdN(h:At β n Γ H F (wpList P ops Q [])):At β n Γ H F (wpList P ops Q []):=h
theorem gdT{e:Exit}(h:At β n Γ H F (Exit.then K Q e)):At β n Γ H F (Exit.then K Q e):=h
theorem gdB{i:Nat}{e:Exit}(h:At β n Γ H F (Exit.inBlock i Q e)):At β n Γ H F (Exit.inBlock i Q e):=h
theorem gdS{e:Exit}(h:At β n Γ H F (Exit.noGoto Q e)):At β n Γ H F (Exit.noGoto Q e):=h
theorem gdM{C:World->Prop}{r:List (Bool×Nat)}(h:At β n Γ H F (oQ P ops C Q r)):At β n Γ H F (oQ P ops C Q r):=h
theorem gdL{C:World->Prop}{r:List (Bool×Nat)}{l:Nat}(h:At β n Γ H F (mM P ops C Q l r)):At β n Γ H F (mM P ops C Q l r):=h
theorem gdX{C:World->Prop}{r:Tr}(h:At β n Γ H F (jP P ops C Q r)):At β n Γ H F (jP P ops C Q r):=h
theorem gdY{C:World->Prop}{ls:List Nat}{r:List (Bool×Nat)}(h:At β n Γ H F (sR P ops C Q ls r)):At β n Γ H F (sR P ops C Q ls r):=h
theorem one{R G:Prop}(k:R)(h:R->G:=by
  intro k_
  first
  |((with_reducible refine gdC ?_);first|with_reducible exact fS k_|with_reducible exact mO k_|with_reducible exact wR k_|with_reducible exact uE k_|with_reducible exact yA k_|with_reducible exact at_exit k_|with_reducible exact at_scope k_|with_reducible exact at_label k_|exact mT rfl rfl k_|exact at_false rfl rfl k_)
  |((with_reducible refine gdW ?_);first|((with_reducible refine gdN ?_);first|((with_reducible refine bCd ?_ ?_ k_);(repeat (first|exact Sel.nil|refine Sel.cons bU.head ?_|refine Sel.cons kT1 ?_|refine Sel.cons kT2 ?_|refine Sel.cons kT3 ?_|refine Sel.cons kT4 ?_|refine Sel.cons kT5 ?_|refine Sel.cons kT6 ?_|refine Sel.cons kT7 ?_|refine Sel.cons kT8 ?_|refine Sel.cons kT9 ?_|refine Sel.cons bHz ?_|refine Sel.cons bIm ?_|refine Sel.cons bHw ?_|refine Sel.cons bHy ?_));(first|exact trivial|exact bA.drop 0|exact bA.drop 1|exact bA.drop 2|exact bA.drop 3|exact bA.drop 4|exact bA.drop 5|exact bA.drop 6|exact bA.drop 7|exact bA.drop 8|exact bA.drop 9|exact bA.drop 10|exact bA.drop 11|exact bA.drop 12|exact bA.drop 13|exact bA.drop 14|exact bA.drop 15|exact bA.drop 16|exact bA.drop 17|exact bA.drop 18|exact bA.drop 19|exact bA.drop 20|exact bA.drop 21|exact bA.drop 22|exact bA.drop 23|exact bA.drop 24|exact bA.drop 25|exact bA.drop 26|exact bA.drop 27|exact bA.drop 28|exact bA.drop 29|exact bA.drop 30|exact bA.drop 31|exact bA.drop 32|exact bA.drop 33|exact bA.drop 34|exact bA.drop 35|exact bA.drop 36|exact bA.drop 37|exact bA.drop 38|exact bA.drop 39|exact bA.drop 40|exact bA.drop 41|exact bA.drop 42|exact bA.drop 43|exact bA.drop 44|exact bA.drop 45|exact bA.drop 46|exact bA.drop 47|exact bA.drop 48|exact bA.drop 49|exact bA.drop 50|exact bA.drop 51|exact bA.drop 52|exact bA.drop 53|exact bA.drop 54|exact bA.drop 55|exact bA.drop 56|exact bA.drop 57|exact bA.drop 58|exact bA.drop 59|exact bA.drop 60|exact bA.drop 61|exact bA.drop 62|exact bA.drop 63|exact bA.drop 64|exact bA.drop 65|exact bA.drop 66|exact bA.drop 67|exact bA.drop 68|exact bA.drop 69))|((with_reducible refine atl_go ?_ ?_ k_);(repeat (first|exact Sel.nil|refine Sel.cons bU.head ?_|refine Sel.cons kT1 ?_|refine Sel.cons kT2 ?_|refine Sel.cons kT3 ?_|refine Sel.cons kT4 ?_|refine Sel.cons kT5 ?_|refine Sel.cons kT6 ?_|refine Sel.cons kT7 ?_|refine Sel.cons kT8 ?_|refine Sel.cons kT9 ?_|refine Sel.cons bHz ?_|refine Sel.cons bIm ?_|refine Sel.cons bHw ?_|refine Sel.cons bHy ?_));(first|exact trivial|exact bA.drop 0|exact bA.drop 1|exact bA.drop 2|exact bA.drop 3|exact bA.drop 4|exact bA.drop 5|exact bA.drop 6|exact bA.drop 7|exact bA.drop 8|exact bA.drop 9|exact bA.drop 10|exact bA.drop 11|exact bA.drop 12|exact bA.drop 13|exact bA.drop 14|exact bA.drop 15|exact bA.drop 16|exact bA.drop 17|exact bA.drop 18|exact bA.drop 19|exact bA.drop 20|exact bA.drop 21|exact bA.drop 22|exact bA.drop 23|exact bA.drop 24|exact bA.drop 25|exact bA.drop 26|exact bA.drop 27|exact bA.drop 28|exact bA.drop 29|exact bA.drop 30|exact bA.drop 31|exact bA.drop 32|exact bA.drop 33|exact bA.drop 34|exact bA.drop 35|exact bA.drop 36|exact bA.drop 37|exact bA.drop 38|exact bA.drop 39|exact bA.drop 40|exact bA.drop 41|exact bA.drop 42|exact bA.drop 43|exact bA.drop 44|exact bA.drop 45|exact bA.drop 46|exact bA.drop 47|exact bA.drop 48|exact bA.drop 49|exact bA.drop 50|exact bA.drop 51|exact bA.drop 52|exact bA.drop 53|exact bA.drop 54|exact bA.drop 55|exact bA.drop 56|exact bA.drop 57|exact bA.drop 58|exact bA.drop 59|exact bA.drop 60|exact bA.drop 61|exact bA.drop 62|exact bA.drop 63|exact bA.drop 64|exact bA.drop 65|exact bA.drop 66|exact bA.drop 67|exact bA.drop 68|exact bA.drop 69))|((with_reducible refine att_go ?_ ?_ k_);(repeat (first|exact Sel.nil|refine Sel.cons bU.head ?_|refine Sel.cons kT1 ?_|refine Sel.cons kT2 ?_|refine Sel.cons kT3 ?_|refine Sel.cons kT4 ?_|refine Sel.cons kT5 ?_|refine Sel.cons kT6 ?_|refine Sel.cons kT7 ?_|refine Sel.cons kT8 ?_|refine Sel.cons kT9 ?_|refine Sel.cons bHz ?_|refine Sel.cons bIm ?_|refine Sel.cons bHw ?_|refine Sel.cons bHy ?_));(first|exact trivial|exact bA.drop 0|exact bA.drop 1|exact bA.drop 2|exact bA.drop 3|exact bA.drop 4|exact bA.drop 5|exact bA.drop 6|exact bA.drop 7|exact bA.drop 8|exact bA.drop 9|exact bA.drop 10|exact bA.drop 11|exact bA.drop 12|exact bA.drop 13|exact bA.drop 14|exact bA.drop 15|exact bA.drop 16|exact bA.drop 17|exact bA.drop 18|exact bA.drop 19|exact bA.drop 20|exact bA.drop 21|exact bA.drop 22|exact bA.drop 23|exact bA.drop 24|exact bA.drop 25|exact bA.drop 26|exact bA.drop 27|exact bA.drop 28|exact bA.drop 29|exact bA.drop 30|exact bA.drop 31|exact bA.drop 32|exact bA.drop 33|exact bA.drop 34|exact bA.drop 35|exact bA.drop 36|exact bA.drop 37|exact bA.drop 38|exact bA.drop 39|exact bA.drop 40|exact bA.drop 41|exact bA.drop 42|exact bA.drop 43|exact bA.drop 44|exact bA.drop 45|exact bA.drop 46|exact bA.drop 47|exact bA.drop 48|exact bA.drop 49|exact bA.drop 50|exact bA.drop 51|exact bA.drop 52|exact bA.drop 53|exact bA.drop 54|exact bA.drop 55|exact bA.drop 56|exact bA.drop 57|exact bA.drop 58|exact bA.drop 59|exact bA.drop 60|exact bA.drop 61|exact bA.drop 62|exact bA.drop 63|exact bA.drop 64|exact bA.drop 65|exact bA.drop 66|exact bA.drop 67|exact bA.drop 68|exact bA.drop 69))|((with_reducible refine ats_go ?_ ?_ k_);(repeat (first|exact Sel.nil|refine Sel.cons bU.head ?_|refine Sel.cons kT1 ?_|refine Sel.cons kT2 ?_|refine Sel.cons kT3 ?_|refine Sel.cons kT4 ?_|refine Sel.cons kT5 ?_|refine Sel.cons kT6 ?_|refine Sel.cons kT7 ?_|refine Sel.cons kT8 ?_|refine Sel.cons kT9 ?_|refine Sel.cons bHz ?_|refine Sel.cons bIm ?_|refine Sel.cons bHw ?_|refine Sel.cons bHy ?_));(first|exact trivial|exact bA.drop 0|exact bA.drop 1|exact bA.drop 2|exact bA.drop 3|exact bA.drop 4|exact bA.drop 5|exact bA.drop 6|exact bA.drop 7|exact bA.drop 8|exact bA.drop 9|exact bA.drop 10|exact bA.drop 11|exact bA.drop 12|exact bA.drop 13|exact bA.drop 14|exact bA.drop 15|exact bA.drop 16|exact bA.drop 17|exact bA.drop 18|exact bA.drop 19|exact bA.drop 20|exact bA.drop 21|exact bA.drop 22|exact bA.drop 23|exact bA.drop 24|exact bA.drop 25|exact bA.drop 26|exact bA.drop 27|exact bA.drop 28|exact bA.drop 29|exact bA.drop 30|exact bA.drop 31|exact bA.drop 32|exact bA.drop 33|exact bA.drop 34|exact bA.drop 35|exact bA.drop 36|exact bA.drop 37|exact bA.drop 38|exact bA.drop 39|exact bA.drop 40|exact bA.drop 41|exact bA.drop 42|exact bA.drop 43|exact bA.drop 44|exact bA.drop 45|exact bA.drop 46|exact bA.drop 47|exact bA.drop 48|exact bA.drop 49|exact bA.drop 50|exact bA.drop 51|exact bA.drop 52|exact bA.drop 53|exact bA.drop 54|exact bA.drop 55|exact bA.drop 56|exact bA.drop 57|exact bA.drop 58|exact bA.drop 59|exact bA.drop 60|exact bA.drop 61|exact bA.drop 62|exact bA.drop 63|exact bA.drop 64|exact bA.drop 65|exact bA.drop 66|exact bA.drop 67|exact bA.drop 68|exact bA.drop 69))|with_reducible exact atl_end k_|with_reducible exact jO k_)|exact iH rfl rfl rfl (fJ hT rfl) k_|exact bOh rfl rfl rfl k_|exact iH rfl rfl rfl (ldqO hT) k_|exact iH rfl rfl rfl (ldqN hT) k_|exact stoq hT k_)
  |((with_reducible refine gdT ?_);first|with_reducible exact mG k_|with_reducible exact wS k_|with_reducible exact bPz k_)
  |((with_reducible refine gdB ?_);first|with_reducible exact n_block k_|with_reducible exact bEk k_|with_reducible exact x_block k_|((with_reducible refine x_pass ?_ k_);exact rfl))
  |((with_reducible refine gdS ?_);first|with_reducible exact n_scope k_|with_reducible exact r_scope k_|with_reducible exact x_scope k_)
  |((with_reducible refine gdM ?_);first|with_reducible exact atm_nil k_|exact bEq rfl rfl rfl rfl (fJ hT rfl) k_|exact atm_skipped rfl rfl rfl rfl k_|with_reducible exact atm_op rfl k_|exact bEq rfl rfl rfl rfl (ldqO hT) k_|exact bEq rfl rfl rfl rfl (ldqN hT) k_)
  |((with_reducible refine gdL ?_);first|exact bLk rfl rfl rfl rfl (fJ hT rfl) k_|with_reducible exact atl_op rfl k_|with_reducible exact atl_last rfl k_|exact bLk rfl rfl rfl rfl (ldqO hT) k_|exact bLk rfl rfl rfl rfl (ldqN hT) k_)
  |((with_reducible refine gdX ?_);first|with_reducible exact att_nil k_|exact bLu rfl rfl rfl rfl (fJ hT rfl) k_|exact att_skipped rfl rfl rfl rfl k_|with_reducible exact att_op rfl k_|exact bLu rfl rfl rfl rfl (ldqO hT) k_|exact bLu rfl rfl rfl rfl (ldqN hT) k_)
  |((with_reducible refine gdY ?_);first|with_reducible exact ats_tail k_|exact ats_sti rfl rfl rfl rfl (fJ hT rfl) k_|with_reducible exact ats_op rfl k_|exact ats_sti rfl rfl rfl rfl (ldqO hT) k_|exact ats_sti rfl rfl rfl rfl (ldqN hT) k_)
  |with_reducible exact ats_last rfl k_
  |with_reducible exact ats_nil k_):G:=h k
theorem g2{R G:Prop}(k:R)(h:R->G:=by intro k_;(iterate 2 refine one ?_);exact k_):G:=h k
theorem g3{R G:Prop}(k:R)(h:R->G:=by intro k_;(iterate 3 refine one ?_);exact k_):G:=h k
theorem g4{R G:Prop}(k:R)(h:R->G:=by intro k_;(iterate 4 refine one ?_);exact k_):G:=h k
theorem g5{R G:Prop}(k:R)(h:R->G:=by intro k_;(iterate 5 refine one ?_);exact k_):G:=h k
theorem g6{R G:Prop}(k:R)(h:R->G:=by intro k_;(iterate 6 refine one ?_);exact k_):G:=h k
theorem g7{R G:Prop}(k:R)(h:R->G:=by intro k_;(iterate 7 refine one ?_);exact k_):G:=h k
theorem g8{R G:Prop}(k:R)(h:R->G:=by intro k_;(iterate 8 refine one ?_);exact k_):G:=h k
theorem g9{R G:Prop}(k:R)(h:R->G:=by intro k_;(iterate 9 refine one ?_);exact k_):G:=h k
theorem g10{R G:Prop}(k:R)(h:R->G:=by intro k_;(iterate 10 refine one ?_);exact k_):G:=h k
theorem g11{R G:Prop}(k:R)(h:R->G:=by intro k_;(iterate 11 refine one ?_);exact k_):G:=h k
theorem g12{R G:Prop}(k:R)(h:R->G:=by intro k_;(iterate 12 refine one ?_);exact k_):G:=h k
theorem g13{R G:Prop}(k:R)(h:R->G:=by intro k_;(iterate 13 refine one ?_);exact k_):G:=h k
theorem g14{R G:Prop}(k:R)(h:R->G:=by intro k_;(iterate 14 refine one ?_);exact k_):G:=h k
theorem g15{R G:Prop}(k:R)(h:R->G:=by intro k_;(iterate 15 refine one ?_);exact k_):G:=h k
theorem g16{R G:Prop}(k:R)(h:R->G:=by intro k_;(iterate 16 refine one ?_);exact k_):G:=h k
theorem g17{R G:Prop}(k:R)(h:R->G:=by intro k_;(iterate 17 refine one ?_);exact k_):G:=h k
theorem g18{R G:Prop}(k:R)(h:R->G:=by intro k_;(iterate 18 refine one ?_);exact k_):G:=h k
theorem g19{R G:Prop}(k:R)(h:R->G:=by intro k_;(iterate 19 refine one ?_);exact k_):G:=h k
theorem g20{R G:Prop}(k:R)(h:R->G:=by intro k_;(iterate 20 refine one ?_);exact k_):G:=h k
theorem g21{R G:Prop}(k:R)(h:R->G:=by intro k_;(iterate 21 refine one ?_);exact k_):G:=h k
theorem g22{R G:Prop}(k:R)(h:R->G:=by intro k_;(iterate 22 refine one ?_);exact k_):G:=h k
theorem g23{R G:Prop}(k:R)(h:R->G:=by intro k_;(iterate 23 refine one ?_);exact k_):G:=h k
theorem g24{R G:Prop}(k:R)(h:R->G:=by intro k_;(iterate 24 refine one ?_);exact k_):G:=h k
theorem g25{R G:Prop}(k:R)(h:R->G:=by intro k_;(iterate 25 refine one ?_);exact k_):G:=h k
theorem g26{R G:Prop}(k:R)(h:R->G:=by intro k_;(iterate 26 refine one ?_);exact k_):G:=h k
theorem g27{R G:Prop}(k:R)(h:R->G:=by intro k_;(iterate 27 refine one ?_);exact k_):G:=h k
theorem g30{R G:Prop}(k:R)(h:R->G:=by intro k_;(iterate 30 refine one ?_);exact k_):G:=h k
theorem g32{R G:Prop}(k:R)(h:R->G:=by intro k_;(iterate 32 refine one ?_);exact k_):G:=h k
theorem g33{R G:Prop}(k:R)(h:R->G:=by intro k_;(iterate 33 refine one ?_);exact k_):G:=h k
theorem g34{R G:Prop}(k:R)(h:R->G:=by intro k_;(iterate 34 refine one ?_);exact k_):G:=h k
theorem g35{R G:Prop}(k:R)(h:R->G:=by intro k_;(iterate 35 refine one ?_);exact k_):G:=h k
theorem g37{R G:Prop}(k:R)(h:R->G:=by intro k_;(iterate 37 refine one ?_);exact k_):G:=h k
theorem g38{R G:Prop}(k:R)(h:R->G:=by intro k_;(iterate 38 refine one ?_);exact k_):G:=h k
theorem g40{R G:Prop}(k:R)(h:R->G:=by intro k_;(iterate 40 refine one ?_);exact k_):G:=h k
end
section
variable {P : Program} {β : dE} {n : Nat} {Γ : Env} {H : List bC} {F : List bE} {Q : Exit -> Act -> World -> Prop} {K : Act -> World -> Prop} {T : Tab} {c : Operand} {x y : Code} {d : Nat}
theorem fD{a b:Int}(ht:a<b->At β n Γ H F (x.wp P Q))(hf:b<=a->At β n Γ H F (y.wp P Q))(hc:Γ.ev c=some (.bool (decide (a<b))):=by exact rfl):At β n Γ H F ((Code.cond c x y).wp P Q):=cR hc (λh=>ht (of_decide_eq_true h)) (λh=>hf (Int.not_lt.1 (of_decide_eq_false h)))
theorem vP{a b:Int}(ht:a<b->At β n ((d,.bool true)::Γ) H F K)(hf:b<=a->At β n ((d,.bool false)::Γ) H F K):At β n ((d,.bool (decide (a<b)))::Γ) H F K:=dB (λh=>ht (of_decide_eq_true h)) (λh=>hf (Int.not_lt.1 (of_decide_eq_false h)))
theorem bRd{a b:Int}(ht:a<=b->At β n Γ H F (x.wp P Q))(hf:b<a->At β n Γ H F (y.wp P Q))(hc:Γ.ev c=some (.bool (decide (a<=b))):=by exact rfl):At β n Γ H F ((Code.cond c x y).wp P Q):=cR hc (λh=>ht (of_decide_eq_true h)) (λh=>hf (Int.not_le.1 (of_decide_eq_false h)))
theorem k_le{a b:Int}(ht:a<=b->At β n ((d,.bool true)::Γ) H F K)(hf:b<a->At β n ((d,.bool false)::Γ) H F K):At β n ((d,.bool (decide (a<=b)))::Γ) H F K:=dB (λh=>ht (of_decide_eq_true h)) (λh=>hf (Int.not_le.1 (of_decide_eq_false h)))
theorem fG{α:Type} [BEq α] [LawfulBEq α]{a b:α}(ht:a=b->At β n Γ H F (x.wp P Q))(hf:a≠b->At β n Γ H F (y.wp P Q))(hc:Γ.ev c=some (.bool (a==b)):=by exact rfl):At β n Γ H F ((Code.cond c x y).wp P Q):=cR hc (λh=>ht (eq_of_beq h)) (λh=>hf (beq_eq_false_iff_ne.1 h))
theorem k_eq{α:Type} [BEq α] [LawfulBEq α]{a b:α}(ht:a=b->At β n ((d,.bool true)::Γ) H F K)(hf:a≠b->At β n ((d,.bool false)::Γ) H F K):At β n ((d,.bool (a==b))::Γ) H F K:=dB (λh=>ht (eq_of_beq h)) (λh=>hf (beq_eq_false_iff_ne.1 h))
theorem bEw{α:Type} [BEq α] [LawfulBEq α]{a b:α}(ht:a≠b->At β n Γ H F (x.wp P Q))(hf:a=b->At β n Γ H F (y.wp P Q))(hc:Γ.ev c=some (.bool (a !=b)):=by exact rfl):At β n Γ H F ((Code.cond c x y).wp P Q):=cR hc (λh=>ht (bne_iff_ne.1 h)) (λh=>hf (bne_eq_false_iff_eq.1 h))
theorem k_ne{α:Type} [BEq α] [LawfulBEq α]{a b:α}(ht:a≠b->At β n ((d,.bool true)::Γ) H F K)(hf:a=b->At β n ((d,.bool false)::Γ) H F K):At β n ((d,.bool (a !=b))::Γ) H F K:=dB (λh=>ht (bne_iff_ne.1 h)) (λh=>hf (bne_eq_false_iff_eq.1 h))
theorem bBd{b:Bool}(ht:b=false->At β n Γ H F (x.wp P Q))(hf:b=true->At β n Γ H F (y.wp P Q))(hc:Γ.ev c=some (.bool (!b)):=by exact rfl):At β n Γ H F ((Code.cond c x y).wp P Q):=cR hc (λh=>ht (bKs h)) (λh=>hf (bJh h))
theorem k_nt{b:Bool}(ht:b=false->At β n ((d,.bool true)::Γ) H F K)(hf:b=true->At β n ((d,.bool false)::Γ) H F K):At β n ((d,.bool (!b))::Γ) H F K:=dB (λh=>ht (bKs h)) (λh=>hf (bJh h))
theorem uY{b:Bool}(ht:b=true->At β n Γ H F (x.wp P Q))(hf:b=false->At β n Γ H F (y.wp P Q))(hc:Γ.ev c=some (.bool b):=by exact rfl):At β n Γ H F ((Code.cond c x y).wp P Q):=cR hc ht hf
theorem inc{k:IntKind}{z:Int}(m:Nat)(h:At β n ((d,.int k m)::Γ) H F K)(hz:z=(m:Int):=by exact bBq k9 k9):At β n ((d,.int k z)::Γ) H F K:=bF hz h
theorem gx{α:Type}(l:List α)(i:Nat)(h:i<l.length:=by omega): ∃x,l[i]?=some x:=⟨_,List.getElem?_eq_getElem h⟩
theorem rvcq(hT:dU P T){t ty b q:Nat}{i:TI}{cs l:List Value}(h:Γ.get t=some (.pointer (some ⟨b,q,none⟩)):=by exact rfl)(ht:T.get ty=some i:=by exact rfl)(ha:aggD i.desc=true:=by exact rfl)(hk:oU β H F b q cs:=by first|exact bO bU.head|exact bO kT1|exact bO kT2|exact bO kT3|exact bO kT4|exact bO kT5|exact bO kT6|exact bO kT7|exact bO kT8|exact bO kT9|exact bO bHz|exact bO bIm|exact bO bHw|exact bO bHy)(hv:cut cs 0 i.size=some l:=by exact rfl):RV P β n Γ H F (.cell t ty) (.agg l.toArray):=rv_cell hT hk h ht ha hv
theorem rvc1q(hT:dU P T){t ty b q:Nat}{i:TI}{cs:List Value}{v:Value}(h:Γ.get t=some (.pointer (some ⟨b,q,none⟩)):=by exact rfl)(ht:T.get ty=some i:=by exact rfl)(ha:aggD i.desc=false:=by exact rfl)(hk:oU β H F b q cs:=by first|exact bO bU.head|exact bO kT1|exact bO kT2|exact bO kT3|exact bO kT4|exact bO kT5|exact bO kT6|exact bO kT7|exact bO kT8|exact bO kT9|exact bO bHz|exact bO bIm|exact bO bHw|exact bO bHy)(hv:cs[0]?=some v:=by exact rfl):RV P β n Γ H F (.cell t ty) v:=rv_cell1 hT hk h ht ha hv
theorem rvt{r:ResultVar}{v:Value}(h:RV P β n Γ H F r v:=by first|exact rv_tmp rfl|exact rvcq hT|exact rvc1q hT):RV P β n Γ H F r v:=h
theorem selt{R:List bC}(h:Sel H R:=by repeat (first|exact Sel.nil|refine Sel.cons bU.head ?_|refine Sel.cons kT1 ?_|refine Sel.cons kT2 ?_|refine Sel.cons kT3 ?_|refine Sel.cons kT4 ?_|refine Sel.cons kT5 ?_|refine Sel.cons kT6 ?_|refine Sel.cons kT7 ?_|refine Sel.cons kT8 ?_|refine Sel.cons kT9 ?_|refine Sel.cons bHz ?_|refine Sel.cons bIm ?_|refine Sel.cons bHw ?_|refine Sel.cons bHy ?_)):Sel H R:=h
theorem subt{Δ:Env}(h:Γ.Sub Δ:=by repeat (first|exact trivial|refine And.intro rfl ?_)):Γ.Sub Δ:=h
theorem hdt{G:List bE}(h:bA F G:=by first|exact trivial|exact bA.drop 0|exact bA.drop 1|exact bA.drop 2|exact bA.drop 3|exact bA.drop 4|exact bA.drop 5|exact bA.drop 6|exact bA.drop 7|exact bA.drop 8|exact bA.drop 9|exact bA.drop 10|exact bA.drop 11|exact bA.drop 12|exact bA.drop 13|exact bA.drop 14|exact bA.drop 15|exact bA.drop 16|exact bA.drop 17|exact bA.drop 18|exact bA.drop 19|exact bA.drop 20|exact bA.drop 21|exact bA.drop 22|exact bA.drop 23|exact bA.drop 24|exact bA.drop 25|exact bA.drop 26|exact bA.drop 27|exact bA.drop 28|exact bA.drop 29|exact bA.drop 30|exact bA.drop 31|exact bA.drop 32|exact bA.drop 33|exact bA.drop 34|exact bA.drop 35|exact bA.drop 36|exact bA.drop 37|exact bA.drop 38|exact bA.drop 39|exact bA.drop 40|exact bA.drop 41|exact bA.drop 42|exact bA.drop 43|exact bA.drop 44|exact bA.drop 45|exact bA.drop 46|exact bA.drop 47|exact bA.drop 48|exact bA.drop 49|exact bA.drop 50|exact bA.drop 51|exact bA.drop 52|exact bA.drop 53|exact bA.drop 54|exact bA.drop 55|exact bA.drop 56|exact bA.drop 57|exact bA.drop 58|exact bA.drop 59|exact bA.drop 60|exact bA.drop 61|exact bA.drop 62|exact bA.drop 63|exact bA.drop 64|exact bA.drop 65|exact bA.drop 66|exact bA.drop 67|exact bA.drop 68|exact bA.drop 69):bA F G:=h
section
variable {ι : Type} {fn : Func} {val : ι -> Value} {Hout : ι -> List bC} {post : ι -> List bE} {r1 r2 r3 : ResultVar} {v1 v2 v3 : Value}
theorem rs1(x:ι)(hF:bA F (post x))(hr:fn.results= #[r1]:=by exact rfl)(h1:RV P β n Γ H F r1 v1:=by exact rvt)(hH:Sel H (Hout x):=by exact selt)(he:v1=val x:=by exact rfl):At β n Γ H F (bodyPost P fn (bRo β val Hout post) .ret):=oS x hr h1 hH hF he
theorem rs2(x:ι)(hF:bA F (post x))(hr:fn.results= #[r1,r2]:=by exact rfl)(h1:RV P β n Γ H F r1 v1:=by exact rvt)(h2:RV P β n Γ H F r2 v2:=by exact rvt)(hH:Sel H (Hout x):=by exact selt)(he: .tuple #[v1,v2]=val x:=by exact rfl):At β n Γ H F (bodyPost P fn (bRo β val Hout post) .ret):=sC x hr h1 h2 hH hF he
theorem rs3(x:ι)(hF:bA F (post x))(hr:fn.results= #[r1,r2,r3]:=by exact rfl)(h1:RV P β n Γ H F r1 v1:=by exact rvt)(h2:RV P β n Γ H F r2 v2:=by exact rvt)(h3:RV P β n Γ H F r3 v3:=by exact rvt)(hH:Sel H (Hout x):=by exact selt)(he: .tuple #[v1,v2,v3]=val x:=by exact rfl):At β n Γ H F (bodyPost P fn (bRo β val Hout post) .ret):=at_res3 x hr h1 h2 h3 hH hF he
theorem bk2{G:ι->Env}{Δ:Env}{HH:ι->List bC}{Hr:List bC}{FF:ι->List bE}{F0:List bE}{μ:ι->Nat}{m:Nat}(x:ι)(hF:bA F (FF x))(hμ:μ x<m:=by first|omega|(dsimp only;omega))(hG:Γ.Sub (G x):=by exact subt)(hΔ:Γ.Sub Δ:=by exact subt)(hH:Sel H (HH x++Hr):=by exact selt)(hF0:bA F F0:=by exact hdt):At β n Γ H F (Back β n (λx=>G x++Δ) (λx=>HH x++Hr) (λx=>FF x++F0) μ m):=iC x hμ hG hΔ hH hF hF0
end
end
section
variable {P : Program} {β : dE} {n : Nat} {Γ : Env} {H : List bC} {F : List bE} {T : Tab} {α : Type} {E : Flat α}
theorem Ho{g:bE}(h:g∈F:=by repeat (first|exact List.Mem.head _|refine List.Mem.tail _ ?_)):Has F g:=Has.of h
theorem rdt{A:Option Addr}{xs:List α}(h:dO β H F E A xs:=by first|exact bV Ho|exact cH n8|exact dF n8|exact fZ n8 rfl):dO β H F E A xs:=h
theorem ixs{o:Oper}{t e l c:Nat}{x i:Operand}{kk:IntKind}{z:Int}{sz:Nat}{de:TD}{A:Option Addr}{xs:List α}(k:Nat)(hT:dU P T:=by exact hT)(ho:o.op= .indexAddr t x i:=by exact rfl)(hx:Γ.ev x=some (.slice A l c):=by exact rfl)(hi:Γ.ev i=some (.int kk z):=by exact rfl)(hr:dO β H F E A xs:=by exact rdt)(ht:T.get t=some ⟨.slice e,sz⟩:=by exact rfl)(he:T.get e=some ⟨de,E.size⟩:=by exact rfl)(hl:l=xs.length:=by exact rfl)(hz:z=(k:Nat):=by exact rfl)(hk:k<xs.length:=by omega):Sti P β n Γ H F o (.pointer (some ⟨bRn A,bRj A+k*E.size,none⟩)):=bJ hT hr ho hx hi ht he hl hz hk
theorem jB{o:Oper}{t:Nat}{p:Operand}{i:TI}{A:Option Addr}{xs:List α}{k:Nat}{x:α}{v:Value}(hx:xs[k]?=some x)(fo:Nat)(hT:dU P T:=by exact hT)(ho:o.op= .load t p:=by exact rfl)(hr:dO β H F E A xs:=by exact rdt)(hp:Γ.ev p=some (.pointer (some ⟨bRn A,bRj A+k*E.size+fo,none⟩)):=by exact rfl)(ht:T.get t=some i:=by exact rfl)(ha:aggD i.desc=false:=by exact rfl)(hv:((E.cells x).drop fo)[0]?=some v:=by exact rfl):Sti P β n Γ H F o (v):=bK hT (hr.knows hx fo) ho hp ht ha hv
theorem kV{o:Oper}{t:Nat}{p:Operand}{i:TI}{A:Option Addr}{xs:List α}{k:Nat}{x:α}{l:List Value}(hx:xs[k]?=some x)(fo:Nat)(hT:dU P T:=by exact hT)(ho:o.op= .load t p:=by exact rfl)(hr:dO β H F E A xs:=by exact rdt)(hp:Γ.ev p=some (.pointer (some ⟨bRn A,bRj A+k*E.size+fo,none⟩)):=by exact rfl)(ht:T.get t=some i:=by exact rfl)(ha:aggD i.desc=true:=by exact rfl)(hv:cut ((E.cells x).drop fo) 0 i.size=some l:=by exact rfl):Sti P β n Γ H F o (.agg l.toArray):=sH hT (hr.knows hx fo) ho hp ht ha hv
theorem u8{α:Type}{a0 a1 a2 a3 a4 a5 a6 a7 x:α}{l:List α}(h:x∈l):x∈a0::a1::a2::a3::a4::a5::a6::a7::l:= .tail _ (.tail _ (.tail _ (.tail _ (.tail _ (.tail _ (.tail _ (.tail _ h)))))))
end
set_option maxRecDepth 100000
def bHq (m:Mono):Bool:=decide (m.n<0)
def nH (p:List Mono):Bool:=cJ p&& !(p.any bHq)
set_option maxHeartbeats 400000 in
theorem neg_any(m:Mono)(w:World):Calls prog 211 #[.agg #[j5 m.n,j6 m.e0.toNat,j6 m.e1.toNat,j6 m.e2.toNat,j6 m.e3.toNat,j6 m.e4.toNat,j6 m.e5.toNat]] w λe w'=>e= .returned (.bool (bHq m))/\Below w.heap.size w w':=by
 go_enter func211,ntmps211
 go_wp2
 go_ret
 exact⟨rfl,by go_grown⟩
def IdxPost(w:World)(b:Bool)(e:Ending)(w':World):Prop:= ∃i:Int,e= .returned (.int .i64 i)/\decide (0<=i)=b/\Below w.heap.size w w'
set_option maxHeartbeats 1000000 in
theorem index_any(A:Option Addr)(c:Nat)(xs:List Mono)(w:World)(ha:kK w A xs)(hx:xs.length<=140737488355328):
  Calls prog 247 #[.slice A xs.length c,.func (.func 211) #[] #[]] w (IdxPost w (xs.any bHq)):=by
 have Ha:=R1 ha;clear ha
 go_enter func247,ntmps247
 go_wp2
 go_loopw [8] (λi wr=> ∃k:Nat,k<=xs.length/\i= .int .i64 k/\Hid (xs.any bHq=(xs.drop k).any bHq)/\Below w.heap.size w wr) (λi _=>xs.length-(intOf i).toNat)
 case atStart=>exact⟨0,Nat.zero_le _,rfl,rfl,Below.refl _ _⟩
 case round=>
  obtain⟨k,hk,rfl,hs,hbl⟩:=hrel
  by_cases hlt:k<xs.length
  .obtain⟨m,hm,dm⟩:=mQ hlt;obtain⟨b,o,rfl,hB,c0,c1,c2,c3,c4,c5,c6⟩:=Ha.out.below hbl k m hm;have HS:=R1 (show xs.any bHq=(bHq m || (xs.drop (k+1)).any bHq) by rw[hs.out,dm,List.any_cons]);have HBL:=R1 hbl;clear hs hm dm hB hbl
   go_wp2_with (go_at_call 211;refine(neg_any m _).mono ?_;rintro e w1 ⟨rfl,hb1⟩)
   .have hng:bHq m=true:=by assumption
    go_ret
    exact⟨k,rfl,by rw[HS.out,hng,T7];simp,HBL.out.trans (hb1.mono HBL.out.size)⟩
   .have hng:bHq m=false:=by assumption
    go_roundw
    case rel=>exact⟨k+1,k9,by go_num,(by show _=_;rw[HS.out,hng,Bool.false_or]),HBL.out.trans (hb1.mono HBL.out.size)⟩
    case measure=>simp[intOf];omega
  .have HS:=R1 (show xs.any bHq=false by rw[hs.out,List.drop_of_length_le k9];rfl);clear hs
   go_wp2
   go_ret
   exact⟨-1,rfl,by rw[HS.out];rfl,hbl⟩
set_option maxHeartbeats 400000 in
theorem contains_any(A:Option Addr)(c:Nat)(xs:List Mono)(w:World)(ha:kK w A xs)(hx:xs.length<=140737488355328):
  Calls prog 210 #[.slice A xs.length c,.func (.func 211) #[] #[]] w λe w'=>e= .returned (.bool (xs.any bHq))/\Below w.heap.size w w':=by
 have Ha:=R1 ha;clear ha
 go_enter func210,ntmps210
 go_wp2_with fail
 refine(index_any A c xs _ Ha.out hx).mono ?_;rintro e w1 ⟨i,rfl,hi,hb1⟩;have Hi:=R1 hi;clear hi
 go_wp2
 go_ret
 exact⟨lC Hi.out,hb1⟩
set_option maxHeartbeats 400000 in
theorem grows_any(A:Option Addr)(c:Nat)(xs:List Mono)(w:World)(ha:kK w A xs)(hx:xs.length<=140737488355328):
  Calls prog 149 #[.slice A xs.length c] w λe w'=>e= .returned (.bool (nH xs))/\Below w.heap.size w w':=by
 have Ha:=R1 ha;clear ha;cases hr:cJ xs
 .go_enter func149,ntmps149
  go_wp2_with fail
  refine(fY A c xs _ Ha.out hx).mono ?_;rintro e w1 ⟨rfl,hb1⟩
  go_wp2
  go_ret
  exact⟨lC (by unfold nH;rw[hr];rfl),hb1⟩
 .go_enter func149,ntmps149
  go_wp2_with fail
  refine(fY A c xs _ Ha.out hx).mono ?_;rintro e w1 ⟨rfl,hb1⟩;have H1:=R1 hb1;clear hb1
  go_wp2_with fail
  refine(contains_any A c xs _ (Ha.out.below H1.out) hx).mono ?_;rintro e w2 ⟨rfl,hb2⟩;have H2:=R1 (H1.out.trans (hb2.mono H1.out.size));clear hb2
  go_wp2
  go_ret
  exact⟨lC (by unfold nH;rw[hr,Bool.true_and]),H2.out⟩
end
section
open Go.RowKit Go.Proofs.Tryz
def oI:Flat Mono where
 size:=7
 cells:=Mono.cells
 len:=λ_=>rfl
 one:=λx u hu=>by
  simp[Mono.cells]at hu
  rcases hu with rfl|rfl|rfl|rfl|rfl|rfl|rfl<;>rfl
 pos:=l5
theorem monos_of{S:jX}{w:World}{A:Option Addr}{k c:Nat}{l:List Mono}(hS: ∀b,S b->b<w.heap.size)(h:(oI.sl (.slice A k c) l).p S w):kK w A l/\k=l.length:=by
 obtain⟨q,n,e,h⟩:=h;injection e with g f a
 subst g f;refine⟨λk m i=>?_,rfl⟩;obtain⟨b,o,j,g,f,a,d⟩:=h k m i;have d:j=m.cells:=d;subst d;exact⟨b,o,g,hS b f,a 0 _ rfl,a 1 _ rfl,a 2 _ rfl,a 3 _ rfl,a 4 _ rfl,a 5 _ rfl,a 6 _ rfl⟩
theorem sl_of{w:World}{A:Option Addr}{c:Nat}{l:List Mono}(h:kK w A l):(oI.sl (.slice A l.length c) l).p (λb=>b<w.heap.size) w:=by
 refine⟨A,c,rfl,λk m d=>?_⟩;obtain⟨b,o,e,hb,h0,h1,n,i,h4,g,f⟩:=h k m d;refine⟨b,o,m.cells,e,hb,λj u a=>?_,rfl⟩;have hlt:=(D9.1 a).1;rw[Mono.cells_length]at hlt
 match j,hlt with
 |0,_=>simp[Mono.cells]at a;subst a;exact h0
 |1,_=>simp[Mono.cells]at a;subst a;exact h1
 |2,_=>simp[Mono.cells]at a;subst a;exact n
 |3,_=>simp[Mono.cells]at a;subst a;exact i
 |4,_=>simp[Mono.cells]at a;subst a;exact h4
 |5,_=>simp[Mono.cells]at a;subst a;exact g
 |6,_=>simp[Mono.cells]at a;subst a;exact f
abbrev PolV:=Sl Mono
def fB (p:PolV):bE:=(oI.sl (.slice p.addr p.list.length p.cap) p.list).and (bE.pure (p.list.length<=8796093022208))
section
variable (p : PolV)
theorem mE{p:PolV}{S:jX}{w:World}(hS: ∀b,S b->b<w.heap.size)(h:(fB p).p S w):kK w p.addr p.list:=(monos_of hS h.1).1
theorem bMu(hp:p.list.length<=140737488355328):bZ prog 149 [j0 p] [] [fB p] (λ_:Unit=> .bool (nH p.list)) (λ_=>[]) (λ_=>[]):=
 sJ λ_ w a h=>grows_any _ _ _ w (mE a (h _ (.head _))) hp
theorem polR_spec(hp:p.list.length<=140737488355328):bZ prog 43 [j0 p] [] [fB p] (λ_:Unit=> .bool (cJ p.list)) (λ_=>[]) (λ_=>[]):=
 sJ λ_ w a h=>fY _ _ _ w (mE a (h _ (.head _))) hp
end
end
section
open Go.RowKit Go.ChangeShapes Go.WideShapes Go.Proofs.Tryz
def iY:Flat PolV:=slE Mono
def lJ:Flat Bool where
 size:=1
 cells:=λx=>[.bool x]
 len:=λ_=>rfl
 one:=λx u hu=>by simp at hu;subst hu;rfl
 pos:=l5
structure OpV where
 how:Int
 k:Int
 n:Int
 p:PolV
 fn:Int
 deriving Inhabited
def opE:Flat OpV where
 size:=5
 cells:=λx=>[.int .i64 x.how,.int .i64 x.k,.int .i64 x.n,.slice x.p.addr x.p.list.length x.p.cap,.int .u8 x.fn]
 len:=λ_=>rfl
 one:=λx u hu=>by
  simp at hu
  rcases hu with rfl|rfl|rfl|rfl|rfl<;>rfl
 pos:=l5
structure lW where
 sides:(Sl PolV)
 input:Int
 deriving Inhabited
def bBb:Flat lW where
 size:=2
 cells:=λx=>[.slice x.sides.addr x.sides.list.length x.sides.cap,.int .i64 x.input]
 len:=λ_=>rfl
 one:=λx u hu=>by
  simp at hu
  rcases hu with rfl|rfl<;>rfl
 pos:=l5
structure gV where
 how:Int
 buf:Int
 at_:PolV
 loops:(Sl PolV)
 fn:Int
 ops:(Sl OpV)
 deriving Inhabited
def sO:Flat gV where
 size:=6
 cells:=λx=>[.int .i64 x.how,.int .i64 x.buf,.slice x.at_.addr x.at_.list.length x.at_.cap,.slice x.loops.addr x.loops.list.length x.loops.cap,.int .u8 x.fn,.slice x.ops.addr x.ops.list.length x.ops.cap]
 len:=λ_=>rfl
 one:=λx u hu=>by
  simp at hu
  rcases hu with rfl|rfl|rfl|rfl|rfl|rfl<;>rfl
 pos:=l5
structure gD where
 vars:Int
 bufs:(Sl lW)
 steps:(Sl gV)
 outs:(Sl Int)
 deriving Inhabited
def coreE:Flat gD where
 size:=4
 cells:=λx=>[.int .i64 x.vars,.slice x.bufs.addr x.bufs.list.length x.bufs.cap,.slice x.steps.addr x.steps.list.length x.steps.cap,.slice x.outs.addr x.outs.list.length x.outs.cap]
 len:=λ_=>rfl
 one:=λx u hu=>by
  simp at hu
  rcases hu with rfl|rfl|rfl|rfl<;>rfl
 pos:=l5
structure dQ where
 from_:Int
 to_:Int
 deriving Inhabited
def lR:Flat dQ where
 size:=2
 cells:=λx=>[.int .i64 x.from_,.int .i64 x.to_]
 len:=λ_=>rfl
 one:=λx u hu=>by
  simp at hu
  rcases hu with rfl|rfl<;>rfl
 pos:=l5
def coreT:Tab:=[(3,⟨.int .i64,1⟩),(2,⟨.int .i64,1⟩),(5,⟨.int .u8,1⟩),(4,⟨.bool,1⟩),(77,⟨.int .u8,1⟩),(32,⟨.int .i64,1⟩),(43,⟨.slice 111,1⟩),(42,⟨.slice 43,1⟩),(172,⟨.struct [(3,0),(3,1),(2,2),(43,3),(77,4)],5⟩),(78,⟨.slice 172,1⟩),(95,⟨.struct [(42,0),(3,1)],2⟩),(22,⟨.slice 95,1⟩),(80,⟨.struct [(3,0),(3,1),(43,2),(42,3),(77,4),(78,5)],6⟩),(23,⟨.slice 80,1⟩),(24,⟨.slice 3,1⟩),(99,⟨.slice 4,1⟩),(26,⟨.struct [(3,0),(22,1),(23,2),(24,3)],4⟩),(114,⟨.struct [(3,0),(3,1)],2⟩),(97,⟨.slice 114,1⟩),(201,⟨.struct [(3,0),(3,1),(3,2),(99,3)],4⟩),(198,⟨.array 64 4,64⟩),(111,⟨.struct [(2,0),(109,1)],7⟩),(109,⟨.array 6 5,6⟩),(290,⟨.slice 5,1⟩),(224,⟨.int .u64,1⟩),(199,⟨.other,1⟩),(274,⟨.other,1⟩),(126,⟨.other,1⟩)]
theorem fK:dU prog coreT:=tA.ok
 ⟨⟨by rw[underlying3];rfl,l4⟩,
  ⟨by rw[underlying2];rfl,l4⟩,
  ⟨by rw[underlying5];rfl,l4⟩,
  ⟨by rw[underlying4];rfl,l4⟩,
  ⟨by rw[underlying77];rfl,l4⟩,
  ⟨by rw[underlying32];rfl,l4⟩,
  ⟨by rw[underlying43];rfl,l4⟩,
  ⟨by rw[underlying42];rfl,l4⟩,
  ⟨by rw[underlying172];rfl,l4⟩,
  ⟨by rw[underlying78];rfl,l4⟩,
  ⟨by rw[underlying95];rfl,l4⟩,
  ⟨by rw[underlying22];rfl,l4⟩,
  ⟨by rw[underlying80];rfl,l4⟩,
  ⟨by rw[underlying23];rfl,l4⟩,
  ⟨by rw[underlying24];rfl,l4⟩,
  ⟨by rw[underlying99];rfl,l4⟩,
  ⟨by rw[underlying26];rfl,l4⟩,
  ⟨by rw[underlying114];rfl,l4⟩,
  ⟨by rw[underlying97];rfl,l4⟩,
  ⟨by rw[underlying201];rfl,l4⟩,
  ⟨by rw[underlying198];rfl,l4⟩,
  ⟨by rw[underlying111];rfl,l4⟩,
  ⟨by rw[underlying109];rfl,l4⟩,
  ⟨by rw[underlying290];rfl,l4⟩,
  ⟨by rw[underlying224];rfl,l4⟩,
  ⟨by rw[underlying199];rfl,l4⟩,
  ⟨by rw[underlying274];rfl,l4⟩,
  ⟨by rw[underlying126];rfl,l4⟩,e8⟩
end
section
open Go.RowKit Go.Proofs.Tryz
instance : DecidableEq Mono := λa b => decidable_of_iff (a.eqB b = true) (Mono.eqB_iff a b)
structure OpC where
 how:Int
 k:Int
 n:Int
 p:List Mono
 fn:Int
 deriving DecidableEq
structure gP where
 sides:List (List Mono)
 input:Int
 deriving DecidableEq
structure bX where
 how:Int
 buf:Int
 at_:List Mono
 loops:List (List Mono)
 fn:Int
 ops:List OpC
 deriving DecidableEq
structure dA where
 vars:Int
 bufs:List gP
 steps:List bX
 outs:List Int
 deriving DecidableEq
structure LifeC where
 from_:Int
 to_:Int
 deriving DecidableEq
def kG (f:Int)(two:Bool):Bool:=if f<1\/17<f then false else if f=16 then !two else two || decide (f<=7)
def cV (h:Int):Int:=if h=1\/h=2\/h=3 then 0 else if h=4\/h=5 then 1 else if h=6 then 2 else-1
def nT:List OpC->Int->Int->Int
 |[],most,now=>if now=1 then most else-1
 |o::r,most,now=>if cV o.how<0\/now<cV o.how then-1 else nT r (max most (now+(1-cV o.how))) (now+(1-cV o.how))
def pU (l:List OpC):Int:=nT l 0 0
def clampK(vars:Int):Nat:=(min (max vars 0) 6).toNat
def ofB (p:List Mono)(vars:Int):Bool:=p.all (λm=>(m.E.drop (clampK vars)).all (λe=>e==0))&&cJ p
def mN (l:List (List Mono))(vars:Int):Bool:=l.all (λp=>ofB p vars&&nH p)&&decide (l.length<=4)
def opB (vars loops buf:Int)(made:List Bool)(o:OpC):Bool:=
 if o.how=1 then o.k==0&&(o.p.isEmpty&&o.fn==0)
 else if o.how=2 then ofB o.p vars&&(o.n==0&&(o.k==0&&o.fn==0))
 else if o.how=3 then decide (0<=o.k/\o.k<loops)&&(o.n==0&&(o.p.isEmpty&&o.fn==0))
 else if o.how=4 then decide (0<=o.k/\o.k≠buf)&&(made.getD o.k.toNat false&&(o.n==0&&(o.p.isEmpty&&o.fn==0)))
 else if o.how=5\/o.how=6 then kG o.fn (o.how==6)&&(o.n==0&&(o.k==0&&o.p.isEmpty))
 else false
def nB (vars:Int)(made:List Bool)(x:bX):Bool:=
 (ofB x.at_ vars&&nH x.at_)&&(mN x.loops vars&&(decide (x.ops.length<=256)&&(decide (0<=pU x.ops)&&
  ((if x.how=1 then x.fn==0 else if x.how=2\/x.how=3 then !x.loops.isEmpty&&kG x.fn true else false)&&x.ops.all (opB vars x.loops.length x.buf made)))))
def sW (vars:Int):List gP->List Int->Bool
 |[],_=>true
 |b::r,seen=>mN b.sides vars&&(decide (-1<=b.input/\b.input<64)&&(!(seen.contains b.input)&&sW vars r (if 0<=b.input then b.input::seen else seen)))
def mF (vars:Int)(bufs:List gP):List bX->List Bool->Bool
 |[],_=>true
 |x::r,made=>(decide (0<=x.buf)&&(match bufs[x.buf.toNat]? with
   |some b=>decide (b.input<0)
   |none=>false))&&(nB vars made x&&mF vars bufs r (made.set x.buf.toNat true))
def xM (bufs:List gP):List Bool:=bufs.map λb=>decide (0<=b.input)
def cY (c:dA):Bool:=
 decide (0<=c.vars/\c.vars<=6/\c.bufs.length<=1024/\c.steps.length<=1024/\c.outs.length<=64)&&(sW c.vars c.bufs []&&(mF c.vars c.bufs c.steps (xM c.bufs)&&c.outs.all λk=>decide (0<=k/\k<c.bufs.length)))
def vE (l:List OpC):List Nat:=l.filterMap λo=>if o.how=4 then some o.k.toNat else none
def iA (i:Int)(l:List LifeC)(k:Nat):List LifeC:=l.modify k λx=>{x with to_:=i}
def bAu (i:Int)(l:List LifeC)(k:Nat):List LifeC:=l.modify k λx=>{x with from_:=i}
def kH (i:Int)(x:bX)(s:List LifeC×List Bool):List LifeC×List Bool:=
 (iA i (if s.2.getD x.buf.toNat false=true then (vE x.ops).foldl (iA i) s.1 else bAu i ((vE x.ops).foldl (iA i) s.1) x.buf.toNat) x.buf.toNat,s.2.set x.buf.toNat true)
def rJ:Int->List bX->List LifeC×List Bool->List LifeC×List Bool
 |_,[],s=>s
 |i,x::r,s=>rJ (i+1) r (kH i x s)
def wN (outs:List Int):Nat->List gP->List LifeC
 |_,[]=>[]
 |k,b::r=>⟨if 0<=b.input\/outs.contains (k:Int)=true then-1 else 0,-1⟩::wN outs (k+1) r
def cX (c:dA):List LifeC:=(c.outs.map Int.toNat).foldl (iA c.steps.length) (rJ 0 c.steps (wN c.outs 0 c.bufs,T9 c.bufs.length false)).1
section
variable {i j : Int} {l : List LifeC} {k b : Nat}
theorem bVt:(iA i l k).length=l.length:=U0 ..
theorem setFrom_len:(bAu i l k).length=l.length:=U0 ..
theorem bVj:(iA i l k)[b]?=(l[b]?).map λx=>if k=b then {x with to_:=i}else x:=by
 unfold iA;rw[U1]
 by_cases h:k=b
 .simp[h]
 .simp[h]
theorem setFrom_get:(bAu i l k)[b]?=(l[b]?).map λx=>if k=b then {x with from_:=i}else x:=by
 unfold bAu;rw[U1]
 by_cases h:k=b
 .simp[h]
 .simp[h]
theorem pZ: ∀(ks:List Nat) (l:List LifeC),(ks.foldl (iA i) l)[b]?=(l[b]?).map λx=>if b∈ks then {x with to_:=i}else x
 |[],l=>by simp
 |k::ks,l=>by
  rw[U2,pZ ks,bVj,Option.map_map]
  congr 1
  funext x
  by_cases h1:k=b
  .subst h1
   by_cases a:k∈ks<;>simp[a]
  .by_cases a:b∈ks
   .simp[h1,a]
   .have: ¬b=k:=λe=>h1 e.symm;simp[h1,a,this]
theorem xI: ∀(ks:List Nat) (l:List LifeC),(ks.foldl (iA i) l).length=l.length
 |[],_=>rfl
 |k::ks,l=>by rw[U2,xI ks,bVt]
end
theorem liveStep_get{i:Int}{x:bX}{s:List LifeC×List Bool}{b:Nat}{y:LifeC}(hy:s.1[b]?=some y):(kH i x s).1[b]?=some ⟨if x.buf.toNat=b/\s.2.getD b false=false then i else y.from_,if x.buf.toNat=b\/b∈vE x.ops then i else y.to_⟩:=by
 unfold kH;simp only;rw[bVj]
 by_cases a:s.2.getD x.buf.toNat false=true
 .rw[if_pos a,pZ,hy];simp only[I2]
  congr 1
  by_cases h1:x.buf.toNat=b
  .subst h1;simp only[true_and,true_or,if_true,a,T8,if_false]
   by_cases c:x.buf.toNat∈vE x.ops<;>simp[c]
  .by_cases c:b∈vE x.ops<;>simp[h1,c]
 .rw[if_neg a,setFrom_get,pZ,hy];have a:s.2.getD x.buf.toNat false=false:=by simpa using a
  simp only[I2]
  congr 1
  by_cases h1:x.buf.toNat=b
  .subst h1;simp only[true_and,true_or,if_true,a]
  .by_cases c:b∈vE x.ops<;>simp[h1,c]
theorem wD{i:Int}{x:bX}{s:List LifeC×List Bool}:(kH i x s).1.length=s.1.length:=by
 unfold kH;simp only;rw[bVt];split
 .rw[xI]
 .rw[setFrom_len,xI]
theorem bBz: ∀(outs:List Int) (k:Nat) (bufs:List gP),(wN outs k bufs).length=bufs.length
 |_,_,[]=>rfl
 |outs,k,b::r=>by rw[wN,E1,E1,bBz]
def bUu (x:bX)(b:Int):Bool:=x.ops.any (λo=>o.how==4&&o.k==b) || x.buf==b
def lS (b:Int):Int->List bX->Int->Int
 |_,[],d=>d
 |i,x::r,d=>if x.buf=b then i else lS b (i+1) r d
def vV (b:Int):Int->List bX->Int->Int
 |_,[],d=>d
 |i,x::r,d=>vV b (i+1) r (if bUu x b=true then i else d)
def bId (b:Int)(l:List bX):Bool:=l.any λx=>bUu x b
def lifeR (c:dA)(b:Nat)(u:gP):LifeC:=
 if (bId b c.steps || (c.outs.contains (b:Int) || decide (0<=u.input)))=false then ⟨0,-1⟩
 else ⟨lS b 0 c.steps (-1),if c.outs.contains (b:Int)=true then c.steps.length else vV b 0 c.steps (-1)⟩
def livesR(c:dA):List LifeC:=c.bufs.mapIdx (lifeR c)
def wholeS(x:bX)(sides:List (List Mono)):Bool:=x.at_.isEmpty&&decide ((if x.how=2 then x.loops.dropLast else x.loops)=sides)
def bCj (steps:List bX)(b:Nat)(u:gP):Bool:=match steps.filter (λx=>x.buf==(b:Int))with
 |[x]=>wholeS x u.sides
 |_=>false
def nC (c:dA):List Bool:=c.bufs.mapIdx (bCj c.steps)
section
variable {b i d : Int} {r : List bX} {x : bX}
theorem bEy: ∀{r:List bX} {i d:Int},bId b r=false->vV b i r d=d
 |[],_,_,_=>rfl
 |x::r,i,d,h=>by
  unfold bId at h;rw[List.any_cons,Bool.or_eq_false_iff]at h;rw[vV,if_neg (by rw[h.1];simp)];exact bEy h.2
theorem wB: ∀{r:List bX} {i d:Int},(∀x∈r,x.buf≠b)->lS b i r d=d
 |[],_,_,_=>rfl
 |x::r,i,d,h=>by
  rw[lS,if_neg (h x (D5 ..))];exact wB λy a=>h y (D1 _ a)
theorem bFd: ∀{r:List bX} {i d d':Int},(∃x∈r,x.buf=b)->lS b i r d=lS b i r d'
 |[],_,_,_,h=>by obtain⟨x,hx,_⟩:=h;cases hx
 |x::r,i,d,d',h=>by
  rw[lS,lS]
  by_cases e:x.buf=b
  .rw[if_pos e,if_pos e]
  .rw[if_neg e,if_neg e];obtain⟨y,a,c⟩:=h
   rcases C9.1 a with rfl|a
   .exact absurd c e
   .exact bFd ⟨y,a,c⟩
end
def NatStep(x:bX):Prop:=0<=x.buf/\ ∀o∈x.ops,o.how=4->0<=o.k
theorem bNg{x:bX}{b:Nat}(h:NatStep x):bUu x b=true↔x.buf.toNat=b\/b∈vE x.ops:=by
 unfold bUu;rw[Bool.or_eq_true,U3];constructor
 .rintro(⟨o,ho,h1⟩|h1)
  .right;simp only[G1,beq_iff_eq]at h1;exact U4.2 ⟨o,ho,by rw[if_pos h1.1,h1.2];rfl⟩
  .left;rw[beq_iff_eq]at h1;omega
 .rintro(h1|h1)
  .right;rw[beq_iff_eq];have:=h.1;omega
  .left;obtain⟨o,ho,a⟩:=U4.1 h1;split at a
   .rename_i h4;have:=h.2 o ho h4;cases a;refine⟨o,ho,?_⟩;simp only[G1,beq_iff_eq];exact⟨h4,k9⟩
   .cases a
theorem bJs: ∀{r:List bX} {i:Int} {s:List LifeC×List Bool} {b:Nat} {y:LifeC},(∀x∈r,NatStep x)->s.1[b]?=some y->b<s.2.length->
  (rJ i r s).1[b]?=some ⟨if s.2.getD b false=true then y.from_ else lS b i r y.from_,vV b i r y.to_⟩
 |[],i,s,b,y,_,a,_=>by
  rw[rJ,a,lS,vV];simp
 |x::r,i,s,b,y,hn,a,hb=>by
  have hx:=hn x (D5 ..);rw[rJ,bJs (λy a=>hn y (D1 _ a)) (liveStep_get a) (show b<(kH i x s).2.length by unfold kH;simpa using hb)]
  have g:(kH i x s).2.getD b false=(decide (x.buf.toNat=b) || s.2.getD b false):=by
   show(s.2.set x.buf.toNat true).getD b false=_;rw[U5,U6]
   by_cases e:x.buf.toNat=b
   .rw[if_pos e,if_pos k9];simp[e]
   .rw[if_neg e];simp[e,U5]
  rw[g,lS,vV]
  have c:x.buf.toNat=b↔x.buf=(b:Int):=by
   have:=hx.1;omega
  congr 2
  .by_cases e:x.buf.toNat=b
   .have d:=c.1 e
    cases f:s.2.getD b false with
    |true=>simp[e]
    |false=>simp[d]
   .have d: ¬x.buf=(b:Int):=λh=>e (c.2 h)
    cases f:s.2.getD b false with
    |true=>simp[e]
    |false=>simp[d,e]
  .by_cases e:bUu x b=true
   .rw[if_pos e,if_pos ((bNg hx).1 e)]
   .rw[if_neg e,if_neg (λh=>e ((bNg hx).2 h))]
theorem yQ: ∀{outs:List Int} {k:Nat} {bufs:List gP} {b:Nat},(wN outs k bufs)[b]?=(bufs[b]?).map λu=>⟨if 0<=u.input\/outs.contains ((k+b:Nat):Int)=true then-1 else 0,-1⟩
 |_,_,[],_=>rfl
 |outs,k,u::r,0=>rfl
 |outs,k,u::r,b+1=>by
  have:=yQ (outs:=outs) (k:=k+1) (bufs:=r) (b:=b);rw[wN,U7,U7,this,show k+1+b=k+(b+1) by omega]
theorem bDi{vars:Int}{bufs:List gP}: ∀{r:List bX} {made:List Bool},mF vars bufs r made=true-> ∀x∈r,NatStep x
 |[],_,_,x,hx=>by cases hx
 |y::r,made,h,x,hx=>by
  rw[mF,G1,G1,G1]at h;obtain⟨⟨h1,_⟩,b,c⟩:=h
  rcases C9.1 hx with rfl|hx
  .refine⟨by simpa using h1,λo ho h4=>?_⟩
   have a:x.ops.all (opB vars x.loops.length x.buf made)=true:=by
    unfold nB at b;simp only[G1]at b;exact b.2.2.2.2.2
   have:=D6.1 a o ho;unfold opB at this;rw[if_neg k9,if_neg k9,if_neg k9,if_pos h4]at this;simp only[G1,decide_eq_true_eq]at this;exact this.1.1
  .exact bDi c x hx
theorem bJf{vars:Int}{bufs:List gP}: ∀{r:List bX} {made:List Bool},mF vars bufs r made=true-> ∀x∈r,∀b∈vE x.ops,made.getD b false=true\/ ∃y∈r,y.buf.toNat=b
 |[],_,_,x,hx=>by cases hx
 |y::r,made,h,x,hx=>λb hb=>by
  rw[mF,G1,G1,G1]at h;obtain⟨⟨h1,_⟩,f,g⟩:=h
  rcases C9.1 hx with rfl|hx
  .left
   have c:x.ops.all (opB vars x.loops.length x.buf made)=true:=by
    unfold nB at f;simp only[G1]at f;exact f.2.2.2.2.2
   obtain⟨o,ho,a⟩:=U4.1 hb;split at a
   .rename_i d;cases a;have:=D6.1 c o ho;unfold opB at this;rw[if_neg k9,if_neg k9,if_neg k9,if_pos d]at this;simp only[G1]at this;exact this.2.1
   .cases a
  .rcases bJf g x hx b hb with h4|⟨z,hz,e⟩
   .rw[U5,U6]at h4
    by_cases e:y.buf.toNat=b
    .exact .inr ⟨y,D5 ..,e⟩
    .rw[if_neg e]at h4;exact .inl (by rw[U5];exact h4)
   .exact .inr ⟨z,D1 _ hz,e⟩
theorem fL{c:dA}(h:cY c=true):(0<=c.vars/\c.vars<=6/\c.bufs.length<=1024/\c.steps.length<=1024/\c.outs.length<=64)/\sW c.vars c.bufs []=true/\mF c.vars c.bufs c.steps (xM c.bufs)=true/\ ∀k∈c.outs,0<=k/\k<c.bufs.length:=by
 simp only[cY,G1,decide_eq_true_eq,D6]at h;exact h
theorem lives_eq{c:dA}(h:cY c=true):cX c=livesR c:=by
 obtain⟨h1,v,p,h4⟩:=fL h;have hn:=bDi p;apply List.ext_getElem?;intro b;unfold cX livesR;rw[pZ,List.getElem?_mapIdx]
 cases hu:c.bufs[b]? with
 |none=>
  have hb:c.bufs.length<=b:=List.getElem?_eq_none_iff.1 hu
  have hl:(rJ 0 c.steps (wN c.outs 0 c.bufs,T9 c.bufs.length false)).1.length=c.bufs.length:=by
   have: ∀(r:List bX) (i:Int) (s:List LifeC×List Bool),(rJ i r s).1.length=s.1.length:=λr=>by
    induction r with
    |nil=>intro i s;rfl
    |cons x r ih=>intro i s;rw[rJ,ih,wD]
   rw[this,bBz]
  rw[List.getElem?_eq_none k9];rfl
 |some u=>
  have hb:b<c.bufs.length:=(D9.1 hu).1
  have l:(wN c.outs 0 c.bufs)[b]?=some ⟨if 0<=u.input\/c.outs.contains (b:Int)=true then-1 else 0,-1⟩:=by
   rw[yQ,hu,Nat.zero_add];rfl
  have q:(T9 c.bufs.length false).getD b false=false:=by
   rw[U5,List.getElem?_replicate];split<;>rfl
  rw[bJs hn l (by simpa using hb)];simp only[I2,q,Bool.false_eq_true,if_false]
  have a:b∈c.outs.map Int.toNat↔c.outs.contains (b:Int)=true:=by
   rw[List.mem_map,List.contains_iff_mem];constructor
   .rintro⟨k,n,e⟩;have:=(h4 k n).1;have e:k=(b:Int):=k9
    rwa[<-e]
   .exact λn=>⟨_,n,n4⟩
  unfold lifeR
  congr 1
  by_cases f: ∃x∈c.steps,x.buf=(b:Int)
  .have j:bId b c.steps=true:=by
    obtain⟨x,hx,e⟩:=f;exact U3.2 ⟨x,hx,by unfold bUu;simp[e]⟩
   rw[j,bFd f (d':= -1)];simp only[T7,T8,if_false]
   by_cases ho:c.outs.contains (b:Int)=true
   .rw[if_pos (a.2 ho),if_pos ho]
   .rw[if_neg (λe=>ho (a.1 e)),if_neg ho]
  .have d: ∀x∈c.steps,x.buf≠(b:Int):=λx hx e=>f ⟨x,hx,e⟩;rw[wB d,wB d]
   by_cases o:0<=u.input
   .simp only[o,true_or,if_true,decide_true,Bool.or_true,T8,if_false]
    by_cases ho:c.outs.contains (b:Int)=true
    .rw[if_pos (a.2 ho),if_pos ho]
    .rw[if_neg (λe=>ho (a.1 e)),if_neg ho]
   .by_cases ho:c.outs.contains (b:Int)=true
    .rw[ho];simp only[or_true,if_true,T7,Bool.or_true,T8,if_false];rw[if_pos (a.2 ho)]
    .have m:c.outs.contains (b:Int)=false:=by simpa using ho
     have g:bId b c.steps=false:=by
      cases t:bId b c.steps with
      |false=>rfl
      |true=>
       exfalso
       obtain⟨x,hx,e⟩:=U3.1 t
       rcases (bNg (hn x hx)).1 e with e|e
       .exact d x hx (by have:=(hn x hx).1;omega)
       .rcases bJf p x hx b e with e|⟨y,l,e⟩
        .unfold xM at e;rw[U5,I7,hu]at e;simp at e;exact o e
        .exact d y l (by have:=(hn y l).1;omega)
     rw[g,m,bEy g];rw[if_neg (λe=>ho (a.1 e))];simp[o]
def bBl (l:List bX)(b:Nat):Nat:=(l.filter λx=>x.buf==(b:Int)).length
section
variable {l : List bX} {x : bX} {b : Nat} {u : gP}
theorem cntMk_snoc:bBl (l++[x]) b=bBl l b+if x.buf=(b:Int)then 1 else 0:=by
 unfold bBl;rw[U8,List.length_append]
 by_cases e:x.buf=(b:Int)<;>simp[e]
theorem fullAt_other(e:x.buf≠(b:Int)):bCj (l++[x]) b u=bCj l b u:=by
 unfold bCj;rw[U8];simp[e]
theorem fullAt_here(e:x.buf=(b:Int)):bCj (l++[x]) b u=(decide (bBl l b+1=1)&&wholeS x u.sides):=by
 unfold bCj bBl;rw[U8]
 cases h:l.filter (λx=>x.buf==(b:Int))with
 |nil=>simp[e]
 |cons y r=>simp[e]
end
section
variable {P : Program} {β : dE} {n : Nat} {Γ : Env} {H : List bC} {F : List bE} {Q : Exit -> Act -> World -> Prop} {K : Act -> World -> Prop} {T : Tab} {α : Type} {E : Flat α}
theorem elem_of{t e:Nat}(hu:P.underlying t=some (.slice e)):P.elem t=e:=by simp[Program.elem,hu]
theorem run_cutTo(hT:dU P T){t e sz:Nat}{ei:TI}(ht:T.get t=some ⟨.slice e,sz⟩)(he:T.get e=some ei){A:Option Addr}{l c k:Nat}(hk:k<=c)(kk:IntKind)(w:World):(Instr.sliceAt t (.slice A l c) none (some (.int kk (k:Nat))) none).run P w= .ok (.slice A k c) w:=by
 obtain⟨d,hu,hd⟩:=hT.any ht;cases d<;>simp[TD.of]at hd
 subst hd;have hel:=elem_of hu;rw[run_sliceAt_slice w t _ _ _ _ w7,run_slice_h w t A l c w7 kk (k:Int) k9 k9,hel,hT.size he];simp only[E8,sliced,Int.toNat_natCast,Nat.zero_mul,Nat.sub_zero]
 congr 2
 split
 .rfl
 .cases A<;>simp[Addr.add]
theorem run_cutFrom(hT:dU P T){t e sz:Nat}{ei:TI}(ht:T.get t=some ⟨.slice e,sz⟩)(he:T.get e=some ei){A:Option Addr}{l c k:Nat}(hk:k<=l)(kk:IntKind)(w:World):(Instr.sliceAt t (.slice A l c) (some (.int kk (k:Nat))) none none).run P w= .ok (.slice (cutA A k ei.size c) (l-k) (c-k)) w:=by
 obtain⟨d,hu,hd⟩:=hT.any ht;cases d<;>simp[TD.of]at hd
 subst hd;have hel:=elem_of hu;rw[run_sliceAt_slice w t _ _ _ _ w7,run_slice_l w t A l c w7 kk (k:Int) k9 k9,hel,hT.size he];simp only[E8,sliced,Int.toNat_natCast,cutA]
theorem jV{b:Nat}{cs:List Value}{t:TypeId}{H':List bC}(hH:bU H (.obj b (.cells cs.toArray t)) H')(h:At β n Γ H' (bE.cells b 0 cs::F) K):At β n Γ H F K:=λa w S f s k=>by
 have e:=s.perm hH.perm;have m:w.heap[b]?=some (.cells cs.toArray t):=e.ok _ (D5 ..);have d:=List.pairwise_cons.1 e.sep;have i:=e.own _ (D5 ..);have g:All F (λx=>S x\/x=b) w:=All.mono (λ_ h=> .inl h) (λ_ _=>rfl) k;refine h a w (λx=>S x\/x=b) f ⟨e.kept,λc l=>e.ok c (D1 _ l),λc l x hx=>?_,d.2,λx hx=>?_⟩ (All.cons ?_ g)
 .obtain⟨h1,o,q⟩:=e.own c (D1 _ l) x hx;refine⟨h1,o,λh=>?_⟩
  rcases h with h|h
  .exact q h
  .subst h;exact d.1 c l _ rfl hx
 .rcases hx with hx|hx
  .exact e.zone x hx
  .subst hx;obtain⟨h1,o,_⟩:=i _ rfl;exact⟨h1,.inr o⟩
 .refine⟨.inr rfl,λj u p=>?_⟩;unfold World.cell?;rw[m]
  simpa using p
theorem Has.cons{f g:bE}{F:List bE}(h:Has F g):Has (f::F) g:=λS w k=>h S w λx hx=>k x (D1 _ hx)
theorem Has.each_nil{α:Type}{g:α->bE}{F:List bE}:Has F (bE.each [] g):=λ_ _ _ x hx=>by simp at hx
theorem Has.each_cons{α:Type}{g:α->bE}{F:List bE}{x:α}{l:List α}(hx:Has F (g x))(hl:Has F (bE.each l g)):Has F (bE.each (x::l) g):=λS w k y a=>by
 rcases C9.1 a with rfl|a
 .exact hx S w k
 .exact hl S w k y a
theorem bHl(hT:dU P T){o:Oper}{t e sz k l cap:Nat}{ei:TI}{x i:Operand}{kk:IntKind}{z:Int}{A:Option Addr}(ho:o.op= .slice t x none (some i) none)(hx:Γ.ev x=some (.slice A l cap))(hi:Γ.ev i=some (.int kk z))
  (ht:T.get t=some ⟨.slice e,sz⟩) (he:T.get e=some ei) (hz:z=(k:Nat)) (hk:k<=cap):Sti P β n Γ H F o (.slice A k cap):=λa w S f s b=>by
 subst hz;unfold execOp;simp only[ho,f.ev hx,I2,I3,f.ev hi];rw[E6,run_cutTo hT ht he hk];rfl
theorem bKn(hT:dU P T){o:Oper}{t e sz k l cap:Nat}{ei:TI}{x i:Operand}{kk:IntKind}{z:Int}{A:Option Addr}(ho:o.op= .slice t x (some i) none none)(hx:Γ.ev x=some (.slice A l cap))(hi:Γ.ev i=some (.int kk z))
  (ht:T.get t=some ⟨.slice e,sz⟩) (he:T.get e=some ei) (hz:z=(k:Nat)) (hk:k<=l):Sti P β n Γ H F o (.slice (cutA A k ei.size cap) (l-k) (cap-k)):=λa w S f s b=>by
 subst hz;unfold execOp;simp only[ho,f.ev hx,I2,I3,f.ev hi];rw[E6,run_cutFrom hT ht he hk];rfl
theorem has_take{A:Option Addr}{l c k:Nat}{xs:List α}(h:Has F (E.sl (.slice A l c) xs))(hk:k<=xs.length):Has F (E.sl (.slice A k c) (xs.take k)):=λS w q=>by
 obtain⟨d,b,e,h⟩:=h S w q;injection e with e1 e2 e3
 subst e1 e3;refine⟨A,c,by rw[List.length_take,Nat.min_eq_left hk],λj x a=>?_⟩;rw[List.getElem?_take]at a;split at a
 .exact h j x a
 .cases a
theorem bHh{A:Option Addr}{t:TypeId}{m cap:Nat}{xs:List α}{H':List bC}(hH:bU H (E.row (.slice A m cap) t xs) H')(h:xs.length<=cap->At β n Γ H F K):At β n Γ H F K:=λa w S f s k=>by
 have b:w.ownsRow 0 t E.size (.slice A m cap) xs.length (E.all xs):=s.ok _ hH.mem;refine h ?_ a w S f s k
 rcases b.2 with ⟨_,l⟩|⟨g,d,e,c,h1,j,i,_⟩
 .omega
 .injection c with c e2 e3
  subst e3;omega
end
theorem dJ:prog.follows .mixedOrders=true:=l4
def bLt (a b:Mono):Bool:=a.eqB b
theorem sti_neq_mono{β:dE}{n:Nat}{Γ:Env}{H:List bC}{F:List bE}{o:Oper}{a b:Operand}{tt:TypeId}(x y:Mono)(ho:o.op= .binOp .neq 111 a b tt)(hx:Γ.ev a=some (.agg #[j5 x.n,j6 x.e0.toNat,j6 x.e1.toNat,j6 x.e2.toNat,j6 x.e3.toNat,j6 x.e4.toNat,j6 x.e5.toNat]))(hy:Γ.ev b=some (.agg #[j5 y.n,j6 y.e0.toNat,j6 y.e1.toNat,j6 y.e2.toNat,j6 y.e3.toNat,j6 y.e4.toNat,j6 y.e5.toNat])):Sti prog β n Γ H F o (.bool (!bLt x y)):=λc w S f s k=>by
 have hq:prog.eqGuardType prog.depth 111=false:=l4
 have hg:(eqGuard .neq 111 a b (.agg #[.int .i64 x.n,.int .u8 x.e0.toNat,.int .u8 x.e1.toNat,.int .u8 x.e2.toNat,.int .u8 x.e3.toNat,.int .u8 x.e4.toNat,.int .u8 x.e5.toNat]) (.agg #[.int .i64 y.n,.int .u8 y.e0.toNat,.int .u8 y.e1.toNat,.int .u8 y.e2.toNat,.int .u8 y.e3.toNat,.int .u8 y.e4.toNat,.int .u8 y.e5.toNat])).run prog w= .ok () w:=by
  unfold eqGuard;have d:(program:Sem Program).run prog w= .ok prog w:=rfl;simp[d,hq]
 unfold execOp;simp only[ho,f.ev hx,f.ev hy];rw[E6,E6,hg,E8,run_neq_mono];rfl
theorem mono_eq{x y:Mono}:bLt x y=true↔x=y:=Mono.eqB_iff x y
theorem mono_t{x y:Mono}(h:(!bLt x y)=true):x≠y:=λe=>by
 rw[mono_eq.2 e]at h;cases h
theorem mono_f{x y:Mono}(h:(!bLt x y)=false):x=y:=mono_eq.1 ab0
def polsL (l:List PolV):List (List Mono):=l.map (·.list)
theorem bW(l:List PolV):(polsL l).length=l.length:=K3 _
theorem cW{l:List PolV}{i:Nat}{p:PolV}(h:l[i]?=some p):(polsL l)[i]?=some p.list:=by
 unfold polsL;rw[I7,h];rfl
def OpV.c (o:OpV):OpC:=⟨o.how,o.k,o.n,o.p.list,o.fn⟩
def opsL (l:List OpV):List OpC:=l.map OpV.c
def lW.c (b:lW):gP:=⟨polsL b.sides.list,b.input⟩
def gV.c (s:gV):bX:=⟨s.how,s.buf,s.at_.list,polsL s.loops.list,s.fn,opsL s.ops.list⟩
def bCg (l:List gV):List bX:=l.map gV.c
def bufsL (l:List lW):List gP:=l.map lW.c
def gD.c (c:gD):dA:=⟨c.vars,bufsL c.bufs.list,bCg c.steps.list,c.outs.list⟩
theorem dR(l:List OpV):(opsL l).length=l.length:=K3 _
theorem fC(l:List gV):(bCg l).length=l.length:=K3 _
theorem cD(l:List lW):(bufsL l).length=l.length:=K3 _
theorem gR{l:List OpV}{i:Nat}{x:OpV}(h:l[i]?=some x):(opsL l)[i]?=some x.c:=by
 unfold opsL;rw[I7,h];rfl
theorem dI{l:List gV}{i:Nat}{x:gV}(h:l[i]?=some x):(bCg l)[i]?=some x.c:=by
 unfold bCg;rw[I7,h];rfl
theorem cN{l:List lW}{i:Nat}{x:lW}(h:l[i]?=some x):(bufsL l)[i]?=some x.c:=by
 unfold bufsL;rw[I7,h];rfl
theorem eqF_of{α:Type} [DecidableEq α]{a b:List α}(h:a≠b):Value.bool false= .bool (decide (a=b)):=by simp[h]
theorem eqT_of{α:Type} [DecidableEq α]{a b:List α}(h:a=b):Value.bool true= .bool (decide (a=b)):=by simp[h]
theorem nil_pol{α:Type}{E:Flat α}{F:List bE}:Has F (E.sl (.slice none 0 0) []):=λ_ _ _=>⟨none,0,rfl,λk x a=>by simp at a⟩
def bFm (l:List PolV):bE:=bE.each l fB
theorem sS{F:List bE}{p:PolV}(h:Has F (fB p)):Has F (oI.sl (j0 p) p.list):=h.left
theorem bOy{F:List bE}{p:PolV}(h:Has F (fB p)):Has F (bE.pure (p.list.length<=8796093022208)):=h.right
theorem gI{F:List bE}{p:PolV}(h:Has F (fB p)):Has F (bE.pure (p.list.length<=140737488355328)):=λS w k=>Nat.le_trans (bOy h S w k) l5
theorem polF_nil: ∀{F:List bE},Has F (fB ⟨none,0,[]⟩):=Has.and nil_pol (e9 l5)
def bJc {α:Type}(b:Nat)(l:Sl α):bE:=bE.pure (l.list.length<=l.cap/\l.list.length*b<=140737488355328)
def tV (l:Sl PolV):bE:=((iY.sl (.slice l.addr l.list.length l.cap) l.list).and (bFm l.list)).and (bJc 24 l)
def opF (x:OpV):bE:=fB x.p
def bRl (l:Sl OpV):bE:=((opE.sl (.slice l.addr l.list.length l.cap) l.list).and (bE.each l.list opF)).and (bJc 56 l)
def oL (x:gV):bE:=(fB x.at_).and ((tV x.loops).and (bRl x.ops))
def bHj (l:Sl gV):bE:=((sO.sl (.slice l.addr l.list.length l.cap) l.list).and (bE.each l.list oL)).and (bJc 96 l)
def bufF (x:lW):bE:=tV x.sides
def bufsF (l:Sl lW):bE:=((bBb.sl (.slice l.addr l.list.length l.cap) l.list).and (bE.each l.list bufF)).and (bJc 32 l)
def bIx (l:Sl Int):bE:=(cK.sl (.slice l.addr l.list.length l.cap) l.list).and (bJc 8 l)
def oJ (c:gD):bE:=(bufsF c.bufs).and ((bHj c.steps).and (bIx c.outs))
section
variable {F : List bE} {c : gD} {s : gV} {l : Sl PolV} {ol : Sl OpV} {bl : Sl lW} {xl : Sl gV} {il : Sl Int}
theorem lQ(h:Has F (oJ c)):Has F (bufsF c.bufs):=h.left
theorem iG(h:Has F (oJ c)):Has F (bHj c.steps):=h.right.left
theorem coreF_o(h:Has F (oJ c)):Has F (bIx c.outs):=h.right.right
theorem stepF_a(h:Has F (oL s)):Has F (fB s.at_):=h.left
theorem mV(h:Has F (oL s)):Has F (tV s.loops):=h.right.left
theorem qK(h:Has F (oL s)):Has F (bRl s.ops):=h.right.right
theorem qM(h:Has F (tV l)):Has F (iY.sl (j0 l) l.list):=h.left.left
theorem qJ(h:Has F (tV l)):Has F (bFm l.list):=h.left.right
theorem wL(h:Has F (tV l)):Has F (bJc 24 l):=h.right
theorem opsF_s(h:Has F (bRl ol)):Has F (opE.sl (j0 ol) ol.list):=h.left.left
theorem opsF_e(h:Has F (bRl ol)):Has F (bE.each ol.list opF):=h.left.right
theorem opsF_c(h:Has F (bRl ol)):Has F (bJc 56 ol):=h.right
theorem qS(h:Has F (bHj xl)):Has F (sO.sl (j0 xl) xl.list):=h.left.left
theorem qU(h:Has F (bHj xl)):Has F (bE.each xl.list oL):=h.left.right
theorem bPy(h:Has F (bHj xl)):Has F (bJc 96 xl):=h.right
theorem rR(h:Has F (bufsF bl)):Has F (bBb.sl (j0 bl) bl.list):=h.left.left
theorem bEg(h:Has F (bufsF bl)):Has F (bE.each bl.list bufF):=h.left.right
theorem bFx(h:Has F (bIx il)):Has F (cK.sl (j0 il) il.list):=h.left
end
end
end Go.Proofs.YtnfiadlonjediaaGreatDoor
