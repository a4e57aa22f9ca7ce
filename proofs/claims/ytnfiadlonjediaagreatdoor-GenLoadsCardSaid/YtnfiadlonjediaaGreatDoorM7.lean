/- Texts of one proof, one behind the other: MixS, Dns, Grows, PolyK0, TysK, CoreP, LifeP, FuseP, FuseQ, Cut, CorF. -/
import Derived.Test.YtnfiadlonjediaaGreatDoorM6
import Derived.Test.YtnfiadlonjediaaGreatDoorM4
import Derived.Test.YtnfiadlonjediaaGreatDoorM2
import Derived.Laws.Slices
set_option maxRecDepth 100000
namespace Go.Proofs.YtnfiadlonjediaaGreatDoor
section
open Go.RowKit Go.Proofs.Tryz
section
variable {P : Program} {ops : Array Oper} {md : Region.Mode} {C : World -> Prop} {R : Array Bool -> Act -> World -> Prop}
def xX (P:Program)(ops:Array Oper)(K:Act->World->Prop):List Nat->Act->World->Prop
 |[],a,w=>K a w
 |l::r,a,w=>fOp P ops l (xX P ops K r) a w
def rK (P:Program)(ops:Array Oper)(C:World->Prop)(Q:Exit->Act->World->Prop)(ls:List Nat):List (Bool×Nat)->Act->World->Prop
 |[],a,w=>xX P ops (Q .normal) ls a w
 |(true,k)::r,a,w=> ∃o v,ops[k]?=some o/\Fl P ops C o v a/\rK P ops C Q ls r (a.put o.dst v) w
 |(false,k)::r,a,w=>fOp P ops k (λa w=>C w/\rK P ops C Q ls r a w) a w
end
section
variable {P : Program} {β : dC} {n : Nat} {Γ : Env} {H : List bD} {F : List bC} {Q : Exit -> Act -> World -> Prop} {Hk : List bD} {F0 : List bC} {ops : Array Oper} {ls : List Nat}
theorem ats_sti{r:List (Bool×Nat)}{o:Oper}{k d:Nat}{v:Value}(hk:ops[k]?=some o)(hw:want ops Γ o=some true)(hd:o.dst=some d)(hn:Nat.blt d n=true)(h:Sti P β n Γ Hk F0 o v)
  (K:At β n ((d,v)::Γ) H F (rK P ops (StF β Hk F0) Q ls r)):At β n Γ H F (rK P ops (StF β Hk F0) Q ls ((true,k)::r)):=λa w S f s hF=>by
 refine⟨o,v,hk,.inl ⟨f.want hw,λw' ⟨S',s',k'⟩=>h a w' S' f s' k'⟩,?_⟩;rw[hd];exact K _ _ S (f.put l9 v) s hF
theorem ats_op{r:List (Bool×Nat)}{o:Oper}{k:Nat}{C:World->Prop}(hk:ops[k]?=some o)(h:At β n Γ H F (wpList P ops (Nm λa w=>C w/\rK P ops C Q ls r a w) [o])):At β n Γ H F (rK P ops C Q ls ((false,k)::r)):=λa w S f s hF o' ho'=>by
 have:o'=o:=Option.some.inj (ho'.symm.trans hk);subst this;exact h a w S f s hF
theorem ats_go{r:List (Bool×Nat)}(hH:Sel H Hk)(hF:bA F F0)(h:At β n Γ H F (rK P ops (StF β Hk F0) Q ls r)):At β n Γ H F (wpList P ops (Nm λa w=>StF β Hk F0 w/\rK P ops (StF β Hk F0) Q ls r a w) []):=λa w S f s k=>
 ⟨rfl,StF.sel hH hF ⟨S,s,k⟩,h a w S f s k⟩
theorem ats_tail{C:World->Prop}(h:At β n Γ H F (xX P ops (Q .normal) ls)):At β n Γ H F (rK P ops C Q ls []):=h
theorem ats_last{K:Act->World->Prop}{o:Oper}{l:Nat}(hk:ops[l]?=some o)(h:At β n Γ H F (wpList P ops (Nm (xX P ops K ls)) [o])):At β n Γ H F (xX P ops K (l::ls)):=λa w S f s hF o' ho'=>by
 have:o'=o:=Option.some.inj (ho'.symm.trans hk);subst this;exact h a w S f s hF
theorem ats_nil{K:Act->World->Prop}(h:At β n Γ H F K):At β n Γ H F (xX P ops K []):=h
end
section
variable {P : Program} {β : dC} {n : Nat} {Γ : Env} {H : List bD} {F : List bC} {Q : Exit -> Act -> World -> Prop} {K : Act -> World -> Prop} {T : Tab} {ops : Array Oper} {rest : List Oper} {o : Oper} {d : Nat} {v : Value}
theorem ldqO(hT:dY P T){t b q:Nat}{p:Operand}{cs:List Value}{i:TI}(ho:o.op= .load t p:=by exact rfl)(hp:Γ.ev p=some (.pointer (some ⟨b,q,none⟩)):=by exact rfl)(ht:T.get t=some i:=by exact rfl)(ha:aggD i.desc=false:=by exact rfl)(hk:nE β H F b q cs:=by first|exact bP bW.head|exact bP kT1|exact bP kT2|exact bP kT3|exact bP kT4|exact bP kT5|exact bP kT6|exact bP kT7|exact bP kT8|exact bP kT9|exact bP bDp|exact bP bDf|exact bP bDm|exact bP bDd)(hv:cs[0]?=some v:=by exact rfl):Sti P β n Γ H F o v:=bO hT hk ho hp ht ha hv
theorem ldqN(hT:dY P T){t b q:Nat}{p:Operand}{cs l:List Value}{i:TI}(ho:o.op= .load t p:=by exact rfl)(hp:Γ.ev p=some (.pointer (some ⟨b,q,none⟩)):=by exact rfl)(ht:T.get t=some i:=by exact rfl)(ha:aggD i.desc=true:=by exact rfl)(hk:nE β H F b q cs:=by first|exact bP bW.head|exact bP kT1|exact bP kT2|exact bP kT3|exact bP kT4|exact bP kT5|exact bP kT6|exact bP kT7|exact bP kT8|exact bP kT9|exact bP bDp|exact bP bDf|exact bP bDm|exact bP bDd)(hv:cut cs 0 i.size=some l:=by exact rfl):Sti P β n Γ H F o (.agg l.toArray):=rD hT hk ho hp ht ha hv
theorem stoq(hT:dY P T){t t' b off:Nat}{p x:Operand}{vs cs cs':List Value}{i:TI}{H':List bD}(k:At β n Γ (.obj b (.cells cs'.toArray t')::H') F (wpList P ops Q rest))(ho:o.op= .store t p x:=by exact rfl)(hp:Γ.ev p=some (.pointer (some ⟨b,off,none⟩)):=by exact rfl)(hx:Γ.ev x=some v:=by exact rfl)(hH:bW H (.obj b (.cells cs.toArray t')) H':=by first|exact bW.head|exact kT1|exact kT2|exact kT3|exact kT4|exact kT5|exact kT6|exact kT7|exact kT8|exact kT9|exact bDp|exact bDf|exact bDm|exact bDd)(ht:T.get t=some i:=by exact rfl)(hc:v.cells=vs.toArray:=by exact rfl)(hs:Nat.beq vs.length i.size=true:=by exact rfl)(h1:vs.all (·.oneCell')=true:=by exact rfl)(hput:rQ cs off vs=some cs':=by exact rfl)(hw:want ops Γ o=some true:=by exact rfl)(hd:o.dst=none:=by exact rfl):At β n Γ H F (wpList P ops Q (o::rest)):=at_store hT hw ho hd hp hx hH ht hc hs h1 hput k
theorem gdC{c:Code}(h:At β n Γ H F (c.wp P Q)):At β n Γ H F (c.wp P Q):=h
theorem gdW{l:List Oper}(h:At β n Γ H F (wpList P ops Q l)):At β n Γ H F (wpList P ops Q l):=h
theorem gdN(h:At β n Γ H F (wpList P ops Q [])):At β n Γ H F (wpList P ops Q []):=h
theorem gdT{e:Exit}(h:At β n Γ H F (Exit.then K Q e)):At β n Γ H F (Exit.then K Q e):=h
theorem gdB{i:Nat}{e:Exit}(h:At β n Γ H F (Exit.inBlock i Q e)):At β n Γ H F (Exit.inBlock i Q e):=h
theorem gdS{e:Exit}(h:At β n Γ H F (Exit.noGoto Q e)):At β n Γ H F (Exit.noGoto Q e):=h
theorem gdM{C:World->Prop}{r:List (Bool×Nat)}(h:At β n Γ H F (oJ P ops C Q r)):At β n Γ H F (oJ P ops C Q r):=h
theorem gdL{C:World->Prop}{r:List (Bool×Nat)}{l:Nat}(h:At β n Γ H F (lS P ops C Q l r)):At β n Γ H F (lS P ops C Q l r):=h
theorem gdX{C:World->Prop}{r:Tr}(h:At β n Γ H F (iU P ops C Q r)):At β n Γ H F (iU P ops C Q r):=h
theorem gdY{C:World->Prop}{ls:List Nat}{r:List (Bool×Nat)}(h:At β n Γ H F (rK P ops C Q ls r)):At β n Γ H F (rK P ops C Q ls r):=h
theorem one{R G:Prop}(k:R)(h:R->G:=by
  intro k_
  first
  |((with_reducible refine gdC ?_);first|with_reducible exact fT k_|with_reducible exact lV k_|with_reducible exact uY k_|with_reducible exact sL k_|with_reducible exact wQ k_|with_reducible exact at_exit k_|with_reducible exact at_scope k_|with_reducible exact at_label k_|exact kP rfl rfl k_|exact at_false rfl rfl k_)
  |((with_reducible refine gdW ?_);first|((with_reducible refine gdN ?_);first|((with_reducible refine zQ ?_ ?_ k_);(repeat (first|exact Sel.nil|refine Sel.cons bW.head ?_|refine Sel.cons kT1 ?_|refine Sel.cons kT2 ?_|refine Sel.cons kT3 ?_|refine Sel.cons kT4 ?_|refine Sel.cons kT5 ?_|refine Sel.cons kT6 ?_|refine Sel.cons kT7 ?_|refine Sel.cons kT8 ?_|refine Sel.cons kT9 ?_|refine Sel.cons bDp ?_|refine Sel.cons bDf ?_|refine Sel.cons bDm ?_|refine Sel.cons bDd ?_));(first|exact trivial|exact bA.drop 0|exact bA.drop 1|exact bA.drop 2|exact bA.drop 3|exact bA.drop 4|exact bA.drop 5|exact bA.drop 6|exact bA.drop 7|exact bA.drop 8|exact bA.drop 9|exact bA.drop 10|exact bA.drop 11|exact bA.drop 12|exact bA.drop 13|exact bA.drop 14|exact bA.drop 15|exact bA.drop 16|exact bA.drop 17|exact bA.drop 18|exact bA.drop 19|exact bA.drop 20|exact bA.drop 21|exact bA.drop 22|exact bA.drop 23|exact bA.drop 24|exact bA.drop 25|exact bA.drop 26|exact bA.drop 27|exact bA.drop 28|exact bA.drop 29|exact bA.drop 30|exact bA.drop 31|exact bA.drop 32|exact bA.drop 33|exact bA.drop 34|exact bA.drop 35|exact bA.drop 36|exact bA.drop 37|exact bA.drop 38|exact bA.drop 39|exact bA.drop 40|exact bA.drop 41|exact bA.drop 42|exact bA.drop 43|exact bA.drop 44|exact bA.drop 45|exact bA.drop 46|exact bA.drop 47|exact bA.drop 48|exact bA.drop 49|exact bA.drop 50|exact bA.drop 51|exact bA.drop 52|exact bA.drop 53|exact bA.drop 54|exact bA.drop 55|exact bA.drop 56|exact bA.drop 57|exact bA.drop 58|exact bA.drop 59|exact bA.drop 60|exact bA.drop 61|exact bA.drop 62|exact bA.drop 63|exact bA.drop 64|exact bA.drop 65|exact bA.drop 66|exact bA.drop 67|exact bA.drop 68|exact bA.drop 69))|((with_reducible refine atl_go ?_ ?_ k_);(repeat (first|exact Sel.nil|refine Sel.cons bW.head ?_|refine Sel.cons kT1 ?_|refine Sel.cons kT2 ?_|refine Sel.cons kT3 ?_|refine Sel.cons kT4 ?_|refine Sel.cons kT5 ?_|refine Sel.cons kT6 ?_|refine Sel.cons kT7 ?_|refine Sel.cons kT8 ?_|refine Sel.cons kT9 ?_|refine Sel.cons bDp ?_|refine Sel.cons bDf ?_|refine Sel.cons bDm ?_|refine Sel.cons bDd ?_));(first|exact trivial|exact bA.drop 0|exact bA.drop 1|exact bA.drop 2|exact bA.drop 3|exact bA.drop 4|exact bA.drop 5|exact bA.drop 6|exact bA.drop 7|exact bA.drop 8|exact bA.drop 9|exact bA.drop 10|exact bA.drop 11|exact bA.drop 12|exact bA.drop 13|exact bA.drop 14|exact bA.drop 15|exact bA.drop 16|exact bA.drop 17|exact bA.drop 18|exact bA.drop 19|exact bA.drop 20|exact bA.drop 21|exact bA.drop 22|exact bA.drop 23|exact bA.drop 24|exact bA.drop 25|exact bA.drop 26|exact bA.drop 27|exact bA.drop 28|exact bA.drop 29|exact bA.drop 30|exact bA.drop 31|exact bA.drop 32|exact bA.drop 33|exact bA.drop 34|exact bA.drop 35|exact bA.drop 36|exact bA.drop 37|exact bA.drop 38|exact bA.drop 39|exact bA.drop 40|exact bA.drop 41|exact bA.drop 42|exact bA.drop 43|exact bA.drop 44|exact bA.drop 45|exact bA.drop 46|exact bA.drop 47|exact bA.drop 48|exact bA.drop 49|exact bA.drop 50|exact bA.drop 51|exact bA.drop 52|exact bA.drop 53|exact bA.drop 54|exact bA.drop 55|exact bA.drop 56|exact bA.drop 57|exact bA.drop 58|exact bA.drop 59|exact bA.drop 60|exact bA.drop 61|exact bA.drop 62|exact bA.drop 63|exact bA.drop 64|exact bA.drop 65|exact bA.drop 66|exact bA.drop 67|exact bA.drop 68|exact bA.drop 69))|((with_reducible refine att_go ?_ ?_ k_);(repeat (first|exact Sel.nil|refine Sel.cons bW.head ?_|refine Sel.cons kT1 ?_|refine Sel.cons kT2 ?_|refine Sel.cons kT3 ?_|refine Sel.cons kT4 ?_|refine Sel.cons kT5 ?_|refine Sel.cons kT6 ?_|refine Sel.cons kT7 ?_|refine Sel.cons kT8 ?_|refine Sel.cons kT9 ?_|refine Sel.cons bDp ?_|refine Sel.cons bDf ?_|refine Sel.cons bDm ?_|refine Sel.cons bDd ?_));(first|exact trivial|exact bA.drop 0|exact bA.drop 1|exact bA.drop 2|exact bA.drop 3|exact bA.drop 4|exact bA.drop 5|exact bA.drop 6|exact bA.drop 7|exact bA.drop 8|exact bA.drop 9|exact bA.drop 10|exact bA.drop 11|exact bA.drop 12|exact bA.drop 13|exact bA.drop 14|exact bA.drop 15|exact bA.drop 16|exact bA.drop 17|exact bA.drop 18|exact bA.drop 19|exact bA.drop 20|exact bA.drop 21|exact bA.drop 22|exact bA.drop 23|exact bA.drop 24|exact bA.drop 25|exact bA.drop 26|exact bA.drop 27|exact bA.drop 28|exact bA.drop 29|exact bA.drop 30|exact bA.drop 31|exact bA.drop 32|exact bA.drop 33|exact bA.drop 34|exact bA.drop 35|exact bA.drop 36|exact bA.drop 37|exact bA.drop 38|exact bA.drop 39|exact bA.drop 40|exact bA.drop 41|exact bA.drop 42|exact bA.drop 43|exact bA.drop 44|exact bA.drop 45|exact bA.drop 46|exact bA.drop 47|exact bA.drop 48|exact bA.drop 49|exact bA.drop 50|exact bA.drop 51|exact bA.drop 52|exact bA.drop 53|exact bA.drop 54|exact bA.drop 55|exact bA.drop 56|exact bA.drop 57|exact bA.drop 58|exact bA.drop 59|exact bA.drop 60|exact bA.drop 61|exact bA.drop 62|exact bA.drop 63|exact bA.drop 64|exact bA.drop 65|exact bA.drop 66|exact bA.drop 67|exact bA.drop 68|exact bA.drop 69))|((with_reducible refine ats_go ?_ ?_ k_);(repeat (first|exact Sel.nil|refine Sel.cons bW.head ?_|refine Sel.cons kT1 ?_|refine Sel.cons kT2 ?_|refine Sel.cons kT3 ?_|refine Sel.cons kT4 ?_|refine Sel.cons kT5 ?_|refine Sel.cons kT6 ?_|refine Sel.cons kT7 ?_|refine Sel.cons kT8 ?_|refine Sel.cons kT9 ?_|refine Sel.cons bDp ?_|refine Sel.cons bDf ?_|refine Sel.cons bDm ?_|refine Sel.cons bDd ?_));(first|exact trivial|exact bA.drop 0|exact bA.drop 1|exact bA.drop 2|exact bA.drop 3|exact bA.drop 4|exact bA.drop 5|exact bA.drop 6|exact bA.drop 7|exact bA.drop 8|exact bA.drop 9|exact bA.drop 10|exact bA.drop 11|exact bA.drop 12|exact bA.drop 13|exact bA.drop 14|exact bA.drop 15|exact bA.drop 16|exact bA.drop 17|exact bA.drop 18|exact bA.drop 19|exact bA.drop 20|exact bA.drop 21|exact bA.drop 22|exact bA.drop 23|exact bA.drop 24|exact bA.drop 25|exact bA.drop 26|exact bA.drop 27|exact bA.drop 28|exact bA.drop 29|exact bA.drop 30|exact bA.drop 31|exact bA.drop 32|exact bA.drop 33|exact bA.drop 34|exact bA.drop 35|exact bA.drop 36|exact bA.drop 37|exact bA.drop 38|exact bA.drop 39|exact bA.drop 40|exact bA.drop 41|exact bA.drop 42|exact bA.drop 43|exact bA.drop 44|exact bA.drop 45|exact bA.drop 46|exact bA.drop 47|exact bA.drop 48|exact bA.drop 49|exact bA.drop 50|exact bA.drop 51|exact bA.drop 52|exact bA.drop 53|exact bA.drop 54|exact bA.drop 55|exact bA.drop 56|exact bA.drop 57|exact bA.drop 58|exact bA.drop 59|exact bA.drop 60|exact bA.drop 61|exact bA.drop 62|exact bA.drop 63|exact bA.drop 64|exact bA.drop 65|exact bA.drop 66|exact bA.drop 67|exact bA.drop 68|exact bA.drop 69))|with_reducible exact atl_end k_|with_reducible exact iY k_)|exact iG rfl rfl rfl (fM hT rfl) k_|exact bJn rfl rfl rfl k_|exact iG rfl rfl rfl (ldqO hT) k_|exact iG rfl rfl rfl (ldqN hT) k_|exact stoq hT k_)
  |((with_reducible refine gdT ?_);first|with_reducible exact lM k_|with_reducible exact uH k_|with_reducible exact bKo k_)
  |((with_reducible refine gdB ?_);first|with_reducible exact n_block k_|with_reducible exact bAr k_|with_reducible exact x_block k_|((with_reducible refine x_pass ?_ k_);exact rfl))
  |((with_reducible refine gdS ?_);first|with_reducible exact n_scope k_|with_reducible exact r_scope k_|with_reducible exact x_scope k_)
  |((with_reducible refine gdM ?_);first|with_reducible exact atm_nil k_|exact bCq rfl rfl rfl rfl (fM hT rfl) k_|exact atm_skipped rfl rfl rfl rfl k_|with_reducible exact atm_op rfl k_|exact bCq rfl rfl rfl rfl (ldqO hT) k_|exact bCq rfl rfl rfl rfl (ldqN hT) k_)
  |((with_reducible refine gdL ?_);first|exact bHw rfl rfl rfl rfl (fM hT rfl) k_|with_reducible exact atl_op rfl k_|with_reducible exact atl_last rfl k_|exact bHw rfl rfl rfl rfl (ldqO hT) k_|exact bHw rfl rfl rfl rfl (ldqN hT) k_)
  |((with_reducible refine gdX ?_);first|with_reducible exact att_nil k_|exact bHh rfl rfl rfl rfl (fM hT rfl) k_|exact att_skipped rfl rfl rfl rfl k_|with_reducible exact att_op rfl k_|exact bHh rfl rfl rfl rfl (ldqO hT) k_|exact bHh rfl rfl rfl rfl (ldqN hT) k_)
  |((with_reducible refine gdY ?_);first|with_reducible exact ats_tail k_|exact ats_sti rfl rfl rfl rfl (fM hT rfl) k_|with_reducible exact ats_op rfl k_|exact ats_sti rfl rfl rfl rfl (ldqO hT) k_|exact ats_sti rfl rfl rfl rfl (ldqN hT) k_)
  |with_reducible exact ats_last rfl k_
  |with_reducible exact ats_nil k_):G:=h k
theorem g2{R G:Prop}(k:R)(h:R->G:=by intro k_;(iterate 2 refine one ?_);exact k_):G:=h k
theorem g3{R G:Prop}(k:R)(h:R->G:=by intro k_;(iterate 3 refine one ?_);exact k_):G:=h k
theorem g4{R G:Prop}(k:R)(h:R->G:=by intro k_;(iterate 4 refine one ?_);exact k_):G:=h k
theorem g5{R G:Prop}(k:R)(h:R->G:=by intro k_;(iterate 5 refine one ?_);exact k_):G:=h k
theorem g6{R G:Prop}(k:R)(h:R->G:=by intro k_;(iterate 6 refine one ?_);exact k_):G:=h k
theorem g7{R G:Prop}(k:R)(h:R->G:=by intro k_;(iterate 7 refine one ?_);exact k_):G:=h k
theorem g8{R G:Prop}(k:R)(h:R->G:=by intro k_;(iterate 8 refine one ?_);exact k_):G:=h k
theorem g9{R G:Prop}(k:R)(h:R->G:=by intro k_;(iterate 9 refine one ?_);exact k_):G:=h k
theorem g10{R G:Prop}(k:R)(h:R->G:=by intro k_;(iterate 10 refine one ?_);exact k_):G:=h k
theorem g11{R G:Prop}(k:R)(h:R->G:=by intro k_;(iterate 11 refine one ?_);exact k_):G:=h k
theorem g12{R G:Prop}(k:R)(h:R->G:=by intro k_;(iterate 12 refine one ?_);exact k_):G:=h k
theorem g13{R G:Prop}(k:R)(h:R->G:=by intro k_;(iterate 13 refine one ?_);exact k_):G:=h k
theorem g14{R G:Prop}(k:R)(h:R->G:=by intro k_;(iterate 14 refine one ?_);exact k_):G:=h k
theorem g15{R G:Prop}(k:R)(h:R->G:=by intro k_;(iterate 15 refine one ?_);exact k_):G:=h k
theorem g16{R G:Prop}(k:R)(h:R->G:=by intro k_;(iterate 16 refine one ?_);exact k_):G:=h k
theorem g17{R G:Prop}(k:R)(h:R->G:=by intro k_;(iterate 17 refine one ?_);exact k_):G:=h k
theorem g18{R G:Prop}(k:R)(h:R->G:=by intro k_;(iterate 18 refine one ?_);exact k_):G:=h k
theorem g19{R G:Prop}(k:R)(h:R->G:=by intro k_;(iterate 19 refine one ?_);exact k_):G:=h k
theorem g20{R G:Prop}(k:R)(h:R->G:=by intro k_;(iterate 20 refine one ?_);exact k_):G:=h k
theorem g21{R G:Prop}(k:R)(h:R->G:=by intro k_;(iterate 21 refine one ?_);exact k_):G:=h k
theorem g22{R G:Prop}(k:R)(h:R->G:=by intro k_;(iterate 22 refine one ?_);exact k_):G:=h k
theorem g23{R G:Prop}(k:R)(h:R->G:=by intro k_;(iterate 23 refine one ?_);exact k_):G:=h k
theorem g24{R G:Prop}(k:R)(h:R->G:=by intro k_;(iterate 24 refine one ?_);exact k_):G:=h k
theorem g25{R G:Prop}(k:R)(h:R->G:=by intro k_;(iterate 25 refine one ?_);exact k_):G:=h k
theorem g26{R G:Prop}(k:R)(h:R->G:=by intro k_;(iterate 26 refine one ?_);exact k_):G:=h k
theorem g27{R G:Prop}(k:R)(h:R->G:=by intro k_;(iterate 27 refine one ?_);exact k_):G:=h k
theorem g28{R G:Prop}(k:R)(h:R->G:=by intro k_;(iterate 28 refine one ?_);exact k_):G:=h k
theorem g30{R G:Prop}(k:R)(h:R->G:=by intro k_;(iterate 30 refine one ?_);exact k_):G:=h k
theorem g32{R G:Prop}(k:R)(h:R->G:=by intro k_;(iterate 32 refine one ?_);exact k_):G:=h k
theorem g33{R G:Prop}(k:R)(h:R->G:=by intro k_;(iterate 33 refine one ?_);exact k_):G:=h k
theorem g34{R G:Prop}(k:R)(h:R->G:=by intro k_;(iterate 34 refine one ?_);exact k_):G:=h k
theorem g35{R G:Prop}(k:R)(h:R->G:=by intro k_;(iterate 35 refine one ?_);exact k_):G:=h k
theorem g37{R G:Prop}(k:R)(h:R->G:=by intro k_;(iterate 37 refine one ?_);exact k_):G:=h k
theorem g38{R G:Prop}(k:R)(h:R->G:=by intro k_;(iterate 38 refine one ?_);exact k_):G:=h k
theorem g40{R G:Prop}(k:R)(h:R->G:=by intro k_;(iterate 40 refine one ?_);exact k_):G:=h k
end
section
variable {P : Program} {β : dC} {n : Nat} {Γ : Env} {H : List bD} {F : List bC} {Q : Exit -> Act -> World -> Prop} {K : Act -> World -> Prop} {T : Tab} {c : Operand} {x y : Code} {d : Nat}
theorem dH{a b:Int}(ht:a<b->At β n Γ H F (x.wp P Q))(hf:b<=a->At β n Γ H F (y.wp P Q))(hc:Γ.ev c=some (.bool (decide (a<b))):=by exact rfl):At β n Γ H F ((Code.cond c x y).wp P Q):=cG hc (λh=>ht (of_decide_eq_true h)) (λh=>hf (Int.not_lt.1 (of_decide_eq_false h)))
theorem lG{a b:Int}(ht:a<b->At β n ((d,.bool true)::Γ) H F K)(hf:b<=a->At β n ((d,.bool false)::Γ) H F K):At β n ((d,.bool (decide (a<b)))::Γ) H F K:=cD (λh=>ht (of_decide_eq_true h)) (λh=>hf (Int.not_lt.1 (of_decide_eq_false h)))
theorem bLl{a b:Int}(ht:a<=b->At β n Γ H F (x.wp P Q))(hf:b<a->At β n Γ H F (y.wp P Q))(hc:Γ.ev c=some (.bool (decide (a<=b))):=by exact rfl):At β n Γ H F ((Code.cond c x y).wp P Q):=cG hc (λh=>ht (of_decide_eq_true h)) (λh=>hf (Int.not_le.1 (of_decide_eq_false h)))
theorem k_le{a b:Int}(ht:a<=b->At β n ((d,.bool true)::Γ) H F K)(hf:b<a->At β n ((d,.bool false)::Γ) H F K):At β n ((d,.bool (decide (a<=b)))::Γ) H F K:=cD (λh=>ht (of_decide_eq_true h)) (λh=>hf (Int.not_le.1 (of_decide_eq_false h)))
theorem jN{α:Type} [BEq α] [LawfulBEq α]{a b:α}(ht:a=b->At β n Γ H F (x.wp P Q))(hf:a≠b->At β n Γ H F (y.wp P Q))(hc:Γ.ev c=some (.bool (a==b)):=by exact rfl):At β n Γ H F ((Code.cond c x y).wp P Q):=cG hc (λh=>ht (eq_of_beq h)) (λh=>hf (beq_eq_false_iff_ne.1 h))
theorem bNt{α:Type} [BEq α] [LawfulBEq α]{a b:α}(ht:a=b->At β n ((d,.bool true)::Γ) H F K)(hf:a≠b->At β n ((d,.bool false)::Γ) H F K):At β n ((d,.bool (a==b))::Γ) H F K:=cD (λh=>ht (eq_of_beq h)) (λh=>hf (beq_eq_false_iff_ne.1 h))
theorem bNw{α:Type} [BEq α] [LawfulBEq α]{a b:α}(ht:a≠b->At β n Γ H F (x.wp P Q))(hf:a=b->At β n Γ H F (y.wp P Q))(hc:Γ.ev c=some (.bool (a !=b)):=by exact rfl):At β n Γ H F ((Code.cond c x y).wp P Q):=cG hc (λh=>ht (bne_iff_ne.1 h)) (λh=>hf (bne_eq_false_iff_eq.1 h))
theorem k_ne{α:Type} [BEq α] [LawfulBEq α]{a b:α}(ht:a≠b->At β n ((d,.bool true)::Γ) H F K)(hf:a=b->At β n ((d,.bool false)::Γ) H F K):At β n ((d,.bool (a !=b))::Γ) H F K:=cD (λh=>ht (bne_iff_ne.1 h)) (λh=>hf (bne_eq_false_iff_eq.1 h))
theorem yQ{b:Bool}(ht:b=false->At β n Γ H F (x.wp P Q))(hf:b=true->At β n Γ H F (y.wp P Q))(hc:Γ.ev c=some (.bool (!b)):=by exact rfl):At β n Γ H F ((Code.cond c x y).wp P Q):=cG hc (λh=>ht (bGl h)) (λh=>hf (bGp h))
theorem bKt{b:Bool}(ht:b=false->At β n ((d,.bool true)::Γ) H F K)(hf:b=true->At β n ((d,.bool false)::Γ) H F K):At β n ((d,.bool (!b))::Γ) H F K:=cD (λh=>ht (bGl h)) (λh=>hf (bGp h))
theorem yS{b:Bool}(ht:b=true->At β n Γ H F (x.wp P Q))(hf:b=false->At β n Γ H F (y.wp P Q))(hc:Γ.ev c=some (.bool b):=by exact rfl):At β n Γ H F ((Code.cond c x y).wp P Q):=cG hc ht hf
theorem inc{k:IntKind}{z:Int}(m:Nat)(h:At β n ((d,.int k m)::Γ) H F K)(hz:z=(m:Int):=by exact zE k7 k7):At β n ((d,.int k z)::Γ) H F K:=bN hz h
theorem gx{α:Type}(l:List α)(i:Nat)(h:i<l.length:=by omega): ∃x,l[i]?=some x:=⟨_,List.getElem?_eq_getElem h⟩
theorem rvcq(hT:dY P T){t ty b q:Nat}{i:TI}{cs l:List Value}(h:Γ.get t=some (.pointer (some ⟨b,q,none⟩)):=by exact rfl)(ht:T.get ty=some i:=by exact rfl)(ha:aggD i.desc=true:=by exact rfl)(hk:nE β H F b q cs:=by first|exact bP bW.head|exact bP kT1|exact bP kT2|exact bP kT3|exact bP kT4|exact bP kT5|exact bP kT6|exact bP kT7|exact bP kT8|exact bP kT9|exact bP bDp|exact bP bDf|exact bP bDm|exact bP bDd)(hv:cut cs 0 i.size=some l:=by exact rfl):RV P β n Γ H F (.cell t ty) (.agg l.toArray):=rv_cell hT hk h ht ha hv
theorem rvc1q(hT:dY P T){t ty b q:Nat}{i:TI}{cs:List Value}{v:Value}(h:Γ.get t=some (.pointer (some ⟨b,q,none⟩)):=by exact rfl)(ht:T.get ty=some i:=by exact rfl)(ha:aggD i.desc=false:=by exact rfl)(hk:nE β H F b q cs:=by first|exact bP bW.head|exact bP kT1|exact bP kT2|exact bP kT3|exact bP kT4|exact bP kT5|exact bP kT6|exact bP kT7|exact bP kT8|exact bP kT9|exact bP bDp|exact bP bDf|exact bP bDm|exact bP bDd)(hv:cs[0]?=some v:=by exact rfl):RV P β n Γ H F (.cell t ty) v:=rv_cell1 hT hk h ht ha hv
theorem rvt{r:ResultVar}{v:Value}(h:RV P β n Γ H F r v:=by first|exact rv_tmp rfl|exact rvcq hT|exact rvc1q hT):RV P β n Γ H F r v:=h
theorem selt{R:List bD}(h:Sel H R:=by repeat (first|exact Sel.nil|refine Sel.cons bW.head ?_|refine Sel.cons kT1 ?_|refine Sel.cons kT2 ?_|refine Sel.cons kT3 ?_|refine Sel.cons kT4 ?_|refine Sel.cons kT5 ?_|refine Sel.cons kT6 ?_|refine Sel.cons kT7 ?_|refine Sel.cons kT8 ?_|refine Sel.cons kT9 ?_|refine Sel.cons bDp ?_|refine Sel.cons bDf ?_|refine Sel.cons bDm ?_|refine Sel.cons bDd ?_)):Sel H R:=h
theorem subt{Δ:Env}(h:Γ.Sub Δ:=by repeat (first|exact trivial|refine And.intro rfl ?_)):Γ.Sub Δ:=h
theorem hdt{G:List bC}(h:bA F G:=by first|exact trivial|exact bA.drop 0|exact bA.drop 1|exact bA.drop 2|exact bA.drop 3|exact bA.drop 4|exact bA.drop 5|exact bA.drop 6|exact bA.drop 7|exact bA.drop 8|exact bA.drop 9|exact bA.drop 10|exact bA.drop 11|exact bA.drop 12|exact bA.drop 13|exact bA.drop 14|exact bA.drop 15|exact bA.drop 16|exact bA.drop 17|exact bA.drop 18|exact bA.drop 19|exact bA.drop 20|exact bA.drop 21|exact bA.drop 22|exact bA.drop 23|exact bA.drop 24|exact bA.drop 25|exact bA.drop 26|exact bA.drop 27|exact bA.drop 28|exact bA.drop 29|exact bA.drop 30|exact bA.drop 31|exact bA.drop 32|exact bA.drop 33|exact bA.drop 34|exact bA.drop 35|exact bA.drop 36|exact bA.drop 37|exact bA.drop 38|exact bA.drop 39|exact bA.drop 40|exact bA.drop 41|exact bA.drop 42|exact bA.drop 43|exact bA.drop 44|exact bA.drop 45|exact bA.drop 46|exact bA.drop 47|exact bA.drop 48|exact bA.drop 49|exact bA.drop 50|exact bA.drop 51|exact bA.drop 52|exact bA.drop 53|exact bA.drop 54|exact bA.drop 55|exact bA.drop 56|exact bA.drop 57|exact bA.drop 58|exact bA.drop 59|exact bA.drop 60|exact bA.drop 61|exact bA.drop 62|exact bA.drop 63|exact bA.drop 64|exact bA.drop 65|exact bA.drop 66|exact bA.drop 67|exact bA.drop 68|exact bA.drop 69):bA F G:=h
section
variable {ι : Type} {fn : Func} {val : ι -> Value} {Hout : ι -> List bD} {post : ι -> List bC} {r1 r2 r3 : ResultVar} {v1 v2 v3 : Value}
theorem rs1(x:ι)(hF:bA F (post x))(hr:fn.results= #[r1]:=by exact rfl)(h1:RV P β n Γ H F r1 v1:=by exact rvt)(hH:Sel H (Hout x):=by exact selt)(he:v1=val x:=by exact rfl):At β n Γ H F (bodyPost P fn (bNl β val Hout post) .ret):=nU x hr h1 hH hF he
theorem rs2(x:ι)(hF:bA F (post x))(hr:fn.results= #[r1,r2]:=by exact rfl)(h1:RV P β n Γ H F r1 v1:=by exact rvt)(h2:RV P β n Γ H F r2 v2:=by exact rvt)(hH:Sel H (Hout x):=by exact selt)(he: .tuple #[v1,v2]=val x:=by exact rfl):At β n Γ H F (bodyPost P fn (bNl β val Hout post) .ret):=qW x hr h1 h2 hH hF he
theorem rs3(x:ι)(hF:bA F (post x))(hr:fn.results= #[r1,r2,r3]:=by exact rfl)(h1:RV P β n Γ H F r1 v1:=by exact rvt)(h2:RV P β n Γ H F r2 v2:=by exact rvt)(h3:RV P β n Γ H F r3 v3:=by exact rvt)(hH:Sel H (Hout x):=by exact selt)(he: .tuple #[v1,v2,v3]=val x:=by exact rfl):At β n Γ H F (bodyPost P fn (bNl β val Hout post) .ret):=at_res3 x hr h1 h2 h3 hH hF he
theorem bk2{G:ι->Env}{Δ:Env}{HH:ι->List bD}{Hr:List bD}{FF:ι->List bC}{F0:List bC}{μ:ι->Nat}{m:Nat}(x:ι)(hF:bA F (FF x))(hμ:μ x<m:=by first|omega|(dsimp only;omega))(hG:Γ.Sub (G x):=by exact subt)(hΔ:Γ.Sub Δ:=by exact subt)(hH:Sel H (HH x++Hr):=by exact selt)(hF0:bA F F0:=by exact hdt):At β n Γ H F (Back β n (λx=>G x++Δ) (λx=>HH x++Hr) (λx=>FF x++F0) μ m):=oC x hμ hG hΔ hH hF hF0
end
end
section
variable {P : Program} {β : dC} {n : Nat} {Γ : Env} {H : List bD} {F : List bC} {T : Tab} {α : Type} {E : Flat α}
theorem Ho{g:bC}(h:g∈F:=by repeat (first|exact List.Mem.head _|refine List.Mem.tail _ ?_)):Has F g:=Has.of h
theorem rdt{A:Option Addr}{xs:List α}(h:dL β H F E A xs:=by first|exact bR Ho|exact cM n7|exact dA n7|exact gB n7 rfl):dL β H F E A xs:=h
theorem ixs{o:Oper}{t e l c:Nat}{x i:Operand}{kk:IntKind}{z:Int}{sz:Nat}{de:TD}{A:Option Addr}{xs:List α}(k:Nat)(hT:dY P T:=by exact hT)(ho:o.op= .indexAddr t x i:=by exact rfl)(hx:Γ.ev x=some (.slice A l c):=by exact rfl)(hi:Γ.ev i=some (.int kk z):=by exact rfl)(hr:dL β H F E A xs:=by exact rdt)(ht:T.get t=some ⟨.slice e,sz⟩:=by exact rfl)(he:T.get e=some ⟨de,E.size⟩:=by exact rfl)(hl:l=xs.length:=by exact rfl)(hz:z=(k:Nat):=by exact rfl)(hk:k<xs.length:=by omega):Sti P β n Γ H F o (.pointer (some ⟨bNo A,bNu A+k*E.size,none⟩)):=bG hT hr ho hx hi ht he hl hz hk
theorem fJ{o:Oper}{t:Nat}{p:Operand}{i:TI}{A:Option Addr}{xs:List α}{k:Nat}{x:α}{v:Value}(hx:xs[k]?=some x)(fo:Nat)(hT:dY P T:=by exact hT)(ho:o.op= .load t p:=by exact rfl)(hr:dL β H F E A xs:=by exact rdt)(hp:Γ.ev p=some (.pointer (some ⟨bNo A,bNu A+k*E.size+fo,none⟩)):=by exact rfl)(ht:T.get t=some i:=by exact rfl)(ha:aggD i.desc=false:=by exact rfl)(hv:((E.cells x).drop fo)[0]?=some v:=by exact rfl):Sti P β n Γ H F o (v):=bO hT (hr.knows hx fo) ho hp ht ha hv
theorem jQ{o:Oper}{t:Nat}{p:Operand}{i:TI}{A:Option Addr}{xs:List α}{k:Nat}{x:α}{l:List Value}(hx:xs[k]?=some x)(fo:Nat)(hT:dY P T:=by exact hT)(ho:o.op= .load t p:=by exact rfl)(hr:dL β H F E A xs:=by exact rdt)(hp:Γ.ev p=some (.pointer (some ⟨bNo A,bNu A+k*E.size+fo,none⟩)):=by exact rfl)(ht:T.get t=some i:=by exact rfl)(ha:aggD i.desc=true:=by exact rfl)(hv:cut ((E.cells x).drop fo) 0 i.size=some l:=by exact rfl):Sti P β n Γ H F o (.agg l.toArray):=rD hT (hr.knows hx fo) ho hp ht ha hv
theorem u8{α:Type}{a0 a1 a2 a3 a4 a5 a6 a7 x:α}{l:List α}(h:x∈l):x∈a0::a1::a2::a3::a4::a5::a6::a7::l:= .tail _ (.tail _ (.tail _ (.tail _ (.tail _ (.tail _ (.tail _ (.tail _ h)))))))
end
set_option maxRecDepth 100000
def tC (m:Mono):Bool:=decide (m.n<0)
def iE (p:List Mono):Bool:=cL p&& !(p.any tC)
set_option maxHeartbeats 400000 in
theorem neg_any(m:Mono)(w:World):Calls prog 211 #[.agg #[.int .i64 m.n,.int .u8 m.e0.toNat,.int .u8 m.e1.toNat,.int .u8 m.e2.toNat,.int .u8 m.e3.toNat,.int .u8 m.e4.toNat,.int .u8 m.e5.toNat]] w λe w'=>e= .returned (.bool (tC m))/\Below w.heap.size w w':=by
 go_enter func211,ntmps211
 go_wp2
 go_ret
 exact⟨rfl,by go_grown⟩
def IdxPost(w:World)(b:Bool)(e:Ending)(w':World):Prop:= ∃i:Int,e= .returned (.int .i64 i)/\decide (0<=i)=b/\Below w.heap.size w w'
set_option maxHeartbeats 1000000 in
theorem index_any(A:Option Addr)(c:Nat)(xs:List Mono)(w:World)(ha:jY w A xs)(hx:xs.length<=140737488355328):
  Calls prog 247 #[.slice A xs.length c,.func (.func 211) #[] #[]] w (IdxPost w (xs.any tC)):=by
 have Ha:=Lib.hid ha;clear ha
 go_enter func247,ntmps247
 go_wp2
 go_loopw [8] (λi wr=> ∃k:Nat,k<=xs.length/\i= .int .i64 k/\Hid (xs.any tC=(xs.drop k).any tC)/\Below w.heap.size w wr) (λi _=>xs.length-(intOf i).toNat)
 case atStart=>exact⟨0,Nat.zero_le _,rfl,rfl,Below.refl _ _⟩
 case round=>
  obtain⟨k,hk,rfl,hs,hbl⟩:=hrel
  by_cases hlt:k<xs.length
  .obtain⟨m,hm,dm⟩:=lW hlt;obtain⟨b,o,rfl,hB,c0,c1,c2,c3,c4,c5,c6⟩:=Ha.out.below hbl k m hm;have HS:=Lib.hid (show xs.any tC=(tC m || (xs.drop (k+1)).any tC) by rw[hs.out,dm,List.any_cons]);have HBL:=Lib.hid hbl;clear hs hm dm hB hbl
   go_wp2_with (go_at_call 211;refine(neg_any m _).mono ?_;rintro e w1 ⟨rfl,hb1⟩)
   .have hng:tC m=true:=by assumption
    go_ret
    exact⟨k,rfl,by rw[HS.out,hng,Bool.true_or];simp,HBL.out.trans (hb1.mono HBL.out.size)⟩
   .have hng:tC m=false:=by assumption
    go_roundw
    case rel=>exact⟨k+1,k7,by go_num,(by show _=_;rw[HS.out,hng,Bool.false_or]),HBL.out.trans (hb1.mono HBL.out.size)⟩
    case measure=>simp[intOf];omega
  .have HS:=Lib.hid (show xs.any tC=false by rw[hs.out,List.drop_of_length_le k7];rfl);clear hs
   go_wp2
   go_ret
   exact⟨-1,rfl,by rw[HS.out];rfl,hbl⟩
set_option maxHeartbeats 400000 in
theorem contains_any(A:Option Addr)(c:Nat)(xs:List Mono)(w:World)(ha:jY w A xs)(hx:xs.length<=140737488355328):
  Calls prog 210 #[.slice A xs.length c,.func (.func 211) #[] #[]] w λe w'=>e= .returned (.bool (xs.any tC))/\Below w.heap.size w w':=by
 have Ha:=Lib.hid ha;clear ha
 go_enter func210,ntmps210
 go_wp2_with fail
 refine(index_any A c xs _ Ha.out hx).mono ?_;rintro e w1 ⟨i,rfl,hi,hb1⟩;have Hi:=Lib.hid hi;clear hi
 go_wp2
 go_ret
 exact⟨jB Hi.out,hb1⟩
set_option maxHeartbeats 400000 in
theorem grows_any(A:Option Addr)(c:Nat)(xs:List Mono)(w:World)(ha:jY w A xs)(hx:xs.length<=140737488355328):
  Calls prog 149 #[.slice A xs.length c] w λe w'=>e= .returned (.bool (iE xs))/\Below w.heap.size w w':=by
 have Ha:=Lib.hid ha;clear ha;cases hr:cL xs
 .go_enter func149,ntmps149
  go_wp2_with fail
  refine(gA A c xs _ Ha.out hx).mono ?_;rintro e w1 ⟨rfl,hb1⟩
  go_wp2
  go_ret
  exact⟨jB (by unfold iE;rw[hr];rfl),hb1⟩
 .go_enter func149,ntmps149
  go_wp2_with fail
  refine(gA A c xs _ Ha.out hx).mono ?_;rintro e w1 ⟨rfl,hb1⟩;have H1:=Lib.hid hb1;clear hb1
  go_wp2_with fail
  refine(contains_any A c xs _ (Ha.out.below H1.out) hx).mono ?_;rintro e w2 ⟨rfl,hb2⟩;have H2:=Lib.hid (H1.out.trans (hb2.mono H1.out.size));clear hb2
  go_wp2
  go_ret
  exact⟨jB (by unfold iE;rw[hr,Bool.true_and]),H2.out⟩
end
section
open Go.RowKit Go.Proofs.Tryz
def mM:Flat Mono where
 size:=7
 cells:=Mono.cells
 len:=λ_=>rfl
 one:=λx u hu=>by
  simp[Mono.cells]at hu
  rcases hu with rfl|rfl|rfl|rfl|rfl|rfl|rfl<;>rfl
 pos:=m7
theorem monos_of{S:jF}{w:World}{A:Option Addr}{k c:Nat}{l:List Mono}(hS: ∀b,S b->b<w.heap.size)(h:(mM.sl (.slice A k c) l).p S w):jY w A l/\k=l.length:=by
 obtain⟨A',cap,e,h⟩:=h;injection e with e1 e2 e3
 subst e1 e2;refine⟨λk m hk=>?_,rfl⟩;obtain⟨b,o,cs,e1,e2,e3,e4⟩:=h k m hk;have e4:cs=m.cells:=e4;subst e4;exact⟨b,o,e1,hS b e2,e3 0 _ rfl,e3 1 _ rfl,e3 2 _ rfl,e3 3 _ rfl,e3 4 _ rfl,e3 5 _ rfl,e3 6 _ rfl⟩
theorem sl_of{w:World}{A:Option Addr}{c:Nat}{l:List Mono}(h:jY w A l):(mM.sl (.slice A l.length c) l).p (λb=>b<w.heap.size) w:=by
 refine⟨A,c,rfl,λk m hk=>?_⟩;obtain⟨b,o,e,hb,h0,h1,h2,h3,h4,h5,h6⟩:=h k m hk;refine⟨b,o,m.cells,e,hb,λj u hj=>?_,rfl⟩;have hlt:=(List.getElem?_eq_some_iff.1 hj).1;rw[Mono.cells_length]at hlt
 match j,hlt with
 |0,_=>simp[Mono.cells]at hj;subst hj;exact h0
 |1,_=>simp[Mono.cells]at hj;subst hj;exact h1
 |2,_=>simp[Mono.cells]at hj;subst hj;exact h2
 |3,_=>simp[Mono.cells]at hj;subst hj;exact h3
 |4,_=>simp[Mono.cells]at hj;subst hj;exact h4
 |5,_=>simp[Mono.cells]at hj;subst hj;exact h5
 |6,_=>simp[Mono.cells]at hj;subst hj;exact h6
abbrev PolV:=Sl Mono
def fC (p:PolV):bC:=(mM.sl (.slice p.addr p.list.length p.cap) p.list).and (bC.pure (p.list.length<=8796093022208))
section
variable (p : PolV)
theorem kI{p:PolV}{S:jF}{w:World}(hS: ∀b,S b->b<w.heap.size)(h:(fC p).p S w):jY w p.addr p.list:=(monos_of hS h.1).1
theorem bJw(hp:p.list.length<=140737488355328):cE prog 149 [.slice p.addr p.list.length p.cap] [] [fC p] (λ_:Unit=> .bool (iE p.list)) (λ_=>[]) (λ_=>[]):=
 pC λ_ w hS h=>grows_any _ _ _ w (kI hS (h _ (.head _))) hp
theorem polR_spec(hp:p.list.length<=140737488355328):cE prog 43 [.slice p.addr p.list.length p.cap] [] [fC p] (λ_:Unit=> .bool (cL p.list)) (λ_=>[]) (λ_=>[]):=
 pC λ_ w hS h=>gA _ _ _ w (kI hS (h _ (.head _))) hp
end
end
section
open Go.RowKit Go.ChangeShapes Go.WideShapes Go.Proofs.Tryz
def iD:Flat PolV:=slE Mono
def iT:Flat Bool where
 size:=1
 cells:=λx=>[.bool x]
 len:=λ_=>rfl
 one:=λx u hu=>by simp at hu;subst hu;rfl
 pos:=m7
structure OpV where
 how:Int
 k:Int
 n:Int
 p:PolV
 fn:Int
 deriving Inhabited
def opE:Flat OpV where
 size:=5
 cells:=λx=>[.int .i64 x.how,.int .i64 x.k,.int .i64 x.n,.slice x.p.addr x.p.list.length x.p.cap,.int .u8 x.fn]
 len:=λ_=>rfl
 one:=λx u hu=>by
  simp at hu
  rcases hu with rfl|rfl|rfl|rfl|rfl<;>rfl
 pos:=m7
structure jD where
 sides:(Sl PolV)
 input:Int
 deriving Inhabited
def vE:Flat jD where
 size:=2
 cells:=λx=>[.slice x.sides.addr x.sides.list.length x.sides.cap,.int .i64 x.input]
 len:=λ_=>rfl
 one:=λx u hu=>by
  simp at hu
  rcases hu with rfl|rfl<;>rfl
 pos:=m7
structure fW where
 how:Int
 buf:Int
 at_:PolV
 loops:(Sl PolV)
 fn:Int
 ops:(Sl OpV)
 deriving Inhabited
def sQ:Flat fW where
 size:=6
 cells:=λx=>[.int .i64 x.how,.int .i64 x.buf,.slice x.at_.addr x.at_.list.length x.at_.cap,.slice x.loops.addr x.loops.list.length x.loops.cap,.int .u8 x.fn,.slice x.ops.addr x.ops.list.length x.ops.cap]
 len:=λ_=>rfl
 one:=λx u hu=>by
  simp at hu
  rcases hu with rfl|rfl|rfl|rfl|rfl|rfl<;>rfl
 pos:=m7
structure gF where
 vars:Int
 bufs:(Sl jD)
 steps:(Sl fW)
 outs:(Sl Int)
 deriving Inhabited
def coreE:Flat gF where
 size:=4
 cells:=λx=>[.int .i64 x.vars,.slice x.bufs.addr x.bufs.list.length x.bufs.cap,.slice x.steps.addr x.steps.list.length x.steps.cap,.slice x.outs.addr x.outs.list.length x.outs.cap]
 len:=λ_=>rfl
 one:=λx u hu=>by
  simp at hu
  rcases hu with rfl|rfl|rfl|rfl<;>rfl
 pos:=m7
structure dV where
 from_:Int
 to_:Int
 deriving Inhabited
def lE:Flat dV where
 size:=2
 cells:=λx=>[.int .i64 x.from_,.int .i64 x.to_]
 len:=λ_=>rfl
 one:=λx u hu=>by
  simp at hu
  rcases hu with rfl|rfl<;>rfl
 pos:=m7
def coreT:Tab:=[(3,⟨.int .i64,1⟩),(2,⟨.int .i64,1⟩),(5,⟨.int .u8,1⟩),(4,⟨.bool,1⟩),(77,⟨.int .u8,1⟩),(32,⟨.int .i64,1⟩),(43,⟨.slice 111,1⟩),(42,⟨.slice 43,1⟩),(172,⟨.struct [(3,0),(3,1),(2,2),(43,3),(77,4)],5⟩),(78,⟨.slice 172,1⟩),(95,⟨.struct [(42,0),(3,1)],2⟩),(22,⟨.slice 95,1⟩),(80,⟨.struct [(3,0),(3,1),(43,2),(42,3),(77,4),(78,5)],6⟩),(23,⟨.slice 80,1⟩),(24,⟨.slice 3,1⟩),(99,⟨.slice 4,1⟩),(26,⟨.struct [(3,0),(22,1),(23,2),(24,3)],4⟩),(114,⟨.struct [(3,0),(3,1)],2⟩),(97,⟨.slice 114,1⟩),(201,⟨.struct [(3,0),(3,1),(3,2),(99,3)],4⟩),(198,⟨.array 64 4,64⟩),(111,⟨.struct [(2,0),(109,1)],7⟩),(109,⟨.array 6 5,6⟩),(290,⟨.slice 5,1⟩),(224,⟨.int .u64,1⟩),(199,⟨.other,1⟩),(274,⟨.other,1⟩),(126,⟨.other,1⟩)]
theorem dB:dY prog coreT:=uO.ok
 ⟨⟨by rw[underlying3];rfl,k8⟩,
  ⟨by rw[underlying2];rfl,k8⟩,
  ⟨by rw[underlying5];rfl,k8⟩,
  ⟨by rw[underlying4];rfl,k8⟩,
  ⟨by rw[underlying77];rfl,k8⟩,
  ⟨by rw[underlying32];rfl,k8⟩,
  ⟨by rw[underlying43];rfl,k8⟩,
  ⟨by rw[underlying42];rfl,k8⟩,
  ⟨by rw[underlying172];rfl,k8⟩,
  ⟨by rw[underlying78];rfl,k8⟩,
  ⟨by rw[underlying95];rfl,k8⟩,
  ⟨by rw[underlying22];rfl,k8⟩,
  ⟨by rw[underlying80];rfl,k8⟩,
  ⟨by rw[underlying23];rfl,k8⟩,
  ⟨by rw[underlying24];rfl,k8⟩,
  ⟨by rw[underlying99];rfl,k8⟩,
  ⟨by rw[underlying26];rfl,k8⟩,
  ⟨by rw[underlying114];rfl,k8⟩,
  ⟨by rw[underlying97];rfl,k8⟩,
  ⟨by rw[underlying201];rfl,k8⟩,
  ⟨by rw[underlying198];rfl,k8⟩,
  ⟨by rw[underlying111];rfl,k8⟩,
  ⟨by rw[underlying109];rfl,k8⟩,
  ⟨by rw[underlying290];rfl,k8⟩,
  ⟨by rw[underlying224];rfl,k8⟩,
  ⟨by rw[underlying199];rfl,k8⟩,
  ⟨by rw[underlying274];rfl,k8⟩,
  ⟨by rw[underlying126];rfl,k8⟩,e8⟩
end
section
open Go.RowKit Go.Proofs.Tryz
instance : DecidableEq Mono := λa b => decidable_of_iff (a.eqB b = true) (Mono.eqB_iff a b)
structure OpC where
 how:Int
 k:Int
 n:Int
 p:List Mono
 fn:Int
 deriving DecidableEq
structure gQ where
 sides:List (List Mono)
 input:Int
 deriving DecidableEq
structure cP where
 how:Int
 buf:Int
 at_:List Mono
 loops:List (List Mono)
 fn:Int
 ops:List OpC
 deriving DecidableEq
structure dE where
 vars:Int
 bufs:List gQ
 steps:List cP
 outs:List Int
 deriving DecidableEq
structure LifeC where
 from_:Int
 to_:Int
 deriving DecidableEq
def fX (f:Int)(two:Bool):Bool:=if f<1\/17<f then false else if f=16 then !two else two || decide (f<=7)
def cH (h:Int):Int:=if h=1\/h=2\/h=3 then 0 else if h=4\/h=5 then 1 else if h=6 then 2 else-1
def mP:List OpC->Int->Int->Int
 |[],most,now=>if now=1 then most else-1
 |o::r,most,now=>if cH o.how<0\/now<cH o.how then-1 else mP r (max most (now+(1-cH o.how))) (now+(1-cH o.how))
def kL (l:List OpC):Int:=mP l 0 0
def clampK(vars:Int):Nat:=(min (max vars 0) 6).toNat
def ofB (p:List Mono)(vars:Int):Bool:=p.all (λm=>(m.E.drop (clampK vars)).all (λe=>e==0))&&cL p
def gK (l:List (List Mono))(vars:Int):Bool:=l.all (λp=>ofB p vars&&iE p)&&decide (l.length<=4)
def opB (vars loops buf:Int)(made:List Bool)(o:OpC):Bool:=
 if o.how=1 then o.k==0&&(o.p.isEmpty&&o.fn==0)
 else if o.how=2 then ofB o.p vars&&(o.n==0&&(o.k==0&&o.fn==0))
 else if o.how=3 then decide (0<=o.k/\o.k<loops)&&(o.n==0&&(o.p.isEmpty&&o.fn==0))
 else if o.how=4 then decide (0<=o.k/\o.k≠buf)&&(made.getD o.k.toNat false&&(o.n==0&&(o.p.isEmpty&&o.fn==0)))
 else if o.how=5\/o.how=6 then fX o.fn (o.how==6)&&(o.n==0&&(o.k==0&&o.p.isEmpty))
 else false
def lD (vars:Int)(made:List Bool)(x:cP):Bool:=
 (ofB x.at_ vars&&iE x.at_)&&(gK x.loops vars&&(decide (x.ops.length<=256)&&(decide (0<=kL x.ops)&&
  ((if x.how=1 then x.fn==0 else if x.how=2\/x.how=3 then !x.loops.isEmpty&&fX x.fn true else false)&&x.ops.all (opB vars x.loops.length x.buf made)))))
def oE (vars:Int):List gQ->List Int->Bool
 |[],_=>true
 |b::r,seen=>gK b.sides vars&&(decide (-1<=b.input/\b.input<64)&&(!(seen.contains b.input)&&oE vars r (if 0<=b.input then b.input::seen else seen)))
def jV (vars:Int)(bufs:List gQ):List cP->List Bool->Bool
 |[],_=>true
 |x::r,made=>(decide (0<=x.buf)&&(match bufs[x.buf.toNat]? with
   |some b=>decide (b.input<0)
   |none=>false))&&(lD vars made x&&jV vars bufs r (made.set x.buf.toNat true))
def rG (bufs:List gQ):List Bool:=bufs.map λb=>decide (0<=b.input)
def cZ (c:dE):Bool:=
 decide (0<=c.vars/\c.vars<=6/\c.bufs.length<=1024/\c.steps.length<=1024/\c.outs.length<=64)&&(oE c.vars c.bufs []&&(jV c.vars c.bufs c.steps (rG c.bufs)&&c.outs.all λk=>decide (0<=k/\k<c.bufs.length)))
def tT (l:List OpC):List Nat:=l.filterMap λo=>if o.how=4 then some o.k.toNat else none
def hJ (i:Int)(l:List LifeC)(k:Nat):List LifeC:=l.modify k λx=>{x with to_:=i}
def yH (i:Int)(l:List LifeC)(k:Nat):List LifeC:=l.modify k λx=>{x with from_:=i}
def jP (i:Int)(x:cP)(s:List LifeC×List Bool):List LifeC×List Bool:=
 (hJ i (if s.2.getD x.buf.toNat false=true then (tT x.ops).foldl (hJ i) s.1 else yH i ((tT x.ops).foldl (hJ i) s.1) x.buf.toNat) x.buf.toNat,s.2.set x.buf.toNat true)
def qC:Int->List cP->List LifeC×List Bool->List LifeC×List Bool
 |_,[],s=>s
 |i,x::r,s=>qC (i+1) r (jP i x s)
def vL (outs:List Int):Nat->List gQ->List LifeC
 |_,[]=>[]
 |k,b::r=>⟨if 0<=b.input\/outs.contains (k:Int)=true then-1 else 0,-1⟩::vL outs (k+1) r
def cW (c:dE):List LifeC:=(c.outs.map Int.toNat).foldl (hJ c.steps.length) (qC 0 c.steps (vL c.outs 0 c.bufs,List.replicate c.bufs.length false)).1
section
variable {i j : Int} {l : List LifeC} {k b : Nat}
theorem bPy:(hJ i l k).length=l.length:=List.length_modify ..
theorem setFrom_len:(yH i l k).length=l.length:=List.length_modify ..
theorem bOp:(hJ i l k)[b]?=(l[b]?).map λx=>if k=b then {x with to_:=i}else x:=by
 unfold hJ;rw[List.getElem?_modify]
 by_cases h:k=b
 .simp[h]
 .simp[h]
theorem setFrom_get:(yH i l k)[b]?=(l[b]?).map λx=>if k=b then {x with from_:=i}else x:=by
 unfold yH;rw[List.getElem?_modify]
 by_cases h:k=b
 .simp[h]
 .simp[h]
theorem pE: ∀(ks:List Nat) (l:List LifeC),(ks.foldl (hJ i) l)[b]?=(l[b]?).map λx=>if b∈ks then {x with to_:=i}else x
 |[],l=>by simp
 |k::ks,l=>by
  rw[List.foldl_cons,pE ks,bOp,Option.map_map]
  congr 1
  funext x
  by_cases h1:k=b
  .subst h1
   by_cases h2:k∈ks<;>simp[h2]
  .by_cases h2:b∈ks
   .simp[h1,h2]
   .have: ¬b=k:=λe=>h1 e.symm;simp[h1,h2,this]
theorem vJ: ∀(ks:List Nat) (l:List LifeC),(ks.foldl (hJ i) l).length=l.length
 |[],_=>rfl
 |k::ks,l=>by rw[List.foldl_cons,vJ ks,bPy]
end
theorem liveStep_get{i:Int}{x:cP}{s:List LifeC×List Bool}{b:Nat}{y:LifeC}(hy:s.1[b]?=some y):(jP i x s).1[b]?=some ⟨if x.buf.toNat=b/\s.2.getD b false=false then i else y.from_,if x.buf.toNat=b\/b∈tT x.ops then i else y.to_⟩:=by
 unfold jP;simp only;rw[bOp]
 by_cases hm:s.2.getD x.buf.toNat false=true
 .rw[if_pos hm,pE,hy];simp only[Option.map_some]
  congr 1
  by_cases h1:x.buf.toNat=b
  .subst h1;simp only[true_and,true_or,if_true,hm,Bool.true_eq_false,if_false]
   by_cases h2:x.buf.toNat∈tT x.ops<;>simp[h2]
  .by_cases h2:b∈tT x.ops<;>simp[h1,h2]
 .rw[if_neg hm,setFrom_get,pE,hy];have hm:s.2.getD x.buf.toNat false=false:=by simpa using hm
  simp only[Option.map_some]
  congr 1
  by_cases h1:x.buf.toNat=b
  .subst h1;simp only[true_and,true_or,if_true,hm]
  .by_cases h2:b∈tT x.ops<;>simp[h1,h2]
theorem uK{i:Int}{x:cP}{s:List LifeC×List Bool}:(jP i x s).1.length=s.1.length:=by
 unfold jP;simp only;rw[bPy];split
 .rw[vJ]
 .rw[setFrom_len,vJ]
theorem zN: ∀(outs:List Int) (k:Nat) (bufs:List gQ),(vL outs k bufs).length=bufs.length
 |_,_,[]=>rfl
 |outs,k,b::r=>by rw[vL,List.length_cons,List.length_cons,zN]
def bOv (x:cP)(b:Int):Bool:=x.ops.any (λo=>o.how==4&&o.k==b) || x.buf==b
def lA (b:Int):Int->List cP->Int->Int
 |_,[],d=>d
 |i,x::r,d=>if x.buf=b then i else lA b (i+1) r d
def uG (b:Int):Int->List cP->Int->Int
 |_,[],d=>d
 |i,x::r,d=>uG b (i+1) r (if bOv x b=true then i else d)
def bEf (b:Int)(l:List cP):Bool:=l.any λx=>bOv x b
def lifeR (c:dE)(b:Nat)(u:gQ):LifeC:=
 if (bEf b c.steps || (c.outs.contains (b:Int) || decide (0<=u.input)))=false then ⟨0,-1⟩
 else ⟨lA b 0 c.steps (-1),if c.outs.contains (b:Int)=true then c.steps.length else uG b 0 c.steps (-1)⟩
def livesR(c:dE):List LifeC:=c.bufs.mapIdx (lifeR c)
def wholeS(x:cP)(sides:List (List Mono)):Bool:=x.at_.isEmpty&&decide ((if x.how=2 then x.loops.dropLast else x.loops)=sides)
def zP (steps:List cP)(b:Nat)(u:gQ):Bool:=match steps.filter (λx=>x.buf==(b:Int))with
 |[x]=>wholeS x u.sides
 |_=>false
def mL (c:dE):List Bool:=c.bufs.mapIdx (zP c.steps)
section
variable {b i d : Int} {r : List cP} {x : cP}
theorem bCx: ∀{r:List cP} {i d:Int},bEf b r=false->uG b i r d=d
 |[],_,_,_=>rfl
 |x::r,i,d,h=>by
  unfold bEf at h;rw[List.any_cons,Bool.or_eq_false_iff]at h;rw[uG,if_neg (by rw[h.1];simp)];exact bCx h.2
theorem uZ: ∀{r:List cP} {i d:Int},(∀x∈r,x.buf≠b)->lA b i r d=d
 |[],_,_,_=>rfl
 |x::r,i,d,h=>by
  rw[lA,if_neg (h x (List.mem_cons_self ..))];exact uZ λy hy=>h y (List.mem_cons_of_mem _ hy)
theorem bBn: ∀{r:List cP} {i d d':Int},(∃x∈r,x.buf=b)->lA b i r d=lA b i r d'
 |[],_,_,_,h=>by obtain⟨x,hx,_⟩:=h;cases hx
 |x::r,i,d,d',h=>by
  rw[lA,lA]
  by_cases e:x.buf=b
  .rw[if_pos e,if_pos e]
  .rw[if_neg e,if_neg e];obtain⟨y,hy,e2⟩:=h
   rcases List.mem_cons.1 hy with rfl|hy
   .exact absurd e2 e
   .exact bBn ⟨y,hy,e2⟩
end
def NatStep(x:cP):Prop:=0<=x.buf/\ ∀o∈x.ops,o.how=4->0<=o.k
theorem bKw{x:cP}{b:Nat}(h:NatStep x):bOv x b=true↔x.buf.toNat=b\/b∈tT x.ops:=by
 unfold bOv;rw[Bool.or_eq_true,List.any_eq_true];constructor
 .rintro(⟨o,ho,h1⟩|h1)
  .right;simp only[Bool.and_eq_true,beq_iff_eq]at h1;exact List.mem_filterMap.2 ⟨o,ho,by rw[if_pos h1.1,h1.2];rfl⟩
  .left;rw[beq_iff_eq]at h1;omega
 .rintro(h1|h1)
  .right;rw[beq_iff_eq];have:=h.1;omega
  .left;obtain⟨o,ho,h2⟩:=List.mem_filterMap.1 h1;split at h2
   .rename_i h4;have:=h.2 o ho h4;cases h2;refine⟨o,ho,?_⟩;simp only[Bool.and_eq_true,beq_iff_eq];exact⟨h4,k7⟩
   .cases h2
theorem bGt: ∀{r:List cP} {i:Int} {s:List LifeC×List Bool} {b:Nat} {y:LifeC},(∀x∈r,NatStep x)->s.1[b]?=some y->b<s.2.length->
  (qC i r s).1[b]?=some ⟨if s.2.getD b false=true then y.from_ else lA b i r y.from_,uG b i r y.to_⟩
 |[],i,s,b,y,_,hy,_=>by
  rw[qC,hy,lA,uG];simp
 |x::r,i,s,b,y,hn,hy,hb=>by
  have hx:=hn x (List.mem_cons_self ..);rw[qC,bGt (λy hy=>hn y (List.mem_cons_of_mem _ hy)) (liveStep_get hy) (show b<(jP i x s).2.length by unfold jP;simpa using hb)]
  have hm:(jP i x s).2.getD b false=(decide (x.buf.toNat=b) || s.2.getD b false):=by
   show(s.2.set x.buf.toNat true).getD b false=_;rw[List.getD_eq_getElem?_getD,List.getElem?_set]
   by_cases e:x.buf.toNat=b
   .rw[if_pos e,if_pos k7];simp[e]
   .rw[if_neg e];simp[e,List.getD_eq_getElem?_getD]
  rw[hm,lA,uG]
  have hbe:x.buf.toNat=b↔x.buf=(b:Int):=by
   have:=hx.1;omega
  congr 2
  .by_cases e:x.buf.toNat=b
   .have e2:=hbe.1 e
    cases hs:s.2.getD b false with
    |true=>simp[e]
    |false=>simp[e2]
   .have e2: ¬x.buf=(b:Int):=λh=>e (hbe.2 h)
    cases hs:s.2.getD b false with
    |true=>simp[e]
    |false=>simp[e2,e]
  .by_cases e:bOv x b=true
   .rw[if_pos e,if_pos ((bKw hx).1 e)]
   .rw[if_neg e,if_neg (λh=>e ((bKw hx).2 h))]
theorem wS: ∀{outs:List Int} {k:Nat} {bufs:List gQ} {b:Nat},(vL outs k bufs)[b]?=(bufs[b]?).map λu=>⟨if 0<=u.input\/outs.contains ((k+b:Nat):Int)=true then-1 else 0,-1⟩
 |_,_,[],_=>rfl
 |outs,k,u::r,0=>rfl
 |outs,k,u::r,b+1=>by
  have:=wS (outs:=outs) (k:=k+1) (bufs:=r) (b:=b);rw[vL,List.getElem?_cons_succ,List.getElem?_cons_succ,this,show k+1+b=k+(b+1) by omega]
theorem zK{vars:Int}{bufs:List gQ}: ∀{r:List cP} {made:List Bool},jV vars bufs r made=true-> ∀x∈r,NatStep x
 |[],_,_,x,hx=>by cases hx
 |y::r,made,h,x,hx=>by
  rw[jV,Bool.and_eq_true,Bool.and_eq_true,Bool.and_eq_true]at h;obtain⟨⟨h1,_⟩,h2,h3⟩:=h
  rcases List.mem_cons.1 hx with rfl|hx
  .refine⟨by simpa using h1,λo ho h4=>?_⟩
   have hop:x.ops.all (opB vars x.loops.length x.buf made)=true:=by
    unfold lD at h2;simp only[Bool.and_eq_true]at h2;exact h2.2.2.2.2.2
   have:=List.all_eq_true.1 hop o ho;unfold opB at this;rw[if_neg k7,if_neg k7,if_neg k7,if_pos h4]at this;simp only[Bool.and_eq_true,decide_eq_true_eq]at this;exact this.1.1
  .exact zK h3 x hx
theorem bFs{vars:Int}{bufs:List gQ}: ∀{r:List cP} {made:List Bool},jV vars bufs r made=true-> ∀x∈r,∀b∈tT x.ops,made.getD b false=true\/ ∃y∈r,y.buf.toNat=b
 |[],_,_,x,hx=>by cases hx
 |y::r,made,h,x,hx=>λb hb=>by
  rw[jV,Bool.and_eq_true,Bool.and_eq_true,Bool.and_eq_true]at h;obtain⟨⟨h1,_⟩,h2,h3⟩:=h
  rcases List.mem_cons.1 hx with rfl|hx
  .left
   have hop:x.ops.all (opB vars x.loops.length x.buf made)=true:=by
    unfold lD at h2;simp only[Bool.and_eq_true]at h2;exact h2.2.2.2.2.2
   obtain⟨o,ho,hk2⟩:=List.mem_filterMap.1 hb;split at hk2
   .rename_i h44;cases hk2;have:=List.all_eq_true.1 hop o ho;unfold opB at this;rw[if_neg k7,if_neg k7,if_neg k7,if_pos h44]at this;simp only[Bool.and_eq_true]at this;exact this.2.1
   .cases hk2
  .rcases bFs h3 x hx b hb with h4|⟨z,hz,e⟩
   .rw[List.getD_eq_getElem?_getD,List.getElem?_set]at h4
    by_cases e:y.buf.toNat=b
    .exact .inr ⟨y,List.mem_cons_self ..,e⟩
    .rw[if_neg e]at h4;exact .inl (by rw[List.getD_eq_getElem?_getD];exact h4)
   .exact .inr ⟨z,List.mem_cons_of_mem _ hz,e⟩
theorem gJ{c:dE}(h:cZ c=true):(0<=c.vars/\c.vars<=6/\c.bufs.length<=1024/\c.steps.length<=1024/\c.outs.length<=64)/\oE c.vars c.bufs []=true/\jV c.vars c.bufs c.steps (rG c.bufs)=true/\ ∀k∈c.outs,0<=k/\k<c.bufs.length:=by
 simp only[cZ,Bool.and_eq_true,decide_eq_true_eq,List.all_eq_true]at h;exact h
theorem lives_eq{c:dE}(h:cZ c=true):cW c=livesR c:=by
 obtain⟨h1,h2,h3,h4⟩:=gJ h;have hn:=zK h3;apply List.ext_getElem?;intro b;unfold cW livesR;rw[pE,List.getElem?_mapIdx]
 cases hu:c.bufs[b]? with
 |none=>
  have hb:c.bufs.length<=b:=List.getElem?_eq_none_iff.1 hu
  have hl:(qC 0 c.steps (vL c.outs 0 c.bufs,List.replicate c.bufs.length false)).1.length=c.bufs.length:=by
   have: ∀(r:List cP) (i:Int) (s:List LifeC×List Bool),(qC i r s).1.length=s.1.length:=λr=>by
    induction r with
    |nil=>intro i s;rfl
    |cons x r ih=>intro i s;rw[qC,ih,uK]
   rw[this,zN]
  rw[List.getElem?_eq_none k7];rfl
 |some u=>
  have hb:b<c.bufs.length:=(List.getElem?_eq_some_iff.1 hu).1
  have hy:(vL c.outs 0 c.bufs)[b]?=some ⟨if 0<=u.input\/c.outs.contains (b:Int)=true then-1 else 0,-1⟩:=by
   rw[wS,hu,Nat.zero_add];rfl
  have hm:(List.replicate c.bufs.length false).getD b false=false:=by
   rw[List.getD_eq_getElem?_getD,List.getElem?_replicate];split<;>rfl
  rw[bGt hn hy (by simpa using hb)];simp only[Option.map_some,hm,Bool.false_eq_true,if_false]
  have hout:b∈c.outs.map Int.toNat↔c.outs.contains (b:Int)=true:=by
   rw[List.mem_map,List.contains_iff_mem];constructor
   .rintro⟨k,hk,e⟩;have:=(h4 k hk).1;have e:k=(b:Int):=k7
    rwa[<-e]
   .exact λhk=>⟨_,hk,m9⟩
  unfold lifeR
  congr 1
  by_cases hmk: ∃x∈c.steps,x.buf=(b:Int)
  .have hany:bEf b c.steps=true:=by
    obtain⟨x,hx,e⟩:=hmk;exact List.any_eq_true.2 ⟨x,hx,by unfold bOv;simp[e]⟩
   rw[hany,bBn hmk (d':= -1)];simp only[Bool.true_or,Bool.true_eq_false,if_false]
   by_cases ho:c.outs.contains (b:Int)=true
   .rw[if_pos (hout.2 ho),if_pos ho]
   .rw[if_neg (λe=>ho (hout.1 e)),if_neg ho]
  .have hno: ∀x∈c.steps,x.buf≠(b:Int):=λx hx e=>hmk ⟨x,hx,e⟩;rw[uZ hno,uZ hno]
   by_cases hi:0<=u.input
   .simp only[hi,true_or,if_true,decide_true,Bool.or_true,Bool.true_eq_false,if_false]
    by_cases ho:c.outs.contains (b:Int)=true
    .rw[if_pos (hout.2 ho),if_pos ho]
    .rw[if_neg (λe=>ho (hout.1 e)),if_neg ho]
   .by_cases ho:c.outs.contains (b:Int)=true
    .rw[ho];simp only[or_true,if_true,Bool.true_or,Bool.or_true,Bool.true_eq_false,if_false];rw[if_pos (hout.2 ho)]
    .have ho':c.outs.contains (b:Int)=false:=by simpa using ho
     have hna:bEf b c.steps=false:=by
      cases ha:bEf b c.steps with
      |false=>rfl
      |true=>
       exfalso
       obtain⟨x,hx,e⟩:=List.any_eq_true.1 ha
       rcases (bKw (hn x hx)).1 e with e|e
       .exact hno x hx (by have:=(hn x hx).1;omega)
       .rcases bFs h3 x hx b e with e|⟨y,hy,e⟩
        .unfold rG at e;rw[List.getD_eq_getElem?_getD,List.getElem?_map,hu]at e;simp at e;exact hi e
        .exact hno y hy (by have:=(hn y hy).1;omega)
     rw[hna,ho',bCx hna];rw[if_neg (λe=>ho (hout.1 e))];simp[hi]
def yX (l:List cP)(b:Nat):Nat:=(l.filter λx=>x.buf==(b:Int)).length
section
variable {l : List cP} {x : cP} {b : Nat} {u : gQ}
theorem cntMk_snoc:yX (l++[x]) b=yX l b+if x.buf=(b:Int)then 1 else 0:=by
 unfold yX;rw[List.filter_append,List.length_append]
 by_cases e:x.buf=(b:Int)<;>simp[e]
theorem fullAt_other(e:x.buf≠(b:Int)):zP (l++[x]) b u=zP l b u:=by
 unfold zP;rw[List.filter_append];simp[e]
theorem fullAt_here(e:x.buf=(b:Int)):zP (l++[x]) b u=(decide (yX l b+1=1)&&wholeS x u.sides):=by
 unfold zP yX;rw[List.filter_append]
 cases h:l.filter (λx=>x.buf==(b:Int))with
 |nil=>simp[e]
 |cons y r=>simp[e]
end
section
variable {P : Program} {β : dC} {n : Nat} {Γ : Env} {H : List bD} {F : List bC} {Q : Exit -> Act -> World -> Prop} {K : Act -> World -> Prop} {T : Tab} {α : Type} {E : Flat α}
theorem elem_of{t e:Nat}(hu:P.underlying t=some (.slice e)):P.elem t=e:=by simp[Program.elem,hu]
theorem run_cutTo(hT:dY P T){t e sz:Nat}{ei:TI}(ht:T.get t=some ⟨.slice e,sz⟩)(he:T.get e=some ei){A:Option Addr}{l c k:Nat}(hk:k<=c)(kk:IntKind)(w:World):(Instr.sliceAt t (.slice A l c) none (some (.int kk (k:Nat))) none).run P w= .ok (.slice A k c) w:=by
 obtain⟨d,hu,hd⟩:=hT.any ht;cases d<;>simp[TD.of]at hd
 subst hd;have hel:=elem_of hu;rw[run_sliceAt_slice w t _ _ _ _ u3,run_slice_h w t A l c u3 kk (k:Int) k7 k7,hel,hT.size he];simp only[Result.andThen_ok,sliced,Int.toNat_natCast,Nat.zero_mul,Nat.sub_zero]
 congr 2
 split
 .rfl
 .cases A<;>simp[Addr.add]
theorem run_cutFrom(hT:dY P T){t e sz:Nat}{ei:TI}(ht:T.get t=some ⟨.slice e,sz⟩)(he:T.get e=some ei){A:Option Addr}{l c k:Nat}(hk:k<=l)(kk:IntKind)(w:World):(Instr.sliceAt t (.slice A l c) (some (.int kk (k:Nat))) none none).run P w= .ok (.slice (cutA A k ei.size c) (l-k) (c-k)) w:=by
 obtain⟨d,hu,hd⟩:=hT.any ht;cases d<;>simp[TD.of]at hd
 subst hd;have hel:=elem_of hu;rw[run_sliceAt_slice w t _ _ _ _ u3,run_slice_l w t A l c u3 kk (k:Int) k7 k7,hel,hT.size he];simp only[Result.andThen_ok,sliced,Int.toNat_natCast,cutA]
theorem jJ{b:Nat}{cs:List Value}{t:TypeId}{H':List bD}(hH:bW H (.obj b (.cells cs.toArray t)) H')(h:At β n Γ H' (bC.cells b 0 cs::F) K):At β n Γ H F K:=λa w S f s k=>by
 have s2:=s.perm hH.perm;have hok:w.heap[b]?=some (.cells cs.toArray t):=s2.ok _ (List.mem_cons_self ..);have hsep:=List.pairwise_cons.1 s2.sep;have hown:=s2.own _ (List.mem_cons_self ..);have hmono:All F (λx=>S x\/x=b) w:=All.mono (λ_ h=> .inl h) (λ_ _=>rfl) k;refine h a w (λx=>S x\/x=b) f ⟨s2.kept,λc hc=>s2.ok c (List.mem_cons_of_mem _ hc),λc hc x hx=>?_,hsep.2,λx hx=>?_⟩ (All.cons ?_ hmono)
 .obtain⟨h1,h2,h3⟩:=s2.own c (List.mem_cons_of_mem _ hc) x hx;refine⟨h1,h2,λh=>?_⟩
  rcases h with h|h
  .exact h3 h
  .subst h;exact hsep.1 c hc _ rfl hx
 .rcases hx with hx|hx
  .exact s2.zone x hx
  .subst hx;obtain⟨h1,h2,_⟩:=hown _ rfl;exact⟨h1,.inr h2⟩
 .refine⟨.inr rfl,λj u hj=>?_⟩;unfold World.cell?;rw[hok]
  simpa using hj
theorem Has.cons{f g:bC}{F:List bC}(h:Has F g):Has (f::F) g:=λS w k=>h S w λx hx=>k x (List.mem_cons_of_mem _ hx)
theorem Has.each_nil{α:Type}{g:α->bC}{F:List bC}:Has F (bC.each [] g):=λ_ _ _ x hx=>by simp at hx
theorem Has.each_cons{α:Type}{g:α->bC}{F:List bC}{x:α}{l:List α}(hx:Has F (g x))(hl:Has F (bC.each l g)):Has F (bC.each (x::l) g):=λS w k y hy=>by
 rcases List.mem_cons.1 hy with rfl|hy
 .exact hx S w k
 .exact hl S w k y hy
theorem bDw(hT:dY P T){o:Oper}{t e sz k l cap:Nat}{ei:TI}{x i:Operand}{kk:IntKind}{z:Int}{A:Option Addr}(ho:o.op= .slice t x none (some i) none)(hx:Γ.ev x=some (.slice A l cap))(hi:Γ.ev i=some (.int kk z))
  (ht:T.get t=some ⟨.slice e,sz⟩) (he:T.get e=some ei) (hz:z=(k:Nat)) (hk:k<=cap):Sti P β n Γ H F o (.slice A k cap):=λa w S f s hF=>by
 subst hz;unfold execOp;simp only[ho,f.ev hx,Option.map_some,Option.map_none,f.ev hi];rw[Sem.run_bind,run_cutTo hT ht he hk];rfl
theorem bGn(hT:dY P T){o:Oper}{t e sz k l cap:Nat}{ei:TI}{x i:Operand}{kk:IntKind}{z:Int}{A:Option Addr}(ho:o.op= .slice t x (some i) none none)(hx:Γ.ev x=some (.slice A l cap))(hi:Γ.ev i=some (.int kk z))
  (ht:T.get t=some ⟨.slice e,sz⟩) (he:T.get e=some ei) (hz:z=(k:Nat)) (hk:k<=l):Sti P β n Γ H F o (.slice (cutA A k ei.size cap) (l-k) (cap-k)):=λa w S f s hF=>by
 subst hz;unfold execOp;simp only[ho,f.ev hx,Option.map_some,Option.map_none,f.ev hi];rw[Sem.run_bind,run_cutFrom hT ht he hk];rfl
theorem has_take{A:Option Addr}{l c k:Nat}{xs:List α}(h:Has F (E.sl (.slice A l c) xs))(hk:k<=xs.length):Has F (E.sl (.slice A k c) (xs.take k)):=λS w q=>by
 obtain⟨A',c',e,h⟩:=h S w q;injection e with e1 e2 e3
 subst e1 e3;refine⟨A,c,by rw[List.length_take,Nat.min_eq_left hk],λj x hj=>?_⟩;rw[List.getElem?_take]at hj;split at hj
 .exact h j x hj
 .cases hj
theorem bEx{A:Option Addr}{t:TypeId}{m cap:Nat}{xs:List α}{H':List bD}(hH:bW H (E.row (.slice A m cap) t xs) H')(h:xs.length<=cap->At β n Γ H F K):At β n Γ H F K:=λa w S f s k=>by
 have hown:w.ownsRow 0 t E.size (.slice A m cap) xs.length (E.all xs):=s.ok _ hH.mem;refine h ?_ a w S f s k
 rcases hown.2 with ⟨_,e0⟩|⟨g,cap',cur,e1,h1,h2,h3,_⟩
 .omega
 .injection e1 with e1 e2 e3
  subst e3;omega
end
theorem dW:prog.follows .mixedOrders=true:=k8
def bHm (a b:Mono):Bool:=a.eqB b
theorem sti_neq_mono{β:dC}{n:Nat}{Γ:Env}{H:List bD}{F:List bC}{o:Oper}{a b:Operand}{tt:TypeId}(x y:Mono)(ho:o.op= .binOp .neq 111 a b tt)(hx:Γ.ev a=some (.agg #[.int .i64 x.n,.int .u8 x.e0.toNat,.int .u8 x.e1.toNat,.int .u8 x.e2.toNat,.int .u8 x.e3.toNat,.int .u8 x.e4.toNat,.int .u8 x.e5.toNat]))(hy:Γ.ev b=some (.agg #[.int .i64 y.n,.int .u8 y.e0.toNat,.int .u8 y.e1.toNat,.int .u8 y.e2.toNat,.int .u8 y.e3.toNat,.int .u8 y.e4.toNat,.int .u8 y.e5.toNat])):Sti prog β n Γ H F o (.bool (!bHm x y)):=λc w S f s k=>by
 have hq:prog.eqGuardType prog.depth 111=false:=k8
 have hg:(eqGuard .neq 111 a b (.agg #[.int .i64 x.n,.int .u8 x.e0.toNat,.int .u8 x.e1.toNat,.int .u8 x.e2.toNat,.int .u8 x.e3.toNat,.int .u8 x.e4.toNat,.int .u8 x.e5.toNat]) (.agg #[.int .i64 y.n,.int .u8 y.e0.toNat,.int .u8 y.e1.toNat,.int .u8 y.e2.toNat,.int .u8 y.e3.toNat,.int .u8 y.e4.toNat,.int .u8 y.e5.toNat])).run prog w= .ok () w:=by
  unfold eqGuard;have hp:(program:Sem Program).run prog w= .ok prog w:=rfl;simp[hp,hq]
 unfold execOp;simp only[ho,f.ev hx,f.ev hy];rw[Sem.run_bind,Sem.run_bind,hg,Result.andThen_ok,run_neq_mono];rfl
theorem mono_eq{x y:Mono}:bHm x y=true↔x=y:=Mono.eqB_iff x y
theorem mono_t{x y:Mono}(h:(!bHm x y)=true):x≠y:=λe=>by
 rw[mono_eq.2 e]at h;cases h
theorem mono_f{x y:Mono}(h:(!bHm x y)=false):x=y:=mono_eq.1 aa7
def polsL (l:List PolV):List (List Mono):=l.map (·.list)
theorem cC(l:List PolV):(polsL l).length=l.length:=List.length_map _
theorem dD{l:List PolV}{i:Nat}{p:PolV}(h:l[i]?=some p):(polsL l)[i]?=some p.list:=by
 unfold polsL;rw[List.getElem?_map,h];rfl
def OpV.c (o:OpV):OpC:=⟨o.how,o.k,o.n,o.p.list,o.fn⟩
def opsL (l:List OpV):List OpC:=l.map OpV.c
def jD.c (b:jD):gQ:=⟨polsL b.sides.list,b.input⟩
def fW.c (s:fW):cP:=⟨s.how,s.buf,s.at_.list,polsL s.loops.list,s.fn,opsL s.ops.list⟩
def bAn (l:List fW):List cP:=l.map fW.c
def bufsL (l:List jD):List gQ:=l.map jD.c
def gF.c (c:gF):dE:=⟨c.vars,bufsL c.bufs.list,bAn c.steps.list,c.outs.list⟩
theorem fV(l:List OpV):(opsL l).length=l.length:=List.length_map _
theorem fG(l:List fW):(bAn l).length=l.length:=List.length_map _
theorem bY(l:List jD):(bufsL l).length=l.length:=List.length_map _
theorem gR{l:List OpV}{i:Nat}{x:OpV}(h:l[i]?=some x):(opsL l)[i]?=some x.c:=by
 unfold opsL;rw[List.getElem?_map,h];rfl
theorem dJ{l:List fW}{i:Nat}{x:fW}(h:l[i]?=some x):(bAn l)[i]?=some x.c:=by
 unfold bAn;rw[List.getElem?_map,h];rfl
theorem bT{l:List jD}{i:Nat}{x:jD}(h:l[i]?=some x):(bufsL l)[i]?=some x.c:=by
 unfold bufsL;rw[List.getElem?_map,h];rfl
theorem eqF_of{α:Type} [DecidableEq α]{a b:List α}(h:a≠b):Value.bool false= .bool (decide (a=b)):=by simp[h]
theorem eqT_of{α:Type} [DecidableEq α]{a b:List α}(h:a=b):Value.bool true= .bool (decide (a=b)):=by simp[h]
theorem nil_pol{α:Type}{E:Flat α}{F:List bC}:Has F (E.sl (.slice none 0 0) []):=λ_ _ _=>⟨none,0,rfl,λk x hk=>by simp at hk⟩
def bCk (l:List PolV):bC:=bC.each l fC
theorem pQ{F:List bC}{p:PolV}(h:Has F (fC p)):Has F (mM.sl (.slice p.addr p.list.length p.cap) p.list):=h.left
theorem bJs{F:List bC}{p:PolV}(h:Has F (fC p)):Has F (bC.pure (p.list.length<=8796093022208)):=h.right
theorem gG{F:List bC}{p:PolV}(h:Has F (fC p)):Has F (bC.pure (p.list.length<=140737488355328)):=λS w k=>Nat.le_trans (bJs h S w k) m7
theorem polF_nil: ∀{F:List bC},Has F (fC ⟨none,0,[]⟩):=Has.and nil_pol (e9 m7)
def bGq {α:Type}(b:Nat)(l:Sl α):bC:=bC.pure (l.list.length<=l.cap/\l.list.length*b<=140737488355328)
def oL (l:Sl PolV):bC:=((iD.sl (.slice l.addr l.list.length l.cap) l.list).and (bCk l.list)).and (bGq 24 l)
def opF (x:OpV):bC:=fC x.p
def bNp (l:Sl OpV):bC:=((opE.sl (.slice l.addr l.list.length l.cap) l.list).and (bC.each l.list opF)).and (bGq 56 l)
def mG (x:fW):bC:=(fC x.at_).and ((oL x.loops).and (bNp x.ops))
def bDt (l:Sl fW):bC:=((sQ.sl (.slice l.addr l.list.length l.cap) l.list).and (bC.each l.list mG)).and (bGq 96 l)
def bufF (x:jD):bC:=oL x.sides
def bufsF (l:Sl jD):bC:=((vE.sl (.slice l.addr l.list.length l.cap) l.list).and (bC.each l.list bufF)).and (bGq 32 l)
def bGb (l:Sl Int):bC:=(cF.sl (.slice l.addr l.list.length l.cap) l.list).and (bGq 8 l)
def nM (c:gF):bC:=(bufsF c.bufs).and ((bDt c.steps).and (bGb c.outs))
section
variable {F : List bC} {c : gF} {s : fW} {l : Sl PolV} {ol : Sl OpV} {bl : Sl jD} {xl : Sl fW} {il : Sl Int}
theorem iS(h:Has F (nM c)):Has F (bufsF c.bufs):=h.left
theorem kD(h:Has F (nM c)):Has F (bDt c.steps):=h.right.left
theorem bHl(h:Has F (nM c)):Has F (bGb c.outs):=h.right.right
theorem bHg(h:Has F (mG s)):Has F (fC s.at_):=h.left
theorem qX(h:Has F (mG s)):Has F (oL s.loops):=h.right.left
theorem lX(h:Has F (mG s)):Has F (bNp s.ops):=h.right.right
theorem qR(h:Has F (oL l)):Has F (iD.sl (.slice l.addr l.list.length l.cap) l.list):=h.left.left
theorem qO(h:Has F (oL l)):Has F (bCk l.list):=h.left.right
theorem uP(h:Has F (oL l)):Has F (bGq 24 l):=h.right
theorem bKs(h:Has F (bNp ol)):Has F (opE.sl (.slice ol.addr ol.list.length ol.cap) ol.list):=h.left.left
theorem opsF_e(h:Has F (bNp ol)):Has F (bC.each ol.list opF):=h.left.right
theorem opsF_c(h:Has F (bNp ol)):Has F (bGq 56 ol):=h.right
theorem sE(h:Has F (bDt xl)):Has F (sQ.sl (.slice xl.addr xl.list.length xl.cap) xl.list):=h.left.left
theorem rI(h:Has F (bDt xl)):Has F (bC.each xl.list mG):=h.left.right
theorem stepsF_c(h:Has F (bDt xl)):Has F (bGq 96 xl):=h.right
theorem mO(h:Has F (bufsF bl)):Has F (vE.sl (.slice bl.addr bl.list.length bl.cap) bl.list):=h.left.left
theorem yI(h:Has F (bufsF bl)):Has F (bC.each bl.list bufF):=h.left.right
theorem xN(h:Has F (bGb il)):Has F (cF.sl (.slice il.addr il.list.length il.cap) il.list):=h.left
end
end
end Go.Proofs.YtnfiadlonjediaaGreatDoor
