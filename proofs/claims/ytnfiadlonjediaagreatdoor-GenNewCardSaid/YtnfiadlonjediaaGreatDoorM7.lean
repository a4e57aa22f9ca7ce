/- Texts of one proof, one behind the other: MixS, Dns, Grows, PolyK0, TysK, CoreP, LifeP, FuseP, FuseQ, Cut, CorF. -/
import Derived.Test.YtnfiadlonjediaaGreatDoorM6
import Derived.Test.YtnfiadlonjediaaGreatDoorM4
import Derived.Test.YtnfiadlonjediaaGreatDoorM2
import Derived.Laws.Slices
namespace Go.Proofs.YtnfiadlonjediaaGreatDoor
section
open Go.RowKit Go.Proofs.Tryz
set_option maxRecDepth 100000
section
variable {P : Program} {ops : Array Oper} {md : Region.Mode} {C : World → Prop} {R : Array Bool → Act → World → Prop}
def wV (P:Program)(ops:Array Oper)(K:Act→World→Prop):List Nat→Act→World→Prop
 | [],a,w=>K a w
 | l::r,a,w=>fOp P ops l (wV P ops K r) a w
def qJ (P:Program)(ops:Array Oper)(C:World→Prop)(Q:Exit→Act→World→Prop)(ls:List Nat):List (Bool×Nat)→Act→World→Prop
 | [],a,w=>wV P ops (Q .normal) ls a w
 | (true,k)::r,a,w=> ∃o v,ops[k]?=some o∧Fl P ops C o v a∧qJ P ops C Q ls r (a.put o.dst v) w
 | (false,k)::r,a,w=>fOp P ops k (fun a w=>C w∧qJ P ops C Q ls r a w) a w
end
section
variable {P : Program} {β : cX} {n : Nat} {Γ : Env} {H : List bC} {F : List bD} {Q : Exit → Act → World → Prop} {Hk : List bC} {F0 : List bD} {ops : Array Oper} {ls : List Nat}
theorem ats_sti{r:List (Bool×Nat)}{o:Oper}{k d:Nat}{v:Value}(hk:ops[k]?=some o)(hw:want ops Γ o=some true)(hd:o.dst=some d)(hn:Nat.blt d n=true)(h:Sti P β n Γ Hk F0 o v)
  (K:At β n ((d,v)::Γ) H F (qJ P ops (StF β Hk F0) Q ls r)):At β n Γ H F (qJ P ops (StF β Hk F0) Q ls ((true,k)::r)):=fun a w S f s hF=>by
 refine⟨o,v,hk,.inl ⟨f.want hw,fun w' ⟨S',s',k'⟩=>h a w' S' f s' k'⟩,?_⟩;rw [hd];exact K _ _ S (f.put l8 v) s hF
theorem ats_op{r:List (Bool×Nat)}{o:Oper}{k:Nat}{C:World→Prop}(hk:ops[k]?=some o)(h:At β n Γ H F (wpList P ops (Nm fun a w=>C w∧qJ P ops C Q ls r a w) [o])):At β n Γ H F (qJ P ops C Q ls ((false,k)::r)):=fun a w S f s hF o' ho'=>by
 have:o'=o:=Option.some.inj (ho'.symm.trans hk);subst this;exact h a w S f s hF
theorem ats_go{r:List (Bool×Nat)}(hH:Sel H Hk)(hF:bA F F0)(h:At β n Γ H F (qJ P ops (StF β Hk F0) Q ls r)):At β n Γ H F (wpList P ops (Nm fun a w=>StF β Hk F0 w∧qJ P ops (StF β Hk F0) Q ls r a w) []):=fun a w S f s k=>
 ⟨rfl,StF.sel hH hF ⟨S,s,k⟩,h a w S f s k⟩
theorem ats_tail{C:World→Prop}(h:At β n Γ H F (wV P ops (Q .normal) ls)):At β n Γ H F (qJ P ops C Q ls []):=h
theorem ats_last{K:Act→World→Prop}{o:Oper}{l:Nat}(hk:ops[l]?=some o)(h:At β n Γ H F (wpList P ops (Nm (wV P ops K ls)) [o])):At β n Γ H F (wV P ops K (l::ls)):=fun a w S f s hF o' ho'=>by
 have:o'=o:=Option.some.inj (ho'.symm.trans hk);subst this;exact h a w S f s hF
theorem ats_nil{K:Act→World→Prop}(h:At β n Γ H F K):At β n Γ H F (wV P ops K []):=h
end
section
variable {P : Program} {β : cX} {n : Nat} {Γ : Env} {H : List bC} {F : List bD} {Q : Exit → Act → World → Prop} {K : Act → World → Prop} {T : Tab} {ops : Array Oper} {rest : List Oper} {o : Oper} {d : Nat} {v : Value}
theorem ldqO(hT:dH P T){t b q:Nat}{p:Operand}{cs:List Value}{i:TI}(ho:o.op= .load t p:=by exact rfl)(hp:Γ.ev p=some (.pointer (some ⟨b,q,none⟩)):=by exact rfl)(ht:T.get t=some i:=by exact rfl)(ha:aggD i.desc=false:=by exact rfl)(hk:nA β H F b q cs:=by first | exact bO bT.head | exact bO kT1 | exact bO kT2 | exact bO kT3 | exact bO kT4 | exact bO kT5 | exact bO kT6 | exact bO kT7 | exact bO kT8 | exact bO kT9 | exact bO bCb | exact bO bCh | exact bO bBs | exact bO bDg)(hv:cs[0]?=some v:=by exact rfl):Sti P β n Γ H F o v:=bK hT hk ho hp ht ha hv
theorem ldqN(hT:dH P T){t b q:Nat}{p:Operand}{cs l:List Value}{i:TI}(ho:o.op= .load t p:=by exact rfl)(hp:Γ.ev p=some (.pointer (some ⟨b,q,none⟩)):=by exact rfl)(ht:T.get t=some i:=by exact rfl)(ha:aggD i.desc=true:=by exact rfl)(hk:nA β H F b q cs:=by first | exact bO bT.head | exact bO kT1 | exact bO kT2 | exact bO kT3 | exact bO kT4 | exact bO kT5 | exact bO kT6 | exact bO kT7 | exact bO kT8 | exact bO kT9 | exact bO bCb | exact bO bCh | exact bO bBs | exact bO bDg)(hv:cut cs 0 i.size=some l:=by exact rfl):Sti P β n Γ H F o (.agg l.toArray):=qD hT hk ho hp ht ha hv
theorem stoq(hT:dH P T){t t' b off:Nat}{p x:Operand}{vs cs cs':List Value}{i:TI}{H':List bC}(k:At β n Γ (.obj b (.cells cs'.toArray t')::H') F (wpList P ops Q rest))(ho:o.op= .store t p x:=by exact rfl)(hp:Γ.ev p=some (.pointer (some ⟨b,off,none⟩)):=by exact rfl)(hx:Γ.ev x=some v:=by exact rfl)(hH:bT H (.obj b (.cells cs.toArray t')) H':=by first | exact bT.head | exact kT1 | exact kT2 | exact kT3 | exact kT4 | exact kT5 | exact kT6 | exact kT7 | exact kT8 | exact kT9 | exact bCb | exact bCh | exact bBs | exact bDg)(ht:T.get t=some i:=by exact rfl)(hc:v.cells=vs.toArray:=by exact rfl)(hs:Nat.beq vs.length i.size=true:=by exact rfl)(h1:vs.all (·.oneCell')=true:=by exact rfl)(hput:qV cs off vs=some cs':=by exact rfl)(hw:want ops Γ o=some true:=by exact rfl)(hd:o.dst=none:=by exact rfl):At β n Γ H F (wpList P ops Q (o::rest)):=at_store hT hw ho hd hp hx hH ht hc hs h1 hput k
theorem gdC{c:Code}(h:At β n Γ H F (c.wp P Q)):At β n Γ H F (c.wp P Q):=h
theorem gdW{l:List Oper}(h:At β n Γ H F (wpList P ops Q l)):At β n Γ H F (wpList P ops Q l):=h
theorem gdN(h:At β n Γ H F (wpList P ops Q [])):At β n Γ H F (wpList P ops Q []):=h
theorem gdT{e:Exit}(h:At β n Γ H F (Exit.then K Q e)):At β n Γ H F (Exit.then K Q e):=h
theorem gdB{i:Nat}{e:Exit}(h:At β n Γ H F (Exit.inBlock i Q e)):At β n Γ H F (Exit.inBlock i Q e):=h
theorem gdS{e:Exit}(h:At β n Γ H F (Exit.noGoto Q e)):At β n Γ H F (Exit.noGoto Q e):=h
theorem gdM{C:World→Prop}{r:List (Bool×Nat)}(h:At β n Γ H F (mU P ops C Q r)):At β n Γ H F (mU P ops C Q r):=h
theorem gdL{C:World→Prop}{r:List (Bool×Nat)}{l:Nat}(h:At β n Γ H F (kR P ops C Q l r)):At β n Γ H F (kR P ops C Q l r):=h
theorem gdX{C:World→Prop}{r:Tr}(h:At β n Γ H F (iJ P ops C Q r)):At β n Γ H F (iJ P ops C Q r):=h
theorem gdY{C:World→Prop}{ls:List Nat}{r:List (Bool×Nat)}(h:At β n Γ H F (qJ P ops C Q ls r)):At β n Γ H F (qJ P ops C Q ls r):=h
theorem one{R G:Prop}(k:R)(h:R→G:=by
  intro k_
  first
  | ((with_reducible refine gdC ?_);first | with_reducible exact fI k_ | with_reducible exact lD k_ | with_reducible exact uL k_ | with_reducible exact rV k_ | with_reducible exact vK k_ | with_reducible exact at_exit k_ | with_reducible exact at_scope k_ | with_reducible exact at_label k_ | exact lY rfl rfl k_ | exact at_false rfl rfl k_)
  | ((with_reducible refine gdW ?_);first | ((with_reducible refine gdN ?_);first | ((with_reducible refine zI ?_ ?_ k_);(repeat (first | exact Sel.nil | refine Sel.cons bT.head ?_ | refine Sel.cons kT1 ?_ | refine Sel.cons kT2 ?_ | refine Sel.cons kT3 ?_ | refine Sel.cons kT4 ?_ | refine Sel.cons kT5 ?_ | refine Sel.cons kT6 ?_ | refine Sel.cons kT7 ?_ | refine Sel.cons kT8 ?_ | refine Sel.cons kT9 ?_ | refine Sel.cons bCb ?_ | refine Sel.cons bCh ?_ | refine Sel.cons bBs ?_ | refine Sel.cons bDg ?_));(first | exact trivial | exact bA.drop 0 | exact bA.drop 1 | exact bA.drop 2 | exact bA.drop 3 | exact bA.drop 4 | exact bA.drop 5 | exact bA.drop 6 | exact bA.drop 7 | exact bA.drop 8 | exact bA.drop 9 | exact bA.drop 10 | exact bA.drop 11 | exact bA.drop 12 | exact bA.drop 13 | exact bA.drop 14 | exact bA.drop 15 | exact bA.drop 16 | exact bA.drop 17 | exact bA.drop 18 | exact bA.drop 19 | exact bA.drop 20 | exact bA.drop 21 | exact bA.drop 22 | exact bA.drop 23 | exact bA.drop 24 | exact bA.drop 25 | exact bA.drop 26 | exact bA.drop 27 | exact bA.drop 28 | exact bA.drop 29 | exact bA.drop 30 | exact bA.drop 31 | exact bA.drop 32 | exact bA.drop 33 | exact bA.drop 34 | exact bA.drop 35 | exact bA.drop 36 | exact bA.drop 37 | exact bA.drop 38 | exact bA.drop 39 | exact bA.drop 40 | exact bA.drop 41 | exact bA.drop 42 | exact bA.drop 43 | exact bA.drop 44 | exact bA.drop 45 | exact bA.drop 46 | exact bA.drop 47 | exact bA.drop 48 | exact bA.drop 49 | exact bA.drop 50 | exact bA.drop 51 | exact bA.drop 52 | exact bA.drop 53 | exact bA.drop 54 | exact bA.drop 55 | exact bA.drop 56 | exact bA.drop 57 | exact bA.drop 58 | exact bA.drop 59 | exact bA.drop 60 | exact bA.drop 61 | exact bA.drop 62 | exact bA.drop 63 | exact bA.drop 64 | exact bA.drop 65 | exact bA.drop 66 | exact bA.drop 67 | exact bA.drop 68 | exact bA.drop 69)) | ((with_reducible refine atl_go ?_ ?_ k_);(repeat (first | exact Sel.nil | refine Sel.cons bT.head ?_ | refine Sel.cons kT1 ?_ | refine Sel.cons kT2 ?_ | refine Sel.cons kT3 ?_ | refine Sel.cons kT4 ?_ | refine Sel.cons kT5 ?_ | refine Sel.cons kT6 ?_ | refine Sel.cons kT7 ?_ | refine Sel.cons kT8 ?_ | refine Sel.cons kT9 ?_ | refine Sel.cons bCb ?_ | refine Sel.cons bCh ?_ | refine Sel.cons bBs ?_ | refine Sel.cons bDg ?_));(first | exact trivial | exact bA.drop 0 | exact bA.drop 1 | exact bA.drop 2 | exact bA.drop 3 | exact bA.drop 4 | exact bA.drop 5 | exact bA.drop 6 | exact bA.drop 7 | exact bA.drop 8 | exact bA.drop 9 | exact bA.drop 10 | exact bA.drop 11 | exact bA.drop 12 | exact bA.drop 13 | exact bA.drop 14 | exact bA.drop 15 | exact bA.drop 16 | exact bA.drop 17 | exact bA.drop 18 | exact bA.drop 19 | exact bA.drop 20 | exact bA.drop 21 | exact bA.drop 22 | exact bA.drop 23 | exact bA.drop 24 | exact bA.drop 25 | exact bA.drop 26 | exact bA.drop 27 | exact bA.drop 28 | exact bA.drop 29 | exact bA.drop 30 | exact bA.drop 31 | exact bA.drop 32 | exact bA.drop 33 | exact bA.drop 34 | exact bA.drop 35 | exact bA.drop 36 | exact bA.drop 37 | exact bA.drop 38 | exact bA.drop 39 | exact bA.drop 40 | exact bA.drop 41 | exact bA.drop 42 | exact bA.drop 43 | exact bA.drop 44 | exact bA.drop 45 | exact bA.drop 46 | exact bA.drop 47 | exact bA.drop 48 | exact bA.drop 49 | exact bA.drop 50 | exact bA.drop 51 | exact bA.drop 52 | exact bA.drop 53 | exact bA.drop 54 | exact bA.drop 55 | exact bA.drop 56 | exact bA.drop 57 | exact bA.drop 58 | exact bA.drop 59 | exact bA.drop 60 | exact bA.drop 61 | exact bA.drop 62 | exact bA.drop 63 | exact bA.drop 64 | exact bA.drop 65 | exact bA.drop 66 | exact bA.drop 67 | exact bA.drop 68 | exact bA.drop 69)) | ((with_reducible refine att_go ?_ ?_ k_);(repeat (first | exact Sel.nil | refine Sel.cons bT.head ?_ | refine Sel.cons kT1 ?_ | refine Sel.cons kT2 ?_ | refine Sel.cons kT3 ?_ | refine Sel.cons kT4 ?_ | refine Sel.cons kT5 ?_ | refine Sel.cons kT6 ?_ | refine Sel.cons kT7 ?_ | refine Sel.cons kT8 ?_ | refine Sel.cons kT9 ?_ | refine Sel.cons bCb ?_ | refine Sel.cons bCh ?_ | refine Sel.cons bBs ?_ | refine Sel.cons bDg ?_));(first | exact trivial | exact bA.drop 0 | exact bA.drop 1 | exact bA.drop 2 | exact bA.drop 3 | exact bA.drop 4 | exact bA.drop 5 | exact bA.drop 6 | exact bA.drop 7 | exact bA.drop 8 | exact bA.drop 9 | exact bA.drop 10 | exact bA.drop 11 | exact bA.drop 12 | exact bA.drop 13 | exact bA.drop 14 | exact bA.drop 15 | exact bA.drop 16 | exact bA.drop 17 | exact bA.drop 18 | exact bA.drop 19 | exact bA.drop 20 | exact bA.drop 21 | exact bA.drop 22 | exact bA.drop 23 | exact bA.drop 24 | exact bA.drop 25 | exact bA.drop 26 | exact bA.drop 27 | exact bA.drop 28 | exact bA.drop 29 | exact bA.drop 30 | exact bA.drop 31 | exact bA.drop 32 | exact bA.drop 33 | exact bA.drop 34 | exact bA.drop 35 | exact bA.drop 36 | exact bA.drop 37 | exact bA.drop 38 | exact bA.drop 39 | exact bA.drop 40 | exact bA.drop 41 | exact bA.drop 42 | exact bA.drop 43 | exact bA.drop 44 | exact bA.drop 45 | exact bA.drop 46 | exact bA.drop 47 | exact bA.drop 48 | exact bA.drop 49 | exact bA.drop 50 | exact bA.drop 51 | exact bA.drop 52 | exact bA.drop 53 | exact bA.drop 54 | exact bA.drop 55 | exact bA.drop 56 | exact bA.drop 57 | exact bA.drop 58 | exact bA.drop 59 | exact bA.drop 60 | exact bA.drop 61 | exact bA.drop 62 | exact bA.drop 63 | exact bA.drop 64 | exact bA.drop 65 | exact bA.drop 66 | exact bA.drop 67 | exact bA.drop 68 | exact bA.drop 69)) | ((with_reducible refine ats_go ?_ ?_ k_);(repeat (first | exact Sel.nil | refine Sel.cons bT.head ?_ | refine Sel.cons kT1 ?_ | refine Sel.cons kT2 ?_ | refine Sel.cons kT3 ?_ | refine Sel.cons kT4 ?_ | refine Sel.cons kT5 ?_ | refine Sel.cons kT6 ?_ | refine Sel.cons kT7 ?_ | refine Sel.cons kT8 ?_ | refine Sel.cons kT9 ?_ | refine Sel.cons bCb ?_ | refine Sel.cons bCh ?_ | refine Sel.cons bBs ?_ | refine Sel.cons bDg ?_));(first | exact trivial | exact bA.drop 0 | exact bA.drop 1 | exact bA.drop 2 | exact bA.drop 3 | exact bA.drop 4 | exact bA.drop 5 | exact bA.drop 6 | exact bA.drop 7 | exact bA.drop 8 | exact bA.drop 9 | exact bA.drop 10 | exact bA.drop 11 | exact bA.drop 12 | exact bA.drop 13 | exact bA.drop 14 | exact bA.drop 15 | exact bA.drop 16 | exact bA.drop 17 | exact bA.drop 18 | exact bA.drop 19 | exact bA.drop 20 | exact bA.drop 21 | exact bA.drop 22 | exact bA.drop 23 | exact bA.drop 24 | exact bA.drop 25 | exact bA.drop 26 | exact bA.drop 27 | exact bA.drop 28 | exact bA.drop 29 | exact bA.drop 30 | exact bA.drop 31 | exact bA.drop 32 | exact bA.drop 33 | exact bA.drop 34 | exact bA.drop 35 | exact bA.drop 36 | exact bA.drop 37 | exact bA.drop 38 | exact bA.drop 39 | exact bA.drop 40 | exact bA.drop 41 | exact bA.drop 42 | exact bA.drop 43 | exact bA.drop 44 | exact bA.drop 45 | exact bA.drop 46 | exact bA.drop 47 | exact bA.drop 48 | exact bA.drop 49 | exact bA.drop 50 | exact bA.drop 51 | exact bA.drop 52 | exact bA.drop 53 | exact bA.drop 54 | exact bA.drop 55 | exact bA.drop 56 | exact bA.drop 57 | exact bA.drop 58 | exact bA.drop 59 | exact bA.drop 60 | exact bA.drop 61 | exact bA.drop 62 | exact bA.drop 63 | exact bA.drop 64 | exact bA.drop 65 | exact bA.drop 66 | exact bA.drop 67 | exact bA.drop 68 | exact bA.drop 69)) | with_reducible exact atl_end k_ | with_reducible exact iK k_) | exact gN rfl rfl rfl (dU hT rfl) k_ | exact bKp rfl rfl rfl k_ | exact gN rfl rfl rfl (ldqO hT) k_ | exact gN rfl rfl rfl (ldqN hT) k_ | exact stoq hT k_)
  | ((with_reducible refine gdT ?_);first | with_reducible exact kS k_ | with_reducible exact tZ k_ | with_reducible exact bHl k_)
  | ((with_reducible refine gdB ?_);first | with_reducible exact n_block k_ | with_reducible exact bAh k_ | with_reducible exact x_block k_ | ((with_reducible refine x_pass ?_ k_);exact rfl))
  | ((with_reducible refine gdS ?_);first | with_reducible exact n_scope k_ | with_reducible exact r_scope k_ | with_reducible exact x_scope k_)
  | ((with_reducible refine gdM ?_);first | with_reducible exact atm_nil k_ | exact bBk rfl rfl rfl rfl (dU hT rfl) k_ | exact atm_skipped rfl rfl rfl rfl k_ | with_reducible exact atm_op rfl k_ | exact bBk rfl rfl rfl rfl (ldqO hT) k_ | exact bBk rfl rfl rfl rfl (ldqN hT) k_)
  | ((with_reducible refine gdL ?_);first | exact bFq rfl rfl rfl rfl (dU hT rfl) k_ | with_reducible exact atl_op rfl k_ | with_reducible exact atl_last rfl k_ | exact bFq rfl rfl rfl rfl (ldqO hT) k_ | exact bFq rfl rfl rfl rfl (ldqN hT) k_)
  | ((with_reducible refine gdX ?_);first | with_reducible exact att_nil k_ | exact bFy rfl rfl rfl rfl (dU hT rfl) k_ | exact att_skipped rfl rfl rfl rfl k_ | with_reducible exact att_op rfl k_ | exact bFy rfl rfl rfl rfl (ldqO hT) k_ | exact bFy rfl rfl rfl rfl (ldqN hT) k_)
  | ((with_reducible refine gdY ?_);first | with_reducible exact ats_tail k_ | exact ats_sti rfl rfl rfl rfl (dU hT rfl) k_ | with_reducible exact ats_op rfl k_ | exact ats_sti rfl rfl rfl rfl (ldqO hT) k_ | exact ats_sti rfl rfl rfl rfl (ldqN hT) k_)
  | with_reducible exact ats_last rfl k_
  | with_reducible exact ats_nil k_):G:=h k
theorem g2{R G:Prop}(k:R)(h:R→G:=by intro k_;(iterate 2 refine one ?_);exact k_):G:=h k
theorem g3{R G:Prop}(k:R)(h:R→G:=by intro k_;(iterate 3 refine one ?_);exact k_):G:=h k
theorem g4{R G:Prop}(k:R)(h:R→G:=by intro k_;(iterate 4 refine one ?_);exact k_):G:=h k
theorem g5{R G:Prop}(k:R)(h:R→G:=by intro k_;(iterate 5 refine one ?_);exact k_):G:=h k
theorem g6{R G:Prop}(k:R)(h:R→G:=by intro k_;(iterate 6 refine one ?_);exact k_):G:=h k
theorem g7{R G:Prop}(k:R)(h:R→G:=by intro k_;(iterate 7 refine one ?_);exact k_):G:=h k
theorem g8{R G:Prop}(k:R)(h:R→G:=by intro k_;(iterate 8 refine one ?_);exact k_):G:=h k
theorem g9{R G:Prop}(k:R)(h:R→G:=by intro k_;(iterate 9 refine one ?_);exact k_):G:=h k
theorem g10{R G:Prop}(k:R)(h:R→G:=by intro k_;(iterate 10 refine one ?_);exact k_):G:=h k
theorem g11{R G:Prop}(k:R)(h:R→G:=by intro k_;(iterate 11 refine one ?_);exact k_):G:=h k
theorem g12{R G:Prop}(k:R)(h:R→G:=by intro k_;(iterate 12 refine one ?_);exact k_):G:=h k
theorem g13{R G:Prop}(k:R)(h:R→G:=by intro k_;(iterate 13 refine one ?_);exact k_):G:=h k
theorem g14{R G:Prop}(k:R)(h:R→G:=by intro k_;(iterate 14 refine one ?_);exact k_):G:=h k
theorem g15{R G:Prop}(k:R)(h:R→G:=by intro k_;(iterate 15 refine one ?_);exact k_):G:=h k
theorem g16{R G:Prop}(k:R)(h:R→G:=by intro k_;(iterate 16 refine one ?_);exact k_):G:=h k
theorem g17{R G:Prop}(k:R)(h:R→G:=by intro k_;(iterate 17 refine one ?_);exact k_):G:=h k
theorem g18{R G:Prop}(k:R)(h:R→G:=by intro k_;(iterate 18 refine one ?_);exact k_):G:=h k
theorem g19{R G:Prop}(k:R)(h:R→G:=by intro k_;(iterate 19 refine one ?_);exact k_):G:=h k
theorem g20{R G:Prop}(k:R)(h:R→G:=by intro k_;(iterate 20 refine one ?_);exact k_):G:=h k
theorem g21{R G:Prop}(k:R)(h:R→G:=by intro k_;(iterate 21 refine one ?_);exact k_):G:=h k
theorem g23{R G:Prop}(k:R)(h:R→G:=by intro k_;(iterate 23 refine one ?_);exact k_):G:=h k
theorem g24{R G:Prop}(k:R)(h:R→G:=by intro k_;(iterate 24 refine one ?_);exact k_):G:=h k
theorem g25{R G:Prop}(k:R)(h:R→G:=by intro k_;(iterate 25 refine one ?_);exact k_):G:=h k
theorem g26{R G:Prop}(k:R)(h:R→G:=by intro k_;(iterate 26 refine one ?_);exact k_):G:=h k
theorem g27{R G:Prop}(k:R)(h:R→G:=by intro k_;(iterate 27 refine one ?_);exact k_):G:=h k
theorem g30{R G:Prop}(k:R)(h:R→G:=by intro k_;(iterate 30 refine one ?_);exact k_):G:=h k
theorem g32{R G:Prop}(k:R)(h:R→G:=by intro k_;(iterate 32 refine one ?_);exact k_):G:=h k
theorem g33{R G:Prop}(k:R)(h:R→G:=by intro k_;(iterate 33 refine one ?_);exact k_):G:=h k
theorem g35{R G:Prop}(k:R)(h:R→G:=by intro k_;(iterate 35 refine one ?_);exact k_):G:=h k
theorem g37{R G:Prop}(k:R)(h:R→G:=by intro k_;(iterate 37 refine one ?_);exact k_):G:=h k
theorem g38{R G:Prop}(k:R)(h:R→G:=by intro k_;(iterate 38 refine one ?_);exact k_):G:=h k
theorem g40{R G:Prop}(k:R)(h:R→G:=by intro k_;(iterate 40 refine one ?_);exact k_):G:=h k
end
section
variable {P : Program} {β : cX} {n : Nat} {Γ : Env} {H : List bC} {F : List bD} {Q : Exit → Act → World → Prop} {K : Act → World → Prop} {T : Tab} {c : Operand} {x y : Code} {d : Nat}
theorem fJ{a b:Int}(ht:a<b→At β n Γ H F (x.wp P Q))(hf:b≤a→At β n Γ H F (y.wp P Q))(hc:Γ.ev c=some (.bool (decide (a<b))):=by exact rfl):At β n Γ H F ((Code.cond c x y).wp P Q):=cL hc (fun h=>ht (of_decide_eq_true h)) (fun h=>hf (Int.not_lt.1 (of_decide_eq_false h)))
theorem xK{a b:Int}(ht:a<b→At β n ((d,.bool true)::Γ) H F K)(hf:b≤a→At β n ((d,.bool false)::Γ) H F K):At β n ((d,.bool (decide (a<b)))::Γ) H F K:=cY (fun h=>ht (of_decide_eq_true h)) (fun h=>hf (Int.not_lt.1 (of_decide_eq_false h)))
theorem c_le{a b:Int}(ht:a≤b→At β n Γ H F (x.wp P Q))(hf:b<a→At β n Γ H F (y.wp P Q))(hc:Γ.ev c=some (.bool (decide (a≤b))):=by exact rfl):At β n Γ H F ((Code.cond c x y).wp P Q):=cL hc (fun h=>ht (of_decide_eq_true h)) (fun h=>hf (Int.not_le.1 (of_decide_eq_false h)))
theorem k_le{a b:Int}(ht:a≤b→At β n ((d,.bool true)::Γ) H F K)(hf:b<a→At β n ((d,.bool false)::Γ) H F K):At β n ((d,.bool (decide (a≤b)))::Γ) H F K:=cY (fun h=>ht (of_decide_eq_true h)) (fun h=>hf (Int.not_le.1 (of_decide_eq_false h)))
theorem jX{α:Type} [BEq α] [LawfulBEq α]{a b:α}(ht:a=b→At β n Γ H F (x.wp P Q))(hf:a≠b→At β n Γ H F (y.wp P Q))(hc:Γ.ev c=some (.bool (a==b)):=by exact rfl):At β n Γ H F ((Code.cond c x y).wp P Q):=cL hc (fun h=>ht (eq_of_beq h)) (fun h=>hf (beq_eq_false_iff_ne.1 h))
theorem k_eq{α:Type} [BEq α] [LawfulBEq α]{a b:α}(ht:a=b→At β n ((d,.bool true)::Γ) H F K)(hf:a≠b→At β n ((d,.bool false)::Γ) H F K):At β n ((d,.bool (a==b))::Γ) H F K:=cY (fun h=>ht (eq_of_beq h)) (fun h=>hf (beq_eq_false_iff_ne.1 h))
theorem c_ne{α:Type} [BEq α] [LawfulBEq α]{a b:α}(ht:a≠b→At β n Γ H F (x.wp P Q))(hf:a=b→At β n Γ H F (y.wp P Q))(hc:Γ.ev c=some (.bool (a !=b)):=by exact rfl):At β n Γ H F ((Code.cond c x y).wp P Q):=cL hc (fun h=>ht (bne_iff_ne.1 h)) (fun h=>hf (bne_eq_false_iff_eq.1 h))
theorem k_ne{α:Type} [BEq α] [LawfulBEq α]{a b:α}(ht:a≠b→At β n ((d,.bool true)::Γ) H F K)(hf:a=b→At β n ((d,.bool false)::Γ) H F K):At β n ((d,.bool (a !=b))::Γ) H F K:=cY (fun h=>ht (bne_iff_ne.1 h)) (fun h=>hf (bne_eq_false_iff_eq.1 h))
theorem bKt{b:Bool}(ht:b=false→At β n Γ H F (x.wp P Q))(hf:b=true→At β n Γ H F (y.wp P Q))(hc:Γ.ev c=some (.bool (!b)):=by exact rfl):At β n Γ H F ((Code.cond c x y).wp P Q):=cL hc (fun h=>ht (bDs h)) (fun h=>hf (bEq h))
theorem k_nt{b:Bool}(ht:b=false→At β n ((d,.bool true)::Γ) H F K)(hf:b=true→At β n ((d,.bool false)::Γ) H F K):At β n ((d,.bool (!b))::Γ) H F K:=cY (fun h=>ht (bDs h)) (fun h=>hf (bEq h))
theorem xJ{b:Bool}(ht:b=true→At β n Γ H F (x.wp P Q))(hf:b=false→At β n Γ H F (y.wp P Q))(hc:Γ.ev c=some (.bool b):=by exact rfl):At β n Γ H F ((Code.cond c x y).wp P Q):=cL hc ht hf
theorem inc{k:IntKind}{z:Int}(m:Nat)(h:At β n ((d,.int k m)::Γ) H F K)(hz:z=(m:Int):=by exact yB k7 k7):At β n ((d,.int k z)::Γ) H F K:=bM hz h
theorem gx{α:Type}(l:List α)(i:Nat)(h:i<l.length:=by omega): ∃x,l[i]?=some x:=⟨_,List.getElem?_eq_getElem h⟩
theorem rvcq(hT:dH P T){t ty b q:Nat}{i:TI}{cs l:List Value}(h:Γ.get t=some (.pointer (some ⟨b,q,none⟩)):=by exact rfl)(ht:T.get ty=some i:=by exact rfl)(ha:aggD i.desc=true:=by exact rfl)(hk:nA β H F b q cs:=by first | exact bO bT.head | exact bO kT1 | exact bO kT2 | exact bO kT3 | exact bO kT4 | exact bO kT5 | exact bO kT6 | exact bO kT7 | exact bO kT8 | exact bO kT9 | exact bO bCb | exact bO bCh | exact bO bBs | exact bO bDg)(hv:cut cs 0 i.size=some l:=by exact rfl):RV P β n Γ H F (.cell t ty) (.agg l.toArray):=rv_cell hT hk h ht ha hv
theorem rvc1q(hT:dH P T){t ty b q:Nat}{i:TI}{cs:List Value}{v:Value}(h:Γ.get t=some (.pointer (some ⟨b,q,none⟩)):=by exact rfl)(ht:T.get ty=some i:=by exact rfl)(ha:aggD i.desc=false:=by exact rfl)(hk:nA β H F b q cs:=by first | exact bO bT.head | exact bO kT1 | exact bO kT2 | exact bO kT3 | exact bO kT4 | exact bO kT5 | exact bO kT6 | exact bO kT7 | exact bO kT8 | exact bO kT9 | exact bO bCb | exact bO bCh | exact bO bBs | exact bO bDg)(hv:cs[0]?=some v:=by exact rfl):RV P β n Γ H F (.cell t ty) v:=rv_cell1 hT hk h ht ha hv
theorem rvt{r:ResultVar}{v:Value}(h:RV P β n Γ H F r v:=by first | exact rv_tmp rfl | exact rvcq hT | exact rvc1q hT):RV P β n Γ H F r v:=h
theorem selt{R:List bC}(h:Sel H R:=by repeat (first | exact Sel.nil | refine Sel.cons bT.head ?_ | refine Sel.cons kT1 ?_ | refine Sel.cons kT2 ?_ | refine Sel.cons kT3 ?_ | refine Sel.cons kT4 ?_ | refine Sel.cons kT5 ?_ | refine Sel.cons kT6 ?_ | refine Sel.cons kT7 ?_ | refine Sel.cons kT8 ?_ | refine Sel.cons kT9 ?_ | refine Sel.cons bCb ?_ | refine Sel.cons bCh ?_ | refine Sel.cons bBs ?_ | refine Sel.cons bDg ?_)):Sel H R:=h
theorem subt{Δ:Env}(h:Γ.Sub Δ:=by repeat (first | exact trivial | refine And.intro rfl ?_)):Γ.Sub Δ:=h
theorem hdt{G:List bD}(h:bA F G:=by first | exact trivial | exact bA.drop 0 | exact bA.drop 1 | exact bA.drop 2 | exact bA.drop 3 | exact bA.drop 4 | exact bA.drop 5 | exact bA.drop 6 | exact bA.drop 7 | exact bA.drop 8 | exact bA.drop 9 | exact bA.drop 10 | exact bA.drop 11 | exact bA.drop 12 | exact bA.drop 13 | exact bA.drop 14 | exact bA.drop 15 | exact bA.drop 16 | exact bA.drop 17 | exact bA.drop 18 | exact bA.drop 19 | exact bA.drop 20 | exact bA.drop 21 | exact bA.drop 22 | exact bA.drop 23 | exact bA.drop 24 | exact bA.drop 25 | exact bA.drop 26 | exact bA.drop 27 | exact bA.drop 28 | exact bA.drop 29 | exact bA.drop 30 | exact bA.drop 31 | exact bA.drop 32 | exact bA.drop 33 | exact bA.drop 34 | exact bA.drop 35 | exact bA.drop 36 | exact bA.drop 37 | exact bA.drop 38 | exact bA.drop 39 | exact bA.drop 40 | exact bA.drop 41 | exact bA.drop 42 | exact bA.drop 43 | exact bA.drop 44 | exact bA.drop 45 | exact bA.drop 46 | exact bA.drop 47 | exact bA.drop 48 | exact bA.drop 49 | exact bA.drop 50 | exact bA.drop 51 | exact bA.drop 52 | exact bA.drop 53 | exact bA.drop 54 | exact bA.drop 55 | exact bA.drop 56 | exact bA.drop 57 | exact bA.drop 58 | exact bA.drop 59 | exact bA.drop 60 | exact bA.drop 61 | exact bA.drop 62 | exact bA.drop 63 | exact bA.drop 64 | exact bA.drop 65 | exact bA.drop 66 | exact bA.drop 67 | exact bA.drop 68 | exact bA.drop 69):bA F G:=h
section
variable {ι : Type} {fn : Func} {val : ι → Value} {Hout : ι → List bC} {post : ι → List bD} {r1 r2 r3 : ResultVar} {v1 v2 v3 : Value}
theorem rs1(x:ι)(hF:bA F (post x))(hr:fn.results= #[r1]:=by exact rfl)(h1:RV P β n Γ H F r1 v1:=by exact rvt)(hH:Sel H (Hout x):=by exact selt)(he:v1=val x:=by exact rfl):At β n Γ H F (bodyPost P fn (bKy β val Hout post) .ret):=nC x hr h1 hH hF he
theorem rs2(x:ι)(hF:bA F (post x))(hr:fn.results= #[r1,r2]:=by exact rfl)(h1:RV P β n Γ H F r1 v1:=by exact rvt)(h2:RV P β n Γ H F r2 v2:=by exact rvt)(hH:Sel H (Hout x):=by exact selt)(he: .tuple #[v1,v2]=val x:=by exact rfl):At β n Γ H F (bodyPost P fn (bKy β val Hout post) .ret):=pV x hr h1 h2 hH hF he
theorem rs3(x:ι)(hF:bA F (post x))(hr:fn.results= #[r1,r2,r3]:=by exact rfl)(h1:RV P β n Γ H F r1 v1:=by exact rvt)(h2:RV P β n Γ H F r2 v2:=by exact rvt)(h3:RV P β n Γ H F r3 v3:=by exact rvt)(hH:Sel H (Hout x):=by exact selt)(he: .tuple #[v1,v2,v3]=val x:=by exact rfl):At β n Γ H F (bodyPost P fn (bKy β val Hout post) .ret):=at_res3 x hr h1 h2 h3 hH hF he
theorem bk2{G:ι→Env}{Δ:Env}{HH:ι→List bC}{Hr:List bC}{FF:ι→List bD}{F0:List bD}{μ:ι→Nat}{m:Nat}(x:ι)(hF:bA F (FF x))(hμ:μ x<m:=by first | omega | (dsimp only;omega))(hG:Γ.Sub (G x):=by exact subt)(hΔ:Γ.Sub Δ:=by exact subt)(hH:Sel H (HH x++Hr):=by exact selt)(hF0:bA F F0:=by exact hdt):At β n Γ H F (Back β n (fun x=>G x++Δ) (fun x=>HH x++Hr) (fun x=>FF x++F0) μ m):=pF x hμ hG hΔ hH hF hF0
end
end
section
variable {P : Program} {β : cX} {n : Nat} {Γ : Env} {H : List bC} {F : List bD} {T : Tab} {α : Type} {E : Flat α}
theorem Ho{g:bD}(h:g∈F:=by repeat (first | exact List.Mem.head _ | refine List.Mem.tail _ ?_)):Has F g:=Has.of h
theorem rdt{A:Option Addr}{xs:List α}(h:dF β H F E A xs:=by first | exact bV Ho | exact cC n3 | exact cV n3 | exact fM n3 rfl):dF β H F E A xs:=h
theorem ixs{o:Oper}{t e l c:Nat}{x i:Operand}{kk:IntKind}{z:Int}{sz:Nat}{de:TD}{A:Option Addr}{xs:List α}(k:Nat)(hT:dH P T:=by exact hT)(ho:o.op= .indexAddr t x i:=by exact rfl)(hx:Γ.ev x=some (.slice A l c):=by exact rfl)(hi:Γ.ev i=some (.int kk z):=by exact rfl)(hr:dF β H F E A xs:=by exact rdt)(ht:T.get t=some ⟨.slice e,sz⟩:=by exact rfl)(he:T.get e=some ⟨de,E.size⟩:=by exact rfl)(hl:l=xs.length:=by exact rfl)(hz:z=(k:Nat):=by exact rfl)(hk:k<xs.length:=by omega):Sti P β n Γ H F o (.pointer (some ⟨bLd A,bKu A+k*E.size,none⟩)):=bI hT hr ho hx hi ht he hl hz hk
theorem iX{o:Oper}{t:Nat}{p:Operand}{i:TI}{A:Option Addr}{xs:List α}{k:Nat}{x:α}{v:Value}(hx:xs[k]?=some x)(fo:Nat)(hT:dH P T:=by exact hT)(ho:o.op= .load t p:=by exact rfl)(hr:dF β H F E A xs:=by exact rdt)(hp:Γ.ev p=some (.pointer (some ⟨bLd A,bKu A+k*E.size+fo,none⟩)):=by exact rfl)(ht:T.get t=some i:=by exact rfl)(ha:aggD i.desc=false:=by exact rfl)(hv:((E.cells x).drop fo)[0]?=some v:=by exact rfl):Sti P β n Γ H F o (v):=bK hT (hr.knows hx fo) ho hp ht ha hv
theorem lL{o:Oper}{t:Nat}{p:Operand}{i:TI}{A:Option Addr}{xs:List α}{k:Nat}{x:α}{l:List Value}(hx:xs[k]?=some x)(fo:Nat)(hT:dH P T:=by exact hT)(ho:o.op= .load t p:=by exact rfl)(hr:dF β H F E A xs:=by exact rdt)(hp:Γ.ev p=some (.pointer (some ⟨bLd A,bKu A+k*E.size+fo,none⟩)):=by exact rfl)(ht:T.get t=some i:=by exact rfl)(ha:aggD i.desc=true:=by exact rfl)(hv:cut ((E.cells x).drop fo) 0 i.size=some l:=by exact rfl):Sti P β n Γ H F o (.agg l.toArray):=qD hT (hr.knows hx fo) ho hp ht ha hv
theorem u8{α:Type}{a0 a1 a2 a3 a4 a5 a6 a7 x:α}{l:List α}(h:x∈l):x∈a0::a1::a2::a3::a4::a5::a6::a7::l:= .tail _ (.tail _ (.tail _ (.tail _ (.tail _ (.tail _ (.tail _ (.tail _ h)))))))
end
set_option maxRecDepth 100000
def bCn (m:Mono):Bool:=decide (m.n<0)
def lM (p:List Mono):Bool:=cK p&& !(p.any bCn)
set_option maxHeartbeats 400000 in
theorem neg_any(m:Mono)(w:World):Calls prog 211 #[.agg #[.int .i64 m.n,.int .u8 m.e0.toNat,.int .u8 m.e1.toNat,.int .u8 m.e2.toNat,.int .u8 m.e3.toNat,.int .u8 m.e4.toNat,.int .u8 m.e5.toNat]] w fun e w'=>e= .returned (.bool (bCn m))∧Below w.heap.size w w':=by
 go_enter func211,ntmps211
 go_wp2
 go_ret
 exact⟨rfl,by go_grown⟩
def IdxPost(w:World)(b:Bool)(e:Ending)(w':World):Prop:= ∃i:Int,e= .returned (.int .i64 i)∧decide (0≤i)=b∧Below w.heap.size w w'
set_option maxHeartbeats 1000000 in
theorem index_any(A:Option Addr)(c:Nat)(xs:List Mono)(w:World)(ha:kF w A xs)(hx:xs.length≤140737488355328):
  Calls prog 247 #[.slice A xs.length c,.func (.func 211) #[] #[]] w (IdxPost w (xs.any bCn)):=by
 have Ha:=Lib.hid ha;clear ha
 go_enter func247,ntmps247
 go_wp2
 go_loopw [8] (fun i wr=> ∃k:Nat,k≤xs.length∧i= .int .i64 k∧Hid (xs.any bCn=(xs.drop k).any bCn)∧Below w.heap.size w wr) (fun i _=>xs.length-(intOf i).toNat)
 case atStart=>exact⟨0,Nat.zero_le _,rfl,rfl,Below.refl _ _⟩
 case round=>
  obtain⟨k,hk,rfl,hs,hbl⟩:=hrel
  by_cases hlt:k<xs.length
  ·obtain⟨m,hm,dm⟩:=nU hlt;obtain⟨b,o,rfl,hB,c0,c1,c2,c3,c4,c5,c6⟩:=Ha.out.below hbl k m hm;have HS:=Lib.hid (show xs.any bCn=(bCn m || (xs.drop (k+1)).any bCn) by rw [hs.out,dm,List.any_cons]);have HBL:=Lib.hid hbl;clear hs hm dm hB hbl
   go_wp2_with (go_at_call 211;refine(neg_any m _).mono ?_;rintro e w1 ⟨rfl,hb1⟩)
   ·have hng:bCn m=true:=by assumption
    go_ret
    exact⟨k,rfl,by rw [HS.out,hng,Bool.true_or];simp,HBL.out.trans (hb1.mono HBL.out.size)⟩
   ·have hng:bCn m=false:=by assumption
    go_roundw
    case rel=>exact⟨k+1,k7,by go_num,(by show _=_;rw [HS.out,hng,Bool.false_or]),HBL.out.trans (hb1.mono HBL.out.size)⟩
    case measure=>simp [intOf];omega
  ·have HS:=Lib.hid (show xs.any bCn=false by rw [hs.out,List.drop_of_length_le k7];rfl);clear hs
   go_wp2
   go_ret
   exact⟨-1,rfl,by rw [HS.out];rfl,hbl⟩
set_option maxHeartbeats 400000 in
theorem contains_any(A:Option Addr)(c:Nat)(xs:List Mono)(w:World)(ha:kF w A xs)(hx:xs.length≤140737488355328):
  Calls prog 210 #[.slice A xs.length c,.func (.func 211) #[] #[]] w fun e w'=>e= .returned (.bool (xs.any bCn))∧Below w.heap.size w w':=by
 have Ha:=Lib.hid ha;clear ha
 go_enter func210,ntmps210
 go_wp2_with fail
 refine(index_any A c xs _ Ha.out hx).mono ?_;rintro e w1 ⟨i,rfl,hi,hb1⟩;have Hi:=Lib.hid hi;clear hi
 go_wp2
 go_ret
 exact⟨pA Hi.out,hb1⟩
set_option maxHeartbeats 400000 in
theorem grows_any(A:Option Addr)(c:Nat)(xs:List Mono)(w:World)(ha:kF w A xs)(hx:xs.length≤140737488355328):
  Calls prog 149 #[.slice A xs.length c] w fun e w'=>e= .returned (.bool (lM xs))∧Below w.heap.size w w':=by
 have Ha:=Lib.hid ha;clear ha;cases hr:cK xs
 ·go_enter func149,ntmps149
  go_wp2_with fail
  refine(fN A c xs _ Ha.out hx).mono ?_;rintro e w1 ⟨rfl,hb1⟩
  go_wp2
  go_ret
  exact⟨pA (by unfold lM;rw [hr];rfl),hb1⟩
 ·go_enter func149,ntmps149
  go_wp2_with fail
  refine(fN A c xs _ Ha.out hx).mono ?_;rintro e w1 ⟨rfl,hb1⟩;have H1:=Lib.hid hb1;clear hb1
  go_wp2_with fail
  refine(contains_any A c xs _ (Ha.out.below H1.out) hx).mono ?_;rintro e w2 ⟨rfl,hb2⟩;have H2:=Lib.hid (H1.out.trans (hb2.mono H1.out.size));clear hb2
  go_wp2
  go_ret
  exact⟨pA (by unfold lM;rw [hr,Bool.true_and]),H2.out⟩
end
section
open Go.RowKit Go.Proofs.Tryz
def mK:Flat Mono where
 size:=7
 cells:=Mono.cells
 len:=fun _=>rfl
 one:=fun x u hu=>by
  simp [Mono.cells] at hu
  rcases hu with rfl | rfl | rfl | rfl | rfl | rfl | rfl<;>rfl
 pos:=m7
theorem monos_of{S:iU}{w:World}{A:Option Addr}{k c:Nat}{l:List Mono}(hS: ∀b,S b→b<w.heap.size)(h:(mK.sl (.slice A k c) l).p S w):kF w A l∧k=l.length:=by
 obtain⟨A',cap,e,h⟩:=h;injection e with e1 e2 e3
 subst e1 e2;refine⟨fun k m hk=>?_,rfl⟩;obtain⟨b,o,cs,e1,e2,e3,e4⟩:=h k m hk;have e4:cs=m.cells:=e4;subst e4;exact⟨b,o,e1,hS b e2,e3 0 _ rfl,e3 1 _ rfl,e3 2 _ rfl,e3 3 _ rfl,e3 4 _ rfl,e3 5 _ rfl,e3 6 _ rfl⟩
theorem sl_of{w:World}{A:Option Addr}{c:Nat}{l:List Mono}(h:kF w A l):(mK.sl (.slice A l.length c) l).p (fun b=>b<w.heap.size) w:=by
 refine⟨A,c,rfl,fun k m hk=>?_⟩;obtain⟨b,o,e,hb,h0,h1,h2,h3,h4,h5,h6⟩:=h k m hk;refine⟨b,o,m.cells,e,hb,fun j u hj=>?_,rfl⟩;have hlt:=(List.getElem?_eq_some_iff.1 hj).1;rw [Mono.cells_length] at hlt
 match j,hlt with
 | 0,_=>simp [Mono.cells] at hj;subst hj;exact h0
 | 1,_=>simp [Mono.cells] at hj;subst hj;exact h1
 | 2,_=>simp [Mono.cells] at hj;subst hj;exact h2
 | 3,_=>simp [Mono.cells] at hj;subst hj;exact h3
 | 4,_=>simp [Mono.cells] at hj;subst hj;exact h4
 | 5,_=>simp [Mono.cells] at hj;subst hj;exact h5
 | 6,_=>simp [Mono.cells] at hj;subst hj;exact h6
abbrev PolV:=Sl Mono
def dO (p:PolV):bD:=(mK.sl (.slice p.addr p.list.length p.cap) p.list).and (bD.pure (p.list.length≤8796093022208))
section
variable (p : PolV)
theorem mF{p:PolV}{S:iU}{w:World}(hS: ∀b,S b→b<w.heap.size)(h:(dO p).p S w):kF w p.addr p.list:=(monos_of hS h.1).1
theorem bGy(hp:p.list.length≤140737488355328):cA prog 149 [.slice p.addr p.list.length p.cap] [] [dO p] (fun _:Unit=> .bool (lM p.list)) (fun _=>[]) (fun _=>[]):=
 tN fun _ w hS h=>grows_any _ _ _ w (mF hS (h _ (.head _))) hp
theorem polR_spec(hp:p.list.length≤140737488355328):cA prog 43 [.slice p.addr p.list.length p.cap] [] [dO p] (fun _:Unit=> .bool (cK p.list)) (fun _=>[]) (fun _=>[]):=
 tN fun _ w hS h=>fN _ _ _ w (mF hS (h _ (.head _))) hp
end
end
section
open Go.RowKit Go.ChangeShapes Go.WideShapes Go.Proofs.Tryz
def iP:Flat PolV:=slE Mono
def jR:Flat Bool where
 size:=1
 cells:=fun x=>[.bool x]
 len:=fun _=>rfl
 one:=fun x u hu=>by simp at hu;subst hu;rfl
 pos:=m7
structure OpV where
 how:Int
 k:Int
 n:Int
 p:PolV
 fn:Int
 deriving Inhabited
def opE:Flat OpV where
 size:=5
 cells:=fun x=>[.int .i64 x.how,.int .i64 x.k,.int .i64 x.n,.slice x.p.addr x.p.list.length x.p.cap,.int .u8 x.fn]
 len:=fun _=>rfl
 one:=fun x u hu=>by
  simp at hu
  rcases hu with rfl | rfl | rfl | rfl | rfl<;>rfl
 pos:=m7
structure kG where
 sides:(Sl PolV)
 input:Int
 deriving Inhabited
def yS:Flat kG where
 size:=2
 cells:=fun x=>[.slice x.sides.addr x.sides.list.length x.sides.cap,.int .i64 x.input]
 len:=fun _=>rfl
 one:=fun x u hu=>by
  simp at hu
  rcases hu with rfl | rfl<;>rfl
 pos:=m7
structure gC where
 how:Int
 buf:Int
 at_:PolV
 loops:(Sl PolV)
 fn:Int
 ops:(Sl OpV)
 deriving Inhabited
def sX:Flat gC where
 size:=6
 cells:=fun x=>[.int .i64 x.how,.int .i64 x.buf,.slice x.at_.addr x.at_.list.length x.at_.cap,.slice x.loops.addr x.loops.list.length x.loops.cap,.int .u8 x.fn,.slice x.ops.addr x.ops.list.length x.ops.cap]
 len:=fun _=>rfl
 one:=fun x u hu=>by
  simp at hu
  rcases hu with rfl | rfl | rfl | rfl | rfl | rfl<;>rfl
 pos:=m7
structure iD where
 vars:Int
 bufs:(Sl kG)
 steps:(Sl gC)
 outs:(Sl Int)
 deriving Inhabited
def coreE:Flat iD where
 size:=4
 cells:=fun x=>[.int .i64 x.vars,.slice x.bufs.addr x.bufs.list.length x.bufs.cap,.slice x.steps.addr x.steps.list.length x.steps.cap,.slice x.outs.addr x.outs.list.length x.outs.cap]
 len:=fun _=>rfl
 one:=fun x u hu=>by
  simp at hu
  rcases hu with rfl | rfl | rfl | rfl<;>rfl
 pos:=m7
structure dE where
 from_:Int
 to_:Int
 deriving Inhabited
def kC:Flat dE where
 size:=2
 cells:=fun x=>[.int .i64 x.from_,.int .i64 x.to_]
 len:=fun _=>rfl
 one:=fun x u hu=>by
  simp at hu
  rcases hu with rfl | rfl<;>rfl
 pos:=m7
def coreT:Tab:=[(3,⟨.int .i64,1⟩),(2,⟨.int .i64,1⟩),(5,⟨.int .u8,1⟩),(4,⟨.bool,1⟩),(77,⟨.int .u8,1⟩),(32,⟨.int .i64,1⟩),(43,⟨.slice 111,1⟩),(42,⟨.slice 43,1⟩),(172,⟨.struct [(3,0),(3,1),(2,2),(43,3),(77,4)],5⟩),(78,⟨.slice 172,1⟩),(95,⟨.struct [(42,0),(3,1)],2⟩),(22,⟨.slice 95,1⟩),(80,⟨.struct [(3,0),(3,1),(43,2),(42,3),(77,4),(78,5)],6⟩),(23,⟨.slice 80,1⟩),(24,⟨.slice 3,1⟩),(99,⟨.slice 4,1⟩),(26,⟨.struct [(3,0),(22,1),(23,2),(24,3)],4⟩),(114,⟨.struct [(3,0),(3,1)],2⟩),(97,⟨.slice 114,1⟩),(201,⟨.struct [(3,0),(3,1),(3,2),(99,3)],4⟩),(198,⟨.array 64 4,64⟩),(111,⟨.struct [(2,0),(109,1)],7⟩),(109,⟨.array 6 5,6⟩),(290,⟨.slice 5,1⟩),(224,⟨.int .u64,1⟩),(199,⟨.other,1⟩),(274,⟨.other,1⟩),(126,⟨.other,1⟩)]
theorem dS:dH prog coreT:=uU.ok
 ⟨⟨by rw [underlying3];rfl,k8⟩,
  ⟨by rw [underlying2];rfl,k8⟩,
  ⟨by rw [underlying5];rfl,k8⟩,
  ⟨by rw [underlying4];rfl,k8⟩,
  ⟨by rw [underlying77];rfl,k8⟩,
  ⟨by rw [underlying32];rfl,k8⟩,
  ⟨by rw [underlying43];rfl,k8⟩,
  ⟨by rw [underlying42];rfl,k8⟩,
  ⟨by rw [underlying172];rfl,k8⟩,
  ⟨by rw [underlying78];rfl,k8⟩,
  ⟨by rw [underlying95];rfl,k8⟩,
  ⟨by rw [underlying22];rfl,k8⟩,
  ⟨by rw [underlying80];rfl,k8⟩,
  ⟨by rw [underlying23];rfl,k8⟩,
  ⟨by rw [underlying24];rfl,k8⟩,
  ⟨by rw [underlying99];rfl,k8⟩,
  ⟨by rw [underlying26];rfl,k8⟩,
  ⟨by rw [underlying114];rfl,k8⟩,
  ⟨by rw [underlying97];rfl,k8⟩,
  ⟨by rw [underlying201];rfl,k8⟩,
  ⟨by rw [underlying198];rfl,k8⟩,
  ⟨by rw [underlying111];rfl,k8⟩,
  ⟨by rw [underlying109];rfl,k8⟩,
  ⟨by rw [underlying290];rfl,k8⟩,
  ⟨by rw [underlying224];rfl,k8⟩,
  ⟨by rw [underlying199];rfl,k8⟩,
  ⟨by rw [underlying274];rfl,k8⟩,
  ⟨by rw [underlying126];rfl,k8⟩,e8⟩
end
section
open Go.RowKit Go.Proofs.Tryz
instance : DecidableEq Mono := fun a b => decidable_of_iff (a.eqB b = true) (Mono.eqB_iff a b)
structure OpC where
 how:Int
 k:Int
 n:Int
 p:List Mono
 fn:Int
 deriving DecidableEq
structure iO where
 sides:List (List Mono)
 input:Int
 deriving DecidableEq
structure cJ where
 how:Int
 buf:Int
 at_:List Mono
 loops:List (List Mono)
 fn:Int
 ops:List OpC
 deriving DecidableEq
structure dB where
 vars:Int
 bufs:List iO
 steps:List cJ
 outs:List Int
 deriving DecidableEq
structure LifeC where
 from_:Int
 to_:Int
 deriving DecidableEq
def jY (f:Int)(two:Bool):Bool:=if f<1∨17<f then false else if f=16 then !two else two || decide (f≤7)
def cH (h:Int):Int:=if h=1∨h=2∨h=3 then 0 else if h=4∨h=5 then 1 else if h=6 then 2 else-1
def mB:List OpC→Int→Int→Int
 | [],most,now=>if now=1 then most else-1
 | o::r,most,now=>if cH o.how<0∨now<cH o.how then-1 else mB r (max most (now+(1-cH o.how))) (now+(1-cH o.how))
def nR (l:List OpC):Int:=mB l 0 0
def clampK(vars:Int):Nat:=(min (max vars 0) 6).toNat
def ofB (p:List Mono)(vars:Int):Bool:=p.all (fun m=>(m.E.drop (clampK vars)).all (fun e=>e==0))&&cK p
def lK (l:List (List Mono))(vars:Int):Bool:=l.all (fun p=>ofB p vars&&lM p)&&decide (l.length≤4)
def opB (vars loops buf:Int)(made:List Bool)(o:OpC):Bool:=
 if o.how=1 then o.k==0&&(o.p.isEmpty&&o.fn==0)
 else if o.how=2 then ofB o.p vars&&(o.n==0&&(o.k==0&&o.fn==0))
 else if o.how=3 then decide (0≤o.k∧o.k<loops)&&(o.n==0&&(o.p.isEmpty&&o.fn==0))
 else if o.how=4 then decide (0≤o.k∧o.k≠buf)&&(made.getD o.k.toNat false&&(o.n==0&&(o.p.isEmpty&&o.fn==0)))
 else if o.how=5∨o.how=6 then jY o.fn (o.how==6)&&(o.n==0&&(o.k==0&&o.p.isEmpty))
 else false
def lU (vars:Int)(made:List Bool)(x:cJ):Bool:=
 (ofB x.at_ vars&&lM x.at_)&&(lK x.loops vars&&(decide (x.ops.length≤256)&&(decide (0≤nR x.ops)&&
  ((if x.how=1 then x.fn==0 else if x.how=2∨x.how=3 then !x.loops.isEmpty&&jY x.fn true else false)&&x.ops.all (opB vars x.loops.length x.buf made)))))
def tJ (vars:Int):List iO→List Int→Bool
 | [],_=>true
 | b::r,seen=>lK b.sides vars&&(decide (-1≤b.input∧b.input<64)&&(!(seen.contains b.input)&&tJ vars r (if 0≤b.input then b.input::seen else seen)))
def kQ (vars:Int)(bufs:List iO):List cJ→List Bool→Bool
 | [],_=>true
 | x::r,made=>(decide (0≤x.buf)&&(match bufs[x.buf.toNat]? with
   | some b=>decide (b.input<0)
   | none=>false))&&(lU vars made x&&kQ vars bufs r (made.set x.buf.toNat true))
def vC (bufs:List iO):List Bool:=bufs.map fun b=>decide (0≤b.input)
def dM (c:dB):Bool:=
 decide (0≤c.vars∧c.vars≤6∧c.bufs.length≤1024∧c.steps.length≤1024∧c.outs.length≤64)&&(tJ c.vars c.bufs []&&(kQ c.vars c.bufs c.steps (vC c.bufs)&&c.outs.all fun k=>decide (0≤k∧k<c.bufs.length)))
def sV (l:List OpC):List Nat:=l.filterMap fun o=>if o.how=4 then some o.k.toNat else none
def gI (i:Int)(l:List LifeC)(k:Nat):List LifeC:=l.modify k fun x=>{x with to_:=i}
def xA (i:Int)(l:List LifeC)(k:Nat):List LifeC:=l.modify k fun x=>{x with from_:=i}
def jD (i:Int)(x:cJ)(s:List LifeC×List Bool):List LifeC×List Bool:=
 (gI i (if s.2.getD x.buf.toNat false=true then (sV x.ops).foldl (gI i) s.1 else xA i ((sV x.ops).foldl (gI i) s.1) x.buf.toNat) x.buf.toNat,s.2.set x.buf.toNat true)
def pH:Int→List cJ→List LifeC×List Bool→List LifeC×List Bool
 | _,[],s=>s
 | i,x::r,s=>pH (i+1) r (jD i x s)
def tS (outs:List Int):Nat→List iO→List LifeC
 | _,[]=>[]
 | k,b::r=>⟨if 0≤b.input∨outs.contains (k:Int)=true then-1 else 0,-1⟩::tS outs (k+1) r
def cR (c:dB):List LifeC:=(c.outs.map Int.toNat).foldl (gI c.steps.length) (pH 0 c.steps (tS c.outs 0 c.bufs,List.replicate c.bufs.length false)).1
section
variable {i j : Int} {l : List LifeC} {k b : Nat}
theorem bMn:(gI i l k).length=l.length:=List.length_modify ..
theorem setFrom_len:(xA i l k).length=l.length:=List.length_modify ..
theorem bNs:(gI i l k)[b]?=(l[b]?).map fun x=>if k=b then {x with to_:=i} else x:=by
 unfold gI;rw [List.getElem?_modify]
 by_cases h:k=b
 ·simp [h]
 ·simp [h]
theorem setFrom_get:(xA i l k)[b]?=(l[b]?).map fun x=>if k=b then {x with from_:=i} else x:=by
 unfold xA;rw [List.getElem?_modify]
 by_cases h:k=b
 ·simp [h]
 ·simp [h]
theorem oK: ∀(ks:List Nat) (l:List LifeC),(ks.foldl (gI i) l)[b]?=(l[b]?).map fun x=>if b∈ks then {x with to_:=i} else x
 | [],l=>by simp
 | k::ks,l=>by
  rw [List.foldl_cons,oK ks,bNs,Option.map_map]
  congr 1
  funext x
  by_cases h1:k=b
  ·subst h1
   by_cases h2:k∈ks<;>simp [h2]
  ·by_cases h2:b∈ks
   ·simp [h1,h2]
   ·have: ¬b=k:=fun e=>h1 e.symm;simp [h1,h2,this]
theorem uD: ∀(ks:List Nat) (l:List LifeC),(ks.foldl (gI i) l).length=l.length
 | [],_=>rfl
 | k::ks,l=>by rw [List.foldl_cons,uD ks,bMn]
end
theorem liveStep_get{i:Int}{x:cJ}{s:List LifeC×List Bool}{b:Nat}{y:LifeC}(hy:s.1[b]?=some y):(jD i x s).1[b]?=some ⟨if x.buf.toNat=b∧s.2.getD b false=false then i else y.from_,if x.buf.toNat=b∨b∈sV x.ops then i else y.to_⟩:=by
 unfold jD;simp only;rw [bNs]
 by_cases hm:s.2.getD x.buf.toNat false=true
 ·rw [if_pos hm,oK,hy];simp only [Option.map_some]
  congr 1
  by_cases h1:x.buf.toNat=b
  ·subst h1;simp only [true_and,true_or,if_true,hm,Bool.true_eq_false,if_false]
   by_cases h2:x.buf.toNat∈sV x.ops<;>simp [h2]
  ·by_cases h2:b∈sV x.ops<;>simp [h1,h2]
 ·rw [if_neg hm,setFrom_get,oK,hy];have hm:s.2.getD x.buf.toNat false=false:=by simpa using hm
  simp only [Option.map_some]
  congr 1
  by_cases h1:x.buf.toNat=b
  ·subst h1;simp only [true_and,true_or,if_true,hm]
  ·by_cases h2:b∈sV x.ops<;>simp [h1,h2]
theorem tM{i:Int}{x:cJ}{s:List LifeC×List Bool}:(jD i x s).1.length=s.1.length:=by
 unfold jD;simp only;rw [bMn];split
 ·rw [uD]
 ·rw [setFrom_len,uD]
theorem zD: ∀(outs:List Int) (k:Nat) (bufs:List iO),(tS outs k bufs).length=bufs.length
 | _,_,[]=>rfl
 | outs,k,b::r=>by rw [tS,List.length_cons,List.length_cons,zD]
def bOi (x:cJ)(b:Int):Bool:=x.ops.any (fun o=>o.how==4&&o.k==b) || x.buf==b
def jZ (b:Int):Int→List cJ→Int→Int
 | _,[],d=>d
 | i,x::r,d=>if x.buf=b then i else jZ b (i+1) r d
def uO (b:Int):Int→List cJ→Int→Int
 | _,[],d=>d
 | i,x::r,d=>uO b (i+1) r (if bOi x b=true then i else d)
def bCx (b:Int)(l:List cJ):Bool:=l.any fun x=>bOi x b
def lifeR (c:dB)(b:Nat)(u:iO):LifeC:=
 if (bCx b c.steps || (c.outs.contains (b:Int) || decide (0≤u.input)))=false then ⟨0,-1⟩
 else ⟨jZ b 0 c.steps (-1),if c.outs.contains (b:Int)=true then c.steps.length else uO b 0 c.steps (-1)⟩
def livesR(c:dB):List LifeC:=c.bufs.mapIdx (lifeR c)
def wholeS(x:cJ)(sides:List (List Mono)):Bool:=x.at_.isEmpty&&decide ((if x.how=2 then x.loops.dropLast else x.loops)=sides)
def yY (steps:List cJ)(b:Nat)(u:iO):Bool:=match steps.filter (fun x=>x.buf==(b:Int)) with
 | [x]=>wholeS x u.sides
 | _=>false
def lO (c:dB):List Bool:=c.bufs.mapIdx (yY c.steps)
section
variable {b i d : Int} {r : List cJ} {x : cJ}
theorem bAj: ∀{r:List cJ} {i d:Int},bCx b r=false→uO b i r d=d
 | [],_,_,_=>rfl
 | x::r,i,d,h=>by
  unfold bCx at h;rw [List.any_cons,Bool.or_eq_false_iff] at h;rw [uO,if_neg (by rw [h.1];simp)];exact bAj h.2
theorem uR: ∀{r:List cJ} {i d:Int},(∀x∈r,x.buf≠b)→jZ b i r d=d
 | [],_,_,_=>rfl
 | x::r,i,d,h=>by
  rw [jZ,if_neg (h x (List.mem_cons_self ..))];exact uR fun y hy=>h y (List.mem_cons_of_mem _ hy)
theorem bAz: ∀{r:List cJ} {i d d':Int},(∃x∈r,x.buf=b)→jZ b i r d=jZ b i r d'
 | [],_,_,_,h=>by obtain⟨x,hx,_⟩:=h;cases hx
 | x::r,i,d,d',h=>by
  rw [jZ,jZ]
  by_cases e:x.buf=b
  ·rw [if_pos e,if_pos e]
  ·rw [if_neg e,if_neg e];obtain⟨y,hy,e2⟩:=h
   rcases List.mem_cons.1 hy with rfl | hy
   ·exact absurd e2 e
   ·exact bAz ⟨y,hy,e2⟩
end
def NatStep(x:cJ):Prop:=0≤x.buf∧ ∀o∈x.ops,o.how=4→0≤o.k
theorem bHk{x:cJ}{b:Nat}(h:NatStep x):bOi x b=true↔x.buf.toNat=b∨b∈sV x.ops:=by
 unfold bOi;rw [Bool.or_eq_true,List.any_eq_true];constructor
 ·rintro(⟨o,ho,h1⟩ | h1)
  ·right;simp only [Bool.and_eq_true,beq_iff_eq] at h1;exact List.mem_filterMap.2 ⟨o,ho,by rw [if_pos h1.1,h1.2];rfl⟩
  ·left;rw [beq_iff_eq] at h1;omega
 ·rintro(h1 | h1)
  ·right;rw [beq_iff_eq];have:=h.1;omega
  ·left;obtain⟨o,ho,h2⟩:=List.mem_filterMap.1 h1;split at h2
   ·rename_i h4;have:=h.2 o ho h4;cases h2;refine⟨o,ho,?_⟩;simp only [Bool.and_eq_true,beq_iff_eq];exact⟨h4,k7⟩
   ·cases h2
theorem bEn: ∀{r:List cJ} {i:Int} {s:List LifeC×List Bool} {b:Nat} {y:LifeC},(∀x∈r,NatStep x)→s.1[b]?=some y→b<s.2.length→
  (pH i r s).1[b]?=some ⟨if s.2.getD b false=true then y.from_ else jZ b i r y.from_,uO b i r y.to_⟩
 | [],i,s,b,y,_,hy,_=>by
  rw [pH,hy,jZ,uO];simp
 | x::r,i,s,b,y,hn,hy,hb=>by
  have hx:=hn x (List.mem_cons_self ..);rw [pH,bEn (fun y hy=>hn y (List.mem_cons_of_mem _ hy)) (liveStep_get hy) (show b<(jD i x s).2.length by unfold jD;simpa using hb)]
  have hm:(jD i x s).2.getD b false=(decide (x.buf.toNat=b) || s.2.getD b false):=by
   show(s.2.set x.buf.toNat true).getD b false=_;rw [List.getD_eq_getElem?_getD,List.getElem?_set]
   by_cases e:x.buf.toNat=b
   ·rw [if_pos e,if_pos k7];simp [e]
   ·rw [if_neg e];simp [e,List.getD_eq_getElem?_getD]
  rw [hm,jZ,uO]
  have hbe:x.buf.toNat=b↔x.buf=(b:Int):=by
   have:=hx.1;omega
  congr 2
  ·by_cases e:x.buf.toNat=b
   ·have e2:=hbe.1 e
    cases hs:s.2.getD b false with
    | true=>simp [e]
    | false=>simp [e2]
   ·have e2: ¬x.buf=(b:Int):=fun h=>e (hbe.2 h)
    cases hs:s.2.getD b false with
    | true=>simp [e]
    | false=>simp [e2,e]
  ·by_cases e:bOi x b=true
   ·rw [if_pos e,if_pos ((bHk hx).1 e)]
   ·rw [if_neg e,if_neg (fun h=>e ((bHk hx).2 h))]
theorem wA: ∀{outs:List Int} {k:Nat} {bufs:List iO} {b:Nat},(tS outs k bufs)[b]?=(bufs[b]?).map fun u=>⟨if 0≤u.input∨outs.contains ((k+b:Nat):Int)=true then-1 else 0,-1⟩
 | _,_,[],_=>rfl
 | outs,k,u::r,0=>rfl
 | outs,k,u::r,b+1=>by
  have:=wA (outs:=outs) (k:=k+1) (bufs:=r) (b:=b);rw [tS,List.getElem?_cons_succ,List.getElem?_cons_succ,this,show k+1+b=k+(b+1) by omega]
theorem yZ{vars:Int}{bufs:List iO}: ∀{r:List cJ} {made:List Bool},kQ vars bufs r made=true→ ∀x∈r,NatStep x
 | [],_,_,x,hx=>by cases hx
 | y::r,made,h,x,hx=>by
  rw [kQ,Bool.and_eq_true,Bool.and_eq_true,Bool.and_eq_true] at h;obtain⟨⟨h1,_⟩,h2,h3⟩:=h
  rcases List.mem_cons.1 hx with rfl | hx
  ·refine⟨by simpa using h1,fun o ho h4=>?_⟩
   have hop:x.ops.all (opB vars x.loops.length x.buf made)=true:=by
    unfold lU at h2;simp only [Bool.and_eq_true] at h2;exact h2.2.2.2.2.2
   have:=List.all_eq_true.1 hop o ho;unfold opB at this;rw [if_neg k7,if_neg k7,if_neg k7,if_pos h4] at this;simp only [Bool.and_eq_true,decide_eq_true_eq] at this;exact this.1.1
  ·exact yZ h3 x hx
theorem bEd{vars:Int}{bufs:List iO}: ∀{r:List cJ} {made:List Bool},kQ vars bufs r made=true→ ∀x∈r,∀b∈sV x.ops,made.getD b false=true∨ ∃y∈r,y.buf.toNat=b
 | [],_,_,x,hx=>by cases hx
 | y::r,made,h,x,hx=>fun b hb=>by
  rw [kQ,Bool.and_eq_true,Bool.and_eq_true,Bool.and_eq_true] at h;obtain⟨⟨h1,_⟩,h2,h3⟩:=h
  rcases List.mem_cons.1 hx with rfl | hx
  ·left
   have hop:x.ops.all (opB vars x.loops.length x.buf made)=true:=by
    unfold lU at h2;simp only [Bool.and_eq_true] at h2;exact h2.2.2.2.2.2
   obtain⟨o,ho,hk2⟩:=List.mem_filterMap.1 hb;split at hk2
   ·rename_i h44;cases hk2;have:=List.all_eq_true.1 hop o ho;unfold opB at this;rw [if_neg k7,if_neg k7,if_neg k7,if_pos h44] at this;simp only [Bool.and_eq_true] at this;exact this.2.1
   ·cases hk2
  ·rcases bEd h3 x hx b hb with h4 | ⟨z,hz,e⟩
   ·rw [List.getD_eq_getElem?_getD,List.getElem?_set] at h4
    by_cases e:y.buf.toNat=b
    ·exact .inr ⟨y,List.mem_cons_self ..,e⟩
    ·rw [if_neg e] at h4;exact .inl (by rw [List.getD_eq_getElem?_getD];exact h4)
   ·exact .inr ⟨z,List.mem_cons_of_mem _ hz,e⟩
theorem gR{c:dB}(h:dM c=true):(0≤c.vars∧c.vars≤6∧c.bufs.length≤1024∧c.steps.length≤1024∧c.outs.length≤64)∧tJ c.vars c.bufs []=true∧kQ c.vars c.bufs c.steps (vC c.bufs)=true∧ ∀k∈c.outs,0≤k∧k<c.bufs.length:=by
 simp only [dM,Bool.and_eq_true,decide_eq_true_eq,List.all_eq_true] at h;exact h
theorem lives_eq{c:dB}(h:dM c=true):cR c=livesR c:=by
 obtain⟨h1,h2,h3,h4⟩:=gR h;have hn:=yZ h3;apply List.ext_getElem?;intro b;unfold cR livesR;rw [oK,List.getElem?_mapIdx]
 cases hu:c.bufs[b]? with
 | none=>
  have hb:c.bufs.length≤b:=List.getElem?_eq_none_iff.1 hu
  have hl:(pH 0 c.steps (tS c.outs 0 c.bufs,List.replicate c.bufs.length false)).1.length=c.bufs.length:=by
   have: ∀(r:List cJ) (i:Int) (s:List LifeC×List Bool),(pH i r s).1.length=s.1.length:=fun r=>by
    induction r with
    | nil=>intro i s;rfl
    | cons x r ih=>intro i s;rw [pH,ih,tM]
   rw [this,zD]
  rw [List.getElem?_eq_none k7];rfl
 | some u=>
  have hb:b<c.bufs.length:=(List.getElem?_eq_some_iff.1 hu).1
  have hy:(tS c.outs 0 c.bufs)[b]?=some ⟨if 0≤u.input∨c.outs.contains (b:Int)=true then-1 else 0,-1⟩:=by
   rw [wA,hu,Nat.zero_add];rfl
  have hm:(List.replicate c.bufs.length false).getD b false=false:=by
   rw [List.getD_eq_getElem?_getD,List.getElem?_replicate];split<;>rfl
  rw [bEn hn hy (by simpa using hb)];simp only [Option.map_some,hm,Bool.false_eq_true,if_false]
  have hout:b∈c.outs.map Int.toNat↔c.outs.contains (b:Int)=true:=by
   rw [List.mem_map,List.contains_iff_mem];constructor
   ·rintro⟨k,hk,e⟩;have:=(h4 k hk).1;have e:k=(b:Int):=k7
    rwa [←e]
   ·exact fun hk=>⟨_,hk,m8⟩
  unfold lifeR
  congr 1
  by_cases hmk: ∃x∈c.steps,x.buf=(b:Int)
  ·have hany:bCx b c.steps=true:=by
    obtain⟨x,hx,e⟩:=hmk;exact List.any_eq_true.2 ⟨x,hx,by unfold bOi;simp [e]⟩
   rw [hany,bAz hmk (d':= -1)];simp only [Bool.true_or,Bool.true_eq_false,if_false]
   by_cases ho:c.outs.contains (b:Int)=true
   ·rw [if_pos (hout.2 ho),if_pos ho]
   ·rw [if_neg (fun e=>ho (hout.1 e)),if_neg ho]
  ·have hno: ∀x∈c.steps,x.buf≠(b:Int):=fun x hx e=>hmk ⟨x,hx,e⟩;rw [uR hno,uR hno]
   by_cases hi:0≤u.input
   ·simp only [hi,true_or,if_true,decide_true,Bool.or_true,Bool.true_eq_false,if_false]
    by_cases ho:c.outs.contains (b:Int)=true
    ·rw [if_pos (hout.2 ho),if_pos ho]
    ·rw [if_neg (fun e=>ho (hout.1 e)),if_neg ho]
   ·by_cases ho:c.outs.contains (b:Int)=true
    ·rw [ho];simp only [or_true,if_true,Bool.true_or,Bool.or_true,Bool.true_eq_false,if_false];rw [if_pos (hout.2 ho)]
    ·have ho':c.outs.contains (b:Int)=false:=by simpa using ho
     have hna:bCx b c.steps=false:=by
      cases ha:bCx b c.steps with
      | false=>rfl
      | true=>
       exfalso
       obtain⟨x,hx,e⟩:=List.any_eq_true.1 ha
       rcases (bHk (hn x hx)).1 e with e | e
       ·exact hno x hx (by have:=(hn x hx).1;omega)
       ·rcases bEd h3 x hx b e with e | ⟨y,hy,e⟩
        ·unfold vC at e;rw [List.getD_eq_getElem?_getD,List.getElem?_map,hu] at e;simp at e;exact hi e
        ·exact hno y hy (by have:=(hn y hy).1;omega)
     rw [hna,ho',bAj hna];rw [if_neg (fun e=>ho (hout.1 e))];simp [hi]
def yA (l:List cJ)(b:Nat):Nat:=(l.filter fun x=>x.buf==(b:Int)).length
section
variable {l : List cJ} {x : cJ} {b : Nat} {u : iO}
theorem cntMk_snoc:yA (l++[x]) b=yA l b+if x.buf=(b:Int) then 1 else 0:=by
 unfold yA;rw [List.filter_append,List.length_append]
 by_cases e:x.buf=(b:Int)<;>simp [e]
theorem fullAt_other(e:x.buf≠(b:Int)):yY (l++[x]) b u=yY l b u:=by
 unfold yY;rw [List.filter_append];simp [e]
theorem fullAt_here(e:x.buf=(b:Int)):yY (l++[x]) b u=(decide (yA l b+1=1)&&wholeS x u.sides):=by
 unfold yY yA;rw [List.filter_append]
 cases h:l.filter (fun x=>x.buf==(b:Int)) with
 | nil=>simp [e]
 | cons y r=>simp [e]
end
section
variable {P : Program} {β : cX} {n : Nat} {Γ : Env} {H : List bC} {F : List bD} {Q : Exit → Act → World → Prop} {K : Act → World → Prop} {T : Tab} {α : Type} {E : Flat α}
theorem elem_of{t e:Nat}(hu:P.underlying t=some (.slice e)):P.elem t=e:=by simp [Program.elem,hu]
theorem run_cutTo(hT:dH P T){t e sz:Nat}{ei:TI}(ht:T.get t=some ⟨.slice e,sz⟩)(he:T.get e=some ei){A:Option Addr}{l c k:Nat}(hk:k≤c)(kk:IntKind)(w:World):(Instr.sliceAt t (.slice A l c) none (some (.int kk (k:Nat))) none).run P w= .ok (.slice A k c) w:=by
 obtain⟨d,hu,hd⟩:=hT.any ht;cases d<;>simp [TD.of] at hd
 subst hd;have hel:=elem_of hu;rw [run_sliceAt_slice w t _ _ _ _ r9,run_slice_h w t A l c r9 kk (k:Int) k7 k7,hel,hT.size he];simp only [Result.andThen_ok,sliced,Int.toNat_natCast,Nat.zero_mul,Nat.sub_zero]
 congr 2
 split
 ·rfl
 ·cases A<;>simp [Addr.add]
theorem run_cutFrom(hT:dH P T){t e sz:Nat}{ei:TI}(ht:T.get t=some ⟨.slice e,sz⟩)(he:T.get e=some ei){A:Option Addr}{l c k:Nat}(hk:k≤l)(kk:IntKind)(w:World):(Instr.sliceAt t (.slice A l c) (some (.int kk (k:Nat))) none none).run P w= .ok (.slice (cutA A k ei.size c) (l-k) (c-k)) w:=by
 obtain⟨d,hu,hd⟩:=hT.any ht;cases d<;>simp [TD.of] at hd
 subst hd;have hel:=elem_of hu;rw [run_sliceAt_slice w t _ _ _ _ r9,run_slice_l w t A l c r9 kk (k:Int) k7 k7,hel,hT.size he];simp only [Result.andThen_ok,sliced,Int.toNat_natCast,cutA]
theorem iY{b:Nat}{cs:List Value}{t:TypeId}{H':List bC}(hH:bT H (.obj b (.cells cs.toArray t)) H')(h:At β n Γ H' (bD.cells b 0 cs::F) K):At β n Γ H F K:=fun a w S f s k=>by
 have s2:=s.perm hH.perm;have hok:w.heap[b]?=some (.cells cs.toArray t):=s2.ok _ (List.mem_cons_self ..);have hsep:=List.pairwise_cons.1 s2.sep;have hown:=s2.own _ (List.mem_cons_self ..);have hmono:All F (fun x=>S x∨x=b) w:=All.mono (fun _ h=> .inl h) (fun _ _=>rfl) k;refine h a w (fun x=>S x∨x=b) f ⟨s2.kept,fun c hc=>s2.ok c (List.mem_cons_of_mem _ hc),fun c hc x hx=>?_,hsep.2,fun x hx=>?_⟩ (All.cons ?_ hmono)
 ·obtain⟨h1,h2,h3⟩:=s2.own c (List.mem_cons_of_mem _ hc) x hx;refine⟨h1,h2,fun h=>?_⟩
  rcases h with h | h
  ·exact h3 h
  ·subst h;exact hsep.1 c hc _ rfl hx
 ·rcases hx with hx | hx
  ·exact s2.zone x hx
  ·subst hx;obtain⟨h1,h2,_⟩:=hown _ rfl;exact⟨h1,.inr h2⟩
 ·refine⟨.inr rfl,fun j u hj=>?_⟩;unfold World.cell?;rw [hok]
  simpa using hj
theorem Has.cons{f g:bD}{F:List bD}(h:Has F g):Has (f::F) g:=fun S w k=>h S w fun x hx=>k x (List.mem_cons_of_mem _ hx)
theorem Has.each_nil{α:Type}{g:α→bD}{F:List bD}:Has F (bD.each [] g):=fun _ _ _ x hx=>by simp at hx
theorem Has.each_cons{α:Type}{g:α→bD}{F:List bD}{x:α}{l:List α}(hx:Has F (g x))(hl:Has F (bD.each l g)):Has F (bD.each (x::l) g):=fun S w k y hy=>by
 rcases List.mem_cons.1 hy with rfl | hy
 ·exact hx S w k
 ·exact hl S w k y hy
theorem bCd(hT:dH P T){o:Oper}{t e sz k l cap:Nat}{ei:TI}{x i:Operand}{kk:IntKind}{z:Int}{A:Option Addr}(ho:o.op= .slice t x none (some i) none)(hx:Γ.ev x=some (.slice A l cap))(hi:Γ.ev i=some (.int kk z))
  (ht:T.get t=some ⟨.slice e,sz⟩) (he:T.get e=some ei) (hz:z=(k:Nat)) (hk:k≤cap):Sti P β n Γ H F o (.slice A k cap):=fun a w S f s hF=>by
 subst hz;unfold execOp;simp only [ho,f.ev hx,Option.map_some,Option.map_none,f.ev hi];rw [Sem.run_bind,run_cutTo hT ht he hk];rfl
theorem sti_cutFrom(hT:dH P T){o:Oper}{t e sz k l cap:Nat}{ei:TI}{x i:Operand}{kk:IntKind}{z:Int}{A:Option Addr}(ho:o.op= .slice t x (some i) none none)(hx:Γ.ev x=some (.slice A l cap))(hi:Γ.ev i=some (.int kk z))
  (ht:T.get t=some ⟨.slice e,sz⟩) (he:T.get e=some ei) (hz:z=(k:Nat)) (hk:k≤l):Sti P β n Γ H F o (.slice (cutA A k ei.size cap) (l-k) (cap-k)):=fun a w S f s hF=>by
 subst hz;unfold execOp;simp only [ho,f.ev hx,Option.map_some,Option.map_none,f.ev hi];rw [Sem.run_bind,run_cutFrom hT ht he hk];rfl
theorem has_take{A:Option Addr}{l c k:Nat}{xs:List α}(h:Has F (E.sl (.slice A l c) xs))(hk:k≤xs.length):Has F (E.sl (.slice A k c) (xs.take k)):=fun S w q=>by
 obtain⟨A',c',e,h⟩:=h S w q;injection e with e1 e2 e3
 subst e1 e3;refine⟨A,c,by rw [List.length_take,Nat.min_eq_left hk],fun j x hj=>?_⟩;rw [List.getElem?_take] at hj;split at hj
 ·exact h j x hj
 ·cases hj
theorem bDd{A:Option Addr}{t:TypeId}{m cap:Nat}{xs:List α}{H':List bC}(hH:bT H (E.row (.slice A m cap) t xs) H')(h:xs.length≤cap→At β n Γ H F K):At β n Γ H F K:=fun a w S f s k=>by
 have hown:w.ownsRow 0 t E.size (.slice A m cap) xs.length (E.all xs):=s.ok _ hH.mem;refine h ?_ a w S f s k
 rcases hown.2 with ⟨_,e0⟩ | ⟨g,cap',cur,e1,h1,h2,h3,_⟩
 ·omega
 ·injection e1 with e1 e2 e3
  subst e3;omega
end
theorem dR:prog.follows .mixedOrders=true:=k8
def bFu (a b:Mono):Bool:=a.eqB b
theorem sti_neq_mono{β:cX}{n:Nat}{Γ:Env}{H:List bC}{F:List bD}{o:Oper}{a b:Operand}{tt:TypeId}(x y:Mono)(ho:o.op= .binOp .neq 111 a b tt)(hx:Γ.ev a=some (.agg #[.int .i64 x.n,.int .u8 x.e0.toNat,.int .u8 x.e1.toNat,.int .u8 x.e2.toNat,.int .u8 x.e3.toNat,.int .u8 x.e4.toNat,.int .u8 x.e5.toNat]))(hy:Γ.ev b=some (.agg #[.int .i64 y.n,.int .u8 y.e0.toNat,.int .u8 y.e1.toNat,.int .u8 y.e2.toNat,.int .u8 y.e3.toNat,.int .u8 y.e4.toNat,.int .u8 y.e5.toNat])):Sti prog β n Γ H F o (.bool (!bFu x y)):=fun c w S f s k=>by
 have hq:prog.eqGuardType prog.depth 111=false:=k8
 have hg:(eqGuard .neq 111 a b (.agg #[.int .i64 x.n,.int .u8 x.e0.toNat,.int .u8 x.e1.toNat,.int .u8 x.e2.toNat,.int .u8 x.e3.toNat,.int .u8 x.e4.toNat,.int .u8 x.e5.toNat]) (.agg #[.int .i64 y.n,.int .u8 y.e0.toNat,.int .u8 y.e1.toNat,.int .u8 y.e2.toNat,.int .u8 y.e3.toNat,.int .u8 y.e4.toNat,.int .u8 y.e5.toNat])).run prog w= .ok () w:=by
  unfold eqGuard;have hp:(program:Sem Program).run prog w= .ok prog w:=rfl;simp [hp,hq]
 unfold execOp;simp only [ho,f.ev hx,f.ev hy];rw [Sem.run_bind,Sem.run_bind,hg,Result.andThen_ok,run_neq_mono];rfl
theorem mono_eq{x y:Mono}:bFu x y=true↔x=y:=Mono.eqB_iff x y
theorem mono_t{x y:Mono}(h:(!bFu x y)=true):x≠y:=fun e=>by
 rw [mono_eq.2 e] at h;cases h
theorem mono_f{x y:Mono}(h:(!bFu x y)=false):x=y:=mono_eq.1 u9
def polsL (l:List PolV):List (List Mono):=l.map (·.list)
theorem bW(l:List PolV):(polsL l).length=l.length:=List.length_map _
theorem dC{l:List PolV}{i:Nat}{p:PolV}(h:l[i]?=some p):(polsL l)[i]?=some p.list:=by
 unfold polsL;rw [List.getElem?_map,h];rfl
def OpV.c (o:OpV):OpC:=⟨o.how,o.k,o.n,o.p.list,o.fn⟩
def opsL (l:List OpV):List OpC:=l.map OpV.c
def kG.c (b:kG):iO:=⟨polsL b.sides.list,b.input⟩
def gC.c (s:gC):cJ:=⟨s.how,s.buf,s.at_.list,polsL s.loops.list,s.fn,opsL s.ops.list⟩
def yT (l:List gC):List cJ:=l.map gC.c
def sL (l:List kG):List iO:=l.map kG.c
def iD.c (c:iD):dB:=⟨c.vars,sL c.bufs.list,yT c.steps.list,c.outs.list⟩
theorem fK(l:List OpV):(opsL l).length=l.length:=List.length_map _
theorem dX(l:List gC):(yT l).length=l.length:=List.length_map _
theorem cQ(l:List kG):(sL l).length=l.length:=List.length_map _
theorem gA{l:List OpV}{i:Nat}{x:OpV}(h:l[i]?=some x):(opsL l)[i]?=some x.c:=by
 unfold opsL;rw [List.getElem?_map,h];rfl
theorem dK{l:List gC}{i:Nat}{x:gC}(h:l[i]?=some x):(yT l)[i]?=some x.c:=by
 unfold yT;rw [List.getElem?_map,h];rfl
theorem dJ{l:List kG}{i:Nat}{x:kG}(h:l[i]?=some x):(sL l)[i]?=some x.c:=by
 unfold sL;rw [List.getElem?_map,h];rfl
theorem eqF_of{α:Type} [DecidableEq α]{a b:List α}(h:a≠b):Value.bool false= .bool (decide (a=b)):=by simp [h]
theorem eqT_of{α:Type} [DecidableEq α]{a b:List α}(h:a=b):Value.bool true= .bool (decide (a=b)):=by simp [h]
theorem nil_pol{α:Type}{E:Flat α}{F:List bD}:Has F (E.sl (.slice none 0 0) []):=fun _ _ _=>⟨none,0,rfl,fun k x hk=>by simp at hk⟩
def zK (l:List PolV):bD:=bD.each l dO
theorem rC{F:List bD}{p:PolV}(h:Has F (dO p)):Has F (mK.sl (.slice p.addr p.list.length p.cap) p.list):=h.left
theorem bIf{F:List bD}{p:PolV}(h:Has F (dO p)):Has F (bD.pure (p.list.length≤8796093022208)):=h.right
theorem gE{F:List bD}{p:PolV}(h:Has F (dO p)):Has F (bD.pure (p.list.length≤140737488355328)):=fun S w k=>Nat.le_trans (bIf h S w k) m7
theorem polF_nil: ∀{F:List bD},Has F (dO ⟨none,0,[]⟩):=Has.and nil_pol (e9 m7)
def bEk {α:Type}(b:Nat)(l:Sl α):bD:=bD.pure (l.list.length≤l.cap∧l.list.length*b≤140737488355328)
def rH (l:Sl PolV):bD:=((iP.sl (.slice l.addr l.list.length l.cap) l.list).and (zK l.list)).and (bEk 24 l)
def opF (x:OpV):bD:=dO x.p
def bKs (l:Sl OpV):bD:=((opE.sl (.slice l.addr l.list.length l.cap) l.list).and (bD.each l.list opF)).and (bEk 56 l)
def nN (x:gC):bD:=(dO x.at_).and ((rH x.loops).and (bKs x.ops))
def bDi (l:Sl gC):bD:=((sX.sl (.slice l.addr l.list.length l.cap) l.list).and (bD.each l.list nN)).and (bEk 96 l)
def bufF (x:kG):bD:=rH x.sides
def bufsF (l:Sl kG):bD:=((yS.sl (.slice l.addr l.list.length l.cap) l.list).and (bD.each l.list bufF)).and (bEk 32 l)
def outsF (l:Sl Int):bD:=(cT.sl (.slice l.addr l.list.length l.cap) l.list).and (bEk 8 l)
def rA (c:iD):bD:=(bufsF c.bufs).and ((bDi c.steps).and (outsF c.outs))
section
variable {F : List bD} {c : iD} {s : gC} {l : Sl PolV} {ol : Sl OpV} {bl : Sl kG} {xl : Sl gC} {il : Sl Int}
theorem lB(h:Has F (rA c)):Has F (bufsF c.bufs):=h.left
theorem lH(h:Has F (rA c)):Has F (bDi c.steps):=h.right.left
theorem coreF_o(h:Has F (rA c)):Has F (outsF c.outs):=h.right.right
theorem stepF_a(h:Has F (nN s)):Has F (dO s.at_):=h.left
theorem rR(h:Has F (nN s)):Has F (rH s.loops):=h.right.left
theorem oN(h:Has F (nN s)):Has F (bKs s.ops):=h.right.right
theorem rN(h:Has F (rH l)):Has F (iP.sl (.slice l.addr l.list.length l.cap) l.list):=h.left.left
theorem rL(h:Has F (rH l)):Has F (zK l.list):=h.left.right
theorem xD(h:Has F (rH l)):Has F (bEk 24 l):=h.right
theorem opsF_s(h:Has F (bKs ol)):Has F (opE.sl (.slice ol.addr ol.list.length ol.cap) ol.list):=h.left.left
theorem opsF_e(h:Has F (bKs ol)):Has F (bD.each ol.list opF):=h.left.right
theorem opsF_c(h:Has F (bKs ol)):Has F (bEk 56 ol):=h.right
theorem sW(h:Has F (bDi xl)):Has F (sX.sl (.slice xl.addr xl.list.length xl.cap) xl.list):=h.left.left
theorem tD(h:Has F (bDi xl)):Has F (bD.each xl.list nN):=h.left.right
theorem stepsF_c(h:Has F (bDi xl)):Has F (bEk 96 xl):=h.right
theorem rS(h:Has F (bufsF bl)):Has F (yS.sl (.slice bl.addr bl.list.length bl.cap) bl.list):=h.left.left
theorem zP(h:Has F (bufsF bl)):Has F (bD.each bl.list bufF):=h.left.right
theorem outsF_s(h:Has F (outsF il)):Has F (cT.sl (.slice il.addr il.list.length il.cap) il.list):=h.left
end
end
end Go.Proofs.YtnfiadlonjediaaGreatDoor
