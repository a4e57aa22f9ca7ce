/- Texts of one proof, one behind the other: RunK, RunS15, Laid15, LawG15, Grows, PolyK0, TysK, CoreP, LifeP, FuseP, FuseQ, MixT, Cut. -/
import Derived.Test.YtofjmphlpdhohaaGreatDoorM6
import Derived.Test.YtofjmphlpdhohaaGreatDoorRows
import Derived.Test.YtofjmphlpdhohaaGreatDoorM3
import Derived.Deep.DeepWitnessRowRef
import Derived.Lib.LaidU8
import Derived.LaidLaws
import Derived.Lib.LaidIn
import Derived.Shelf.Vars
import Derived.Test.YtofjmphlpdhohaaGreatDoorM1
import Derived.ProofKit
import Derived.OpenShut
import Derived.Carry
import Derived.SizedLaws
import Derived.Test.YtofjmphlpdhohaaGreatDoorM4
import Derived.Test.YtofjmphlpdhohaaGreatDoorM2
import Derived.Laws.Slices
namespace Go.Proofs.YtofjmphlpdhohaaGreatDoor
namespace X
noncomputable section
def vL:T (T Plan):= .nd (.nd (.nd (.nd (.nd (.nd (.nd .lf none (.nd .lf (some .lf) .lf)) none (.nd .lf (some .lf) (.nd .lf (some .lf) .lf))) none (.nd (.nd (.nd .lf (some .lf) .lf) none .lf) (some (.nd (.nd .lf (some (([(true,0),(true,1),(true,2),(true,3),(true,4),(true,5),(true,6),(true,7),(true,8),(false,9),(true,10),(true,11),(true,12),(true,13),(true,14)],none))) .lf) none (.nd .lf (some (([(true,0),(true,1),(true,2),(true,3),(false,4),(true,5)],some 6))) .lf))) (.nd .lf (some .lf) (.nd .lf (some .lf) .lf)))) none (.nd (.nd (.nd .lf none (.nd .lf (some .lf) .lf)) none (.nd (.nd .lf (some .lf) .lf) (some .lf) .lf)) none (.nd (.nd (.nd .lf (some .lf) .lf) (some (.nd (.nd (.nd .lf none (.nd .lf none (.nd .lf (some (([(true,0),(true,1),(true,2),(true,3),(true,4),(true,5),(true,6),(false,7),(false,8),(true,9)],none))) .lf))) none .lf) none (.nd .lf none (.nd .lf none (.nd .lf none (.nd .lf (some (([(true,0),(true,1),(true,2),(true,3),(true,4),(true,5),(true,6),(true,7),(true,8),(true,9)],some 10))) .lf)))))) (.nd .lf (some .lf) .lf)) (some .lf) (.nd .lf (some .lf) .lf)))) none (.nd (.nd (.nd (.nd .lf none (.nd .lf (some .lf) .lf)) none (.nd .lf (some .lf) (.nd (.nd .lf (some (.nd .lf (some (([(true,0),(true,1),(true,2),(true,3),(true,4),(true,5),(true,6),(true,7),(true,8),(true,9),(true,10),(true,11),(true,12),(false,13),(true,14)],some 15))) .lf)) .lf) none .lf))) none (.nd (.nd (.nd .lf (some (.nd (.nd (.nd .lf none (.nd .lf (some (([(true,0),(true,1),(true,2),(true,3),(true,4),(true,5),(true,6),(false,7),(true,8),(true,9),(true,10),(false,11),(true,12)],none))) .lf)) none .lf) none .lf)) .lf) none (.nd .lf (some .lf) .lf)) none (.nd (.nd .lf (some .lf) .lf) (some .lf) .lf))) none (.nd (.nd (.nd (.nd .lf (some .lf) .lf) none (.nd .lf (some .lf) .lf)) (some .lf) (.nd .lf (some .lf) (.nd .lf (some .lf) .lf))) none (.nd (.nd (.nd (.nd .lf (some (.nd .lf none (.nd .lf (some (([(true,0),(true,1),(true,2),(true,3),(true,4),(true,5),(true,6),(true,7),(true,8)],none))) .lf))) .lf) none .lf) (some .lf) (.nd .lf (some .lf) .lf)) none .lf)))) none (.nd (.nd (.nd (.nd (.nd (.nd (.nd .lf (some .lf) .lf) none .lf) none (.nd .lf (some .lf) .lf)) none (.nd (.nd .lf (some .lf) .lf) none (.nd (.nd .lf (some .lf) .lf) (some .lf) .lf))) (some .lf) (.nd (.nd (.nd .lf (some .lf) .lf) none (.nd .lf (some .lf) .lf)) (some .lf) (.nd .lf (some (.nd (.nd (.nd .lf none (.nd .lf (some (([(true,0),(true,1),(true,2),(true,3),(true,4),(true,5),(true,6),(true,7),(true,8),(true,9),(true,10),(true,11),(true,12),(true,13),(true,14),(true,15),(true,16),(true,17),(true,18),(true,19),(true,20),(true,21),(true,22),(true,23),(true,24),(true,25),(true,26),(true,27),(true,28),(true,29),(true,30),(true,31),(true,32),(true,33)],none))) .lf)) (some (([(true,0),(true,1),(true,2),(true,3),(true,4),(true,5),(true,6),(true,7),(true,8),(true,9),(true,10),(true,11)],none))) (.nd (.nd .lf (some (([(true,0),(true,1),(true,2),(true,3),(true,4),(true,5),(true,6),(true,7),(true,8),(true,9),(true,10),(true,11),(true,12),(true,13)],none))) .lf) none .lf)) none .lf)) .lf))) none (.nd (.nd (.nd (.nd .lf (some .lf) .lf) none (.nd .lf (some .lf) .lf)) (some .lf) (.nd (.nd .lf (some .lf) .lf) (some (.nd (.nd (.nd .lf (some (([(true,0),(true,1),(true,2),(true,5),(true,6),(false,3),(true,4)],some 7))) .lf) none .lf) none .lf)) (.nd .lf (some .lf) .lf))) (some (.nd (.nd (.nd .lf none (.nd (.nd .lf (some (([(true,0),(true,1),(true,2),(true,3),(true,4),(true,5),(true,6)],some 7))) .lf) none .lf)) none .lf) none (.nd (.nd .lf none (.nd .lf (some (([(true,0),(true,1),(true,2),(true,3),(true,4),(true,5),(true,6),(true,7),(false,8),(false,9),(true,10),(true,11)],some 12))) .lf)) none .lf))) (.nd (.nd (.nd (.nd .lf (some .lf) .lf) (some (.nd (.nd (.nd .lf (some (([(true,0),(true,1),(true,2),(true,3),(true,5),(true,6),(false,32772),(false,8)],some 9))) .lf) none .lf) none .lf)) .lf) (some .lf) .lf) (some .lf) .lf))) none (.nd (.nd (.nd (.nd .lf none (.nd .lf (some .lf) .lf)) none (.nd .lf (some .lf) .lf)) none (.nd (.nd (.nd .lf (some (.nd .lf (some (([(true,0),(true,1),(true,2),(true,3),(true,4),(true,5),(true,6),(true,7),(true,8),(true,9),(true,10),(true,11),(true,12),(true,13),(true,14),(true,16),(true,17),(false,15),(false,18),(true,19),(false,20),(false,21),(true,22),(true,23),(true,24)],some 25))) .lf)) .lf) (some .lf) .lf) (some (.nd (.nd .lf (some (([(true,0),(true,1),(true,2),(true,3),(true,4),(true,5),(false,6),(true,7),(true,8),(true,9),(true,10),(false,11),(true,12),(true,13),(true,14),(true,15),(true,16),(true,17),(true,18),(true,19),(true,20),(false,21),(true,22),(true,23),(true,24),(true,25),(true,26),(true,27),(true,28),(true,29),(true,30),(true,31),(true,32),(false,33),(true,34),(true,35)],none))) .lf) none (.nd (.nd .lf none (.nd .lf (some (([(true,0),(true,1),(true,2),(true,3),(true,4),(true,5),(true,6),(true,7),(true,8),(false,9),(true,10),(true,11)],some 12))) .lf)) none .lf))) .lf)) none (.nd (.nd (.nd (.nd .lf (some .lf) .lf) none (.nd .lf (some .lf) .lf)) (some (.nd (.nd (.nd .lf none (.nd .lf (some (([(true,0),(true,1),(true,2),(true,3),(true,4),(true,5),(true,6),(true,7),(true,8),(true,9),(true,10),(true,11),(true,12),(true,13),(true,14),(true,15),(true,16),(true,17),(true,18)],some 19))) .lf)) none .lf) none .lf)) (.nd .lf (some .lf) (.nd .lf (some .lf) .lf))) none (.nd (.nd (.nd .lf (some .lf) .lf) (some (.nd (.nd (.nd .lf none (.nd .lf (some (([(true,0),(true,1),(true,2),(true,3),(true,4),(true,5),(true,6),(true,7),(true,8),(true,9),(false,10),(false,11),(true,12)],none))) .lf)) none (.nd (.nd .lf none (.nd (.nd .lf (some (([(true,0),(true,1),(true,2),(true,3),(false,4),(false,5),(true,6),(true,7)],none))) .lf) none .lf)) none (.nd (.nd (.nd .lf (some (([(true,0),(true,1),(true,2),(true,3),(true,4),(true,5),(true,6),(true,7),(false,8)],some 9))) .lf) none .lf) none .lf))) none (.nd (.nd (.nd (.nd .lf (some (([(true,0),(true,1),(true,2),(true,3),(true,4),(true,5),(true,6),(true,7),(true,8)],some 9))) .lf) none .lf) none .lf) none (.nd .lf none (.nd (.nd (.nd .lf (some (([(true,0),(true,1),(true,2),(true,3),(true,4),(true,5),(true,6),(true,7),(false,8),(true,9),(false,10),(false,11),(true,12),(true,13),(true,14)],some 15))) .lf) none .lf) none .lf))))) (.nd .lf (some .lf) .lf)) (some (.nd .lf none (.nd .lf none (.nd .lf (some (([(true,0),(false,1),(true,2),(true,3),(true,4),(true,5),(true,6),(true,7),(true,8),(true,9),(true,10),(true,11),(true,12),(false,13),(true,14),(true,15),(true,16)],none))) .lf)))) (.nd (.nd .lf (some .lf) .lf) none (.nd .lf (some .lf) .lf))))))) none (.nd (.nd (.nd (.nd (.nd (.nd .lf none (.nd .lf (some .lf) .lf)) none (.nd (.nd .lf (some .lf) .lf) none (.nd .lf (some .lf) .lf))) none (.nd (.nd (.nd .lf (some .lf) .lf) none .lf) (some (.nd (.nd .lf none (.nd .lf none (.nd .lf (some (([(true,0),(true,1),(true,2),(true,3),(true,4),(true,5)],some 6))) .lf))) none (.nd (.nd (.nd (.nd .lf (some (([(true,0),(true,1),(true,2),(true,3),(true,4),(true,5)],some 6))) .lf) none .lf) none .lf) none .lf))) (.nd .lf (some .lf) (.nd .lf (some (.nd (.nd .lf (some (([(true,0),(true,1),(true,2),(true,3),(true,4),(true,5),(true,6),(true,7),(true,8),(true,9),(false,10),(true,11)],none))) .lf) none .lf)) .lf)))) none (.nd (.nd (.nd .lf none (.nd .lf (some .lf) .lf)) none (.nd (.nd .lf (some .lf) .lf) (some .lf) .lf)) none (.nd (.nd .lf (some .lf) (.nd .lf (some .lf) .lf)) (some .lf) .lf))) none (.nd (.nd (.nd (.nd .lf none (.nd .lf (some .lf) .lf)) (some .lf) (.nd (.nd .lf (some .lf) .lf) (some (.nd .lf none (.nd .lf none (.nd .lf (some (([(true,0),(true,1),(true,2),(true,3),(true,4),(true,5),(true,6),(true,7),(true,8)],none))) .lf)))) .lf)) (some .lf) (.nd (.nd (.nd .lf (some (.nd .lf none (.nd .lf (some (([(true,0),(true,1),(true,2),(true,4),(true,5),(true,6),(true,7),(true,8),(false,3),(false,9),(true,10)],some 11))) .lf))) .lf) (some .lf) (.nd .lf (some (.nd (.nd .lf (some (([(true,0),(true,1),(true,2),(true,3),(true,5),(true,6),(true,7),(false,36868),(false,9),(true,10)],none))) .lf) none .lf)) .lf)) (some .lf) (.nd .lf (some .lf) .lf))) none (.nd (.nd (.nd (.nd .lf (some (.nd (.nd .lf (some (([(true,0),(true,1),(true,2),(true,3),(true,4),(true,5),(true,6),(true,7),(true,8),(true,9)],none))) .lf) none (.nd .lf (some (([(true,0),(true,1),(true,2),(true,3),(true,4),(true,5),(true,6),(true,7),(true,8),(true,9)],some 10))) .lf))) .lf) none .lf) none (.nd .lf (some .lf) (.nd .lf (some .lf) .lf))) none (.nd (.nd .lf (some .lf) .lf) none .lf)))) none (.nd (.nd (.nd (.nd (.nd (.nd (.nd .lf (some (.nd .lf none (.nd .lf none (.nd (.nd (.nd (.nd .lf (some (([(true,0),(true,1),(true,2),(true,3),(true,4),(true,5),(true,6),(false,7),(false,8),(true,9)],none))) .lf) none .lf) none .lf) none .lf)))) .lf) none .lf) none (.nd .lf (some (.nd (.nd .lf (some (([(true,0),(true,1),(true,2),(true,3),(true,4),(true,5),(true,6),(true,7),(true,8),(true,9)],none))) .lf) none (.nd .lf (some (([(true,0),(true,1),(true,2),(true,3),(true,4),(true,5),(true,6),(true,7),(true,8),(true,9),(true,10),(true,11)],none))) .lf))) .lf)) none (.nd (.nd .lf (some .lf) .lf) (some .lf) (.nd (.nd .lf (some (.nd .lf (some (([(true,0),(true,1),(true,2),(true,3),(true,4),(true,5),(false,6),(false,7),(true,8)],some 9))) .lf)) .lf) none .lf))) (some .lf) (.nd (.nd (.nd .lf (some (.nd (.nd (.nd (.nd .lf (some (([(true,0),(true,1),(true,2),(true,3),(true,4),(true,5),(false,6),(false,7)],some 8))) .lf) none .lf) none .lf) none (.nd .lf none (.nd .lf none (.nd (.nd .lf (some (([(true,0),(true,1),(true,2),(true,3),(true,4),(true,5),(true,6),(true,7),(false,8)],some 9))) .lf) none .lf))))) .lf) none (.nd .lf (some .lf) .lf)) (some .lf) (.nd .lf (some .lf) (.nd .lf (some .lf) .lf)))) none (.nd (.nd .lf (some (.nd (.nd (.nd .lf none (.nd (.nd (.nd .lf (some (([(true,0),(true,1),(true,2),(true,3),(true,4),(true,5),(true,6),(true,7),(true,8),(true,9),(false,10),(false,11),(true,12),(true,13),(true,14)],some 15))) .lf) (some (([(true,0),(true,1),(true,2),(true,3),(true,4),(true,5),(true,6),(true,7),(true,8)],some 9))) .lf) none .lf)) none (.nd .lf none (.nd .lf none (.nd .lf (some (([(true,0),(true,1),(true,2),(true,3),(true,4),(true,5),(true,6),(true,7),(true,8),(true,9),(false,10),(true,11),(true,12),(true,13),(true,14),(true,15)],none))) .lf)))) none (.nd (.nd .lf none (.nd (.nd .lf (some (([(true,0),(true,1),(true,2),(true,3),(true,4),(true,5),(true,6),(true,7),(true,9),(false,8),(true,10),(false,11),(false,12),(true,13),(true,14),(true,15)],some 16))) .lf) none .lf)) none (.nd (.nd (.nd (.nd .lf (some (([(true,0),(true,1),(true,2),(true,3),(true,4),(true,5),(true,6),(true,7),(true,8)],some 9))) .lf) none .lf) none .lf) none .lf)))) (.nd (.nd (.nd .lf (some .lf) .lf) (some .lf) .lf) none .lf)) (some .lf) (.nd (.nd (.nd (.nd .lf (some (.nd .lf none (.nd .lf (some (([(true,0),(true,1),(true,4),(true,5),(true,6),(true,7),(true,8),(true,9),(true,10),(true,11),(true,12),(true,13),(true,14),(true,15),(true,16),(true,17),(false,2),(true,3),(false,18),(true,19)],none))) .lf))) .lf) (some .lf) .lf) (some .lf) .lf) none .lf))) none (.nd (.nd (.nd (.nd .lf none (.nd .lf (some .lf) .lf)) none (.nd (.nd .lf (some .lf) .lf) none .lf)) (some (.nd (.nd (.nd .lf (some (([(true,0),(true,2),(false,1),(false,3),(true,4),(true,5)],none))) .lf) none .lf) none (.nd (.nd .lf none (.nd (.nd .lf (some (([(true,0),(true,1),(true,2),(true,3),(true,4),(true,5),(true,6),(true,7),(false,8),(true,9)],none))) .lf) none .lf)) none (.nd (.nd .lf (some (([(true,0),(true,1),(true,2),(true,3),(true,4),(true,5),(true,6),(true,7),(true,8),(true,9),(true,10),(true,11),(true,12),(true,13)],none))) .lf) none .lf)))) (.nd (.nd .lf (some (.nd (.nd .lf none (.nd .lf none (.nd .lf (some (([(true,0),(true,1),(true,2),(true,3),(true,4),(true,5),(false,6),(false,7),(true,8),(true,9)],some 10))) .lf))) none (.nd .lf (some (([(true,0),(true,1),(true,2),(true,3),(true,4),(true,5),(true,6),(true,7),(true,8),(true,9),(true,10),(true,11),(true,12),(true,13),(true,14),(true,15),(true,16),(true,17)],none))) (.nd (.nd .lf none (.nd .lf (some (([(true,0),(true,1),(true,2),(true,3),(true,4),(true,5),(false,6),(false,7),(true,8),(true,9)],some 10))) .lf)) none .lf)))) .lf) (some .lf) .lf)) none (.nd (.nd (.nd (.nd .lf (some (.nd (.nd (.nd .lf (some (([(true,0),(true,1),(true,2),(true,3),(true,4),(true,5),(true,6),(true,7),(true,8),(true,9)],none))) .lf) none .lf) none (.nd (.nd (.nd .lf (some (([(true,0),(true,1),(true,2),(true,3),(true,4),(true,5),(true,6),(true,7),(true,8),(true,9)],none))) .lf) none .lf) none .lf))) .lf) none (.nd .lf (some (.nd (.nd (.nd (.nd (.nd (.nd .lf (some (([(true,2),(false,0),(false,1),(false,3),(true,4),(true,5),(true,6),(true,7),(false,8),(true,9)],some 10))) .lf) none .lf) none .lf) none .lf) none .lf) none .lf)) .lf)) none (.nd .lf (some .lf) (.nd .lf (some .lf) .lf))) none (.nd (.nd (.nd .lf (some .lf) .lf) (some (.nd (.nd .lf none (.nd (.nd .lf (some (([(true,0),(true,1),(true,2),(true,3),(true,4),(true,5),(true,6),(false,7),(true,8),(true,9)],none))) .lf) none .lf)) none .lf)) (.nd .lf (some (.nd (.nd .lf (some (([(true,0),(true,1),(true,2),(true,3),(true,4),(true,5),(true,6),(true,7),(true,8),(true,9),(true,10),(true,11),(true,12),(false,13),(true,14),(true,15)],none))) .lf) none .lf)) .lf)) none (.nd (.nd .lf (some .lf) .lf) none .lf))))))
def orcX (f:FuncId):Option Orc:=sel (Nat.beq f 310) (some (escO)) (sel (Nat.beq f 255) (some (fieldsO 2)) (sel (Nat.beq f 234) (some (idxO)) (sel (Nat.beq f 284) (some (joinO)) (sel (Nat.beq f 102) (some (mulO)) (sel (Nat.beq f 163) (some (bothO)) (none))))))
def knowG (n:Nat)(o:Obj):Prop:=match n with
 | 0=> ∃t z,o= .cells (Lib.asciiSpaceTab.map fun z=>Value.int .u8 z).toArray t z
 | 1=> ∃m r t z,o= .cells (Value.int .i64 m::r).toArray t z
 | 2=> ∃t z,o= .cells #[.int .i64 0,.int .i64 (-1)] t z
 | _=>False
theorem kw_ok: ∀n cs o,sel (Nat.beq n 2) (some [V.i .i64 0,V.i .i64 (-1)]) none=some cs→knowG n o→(∀v∈cs,v.one=true)∧ ∃C t z,o= .cells C t z∧ ∀(i:Nat) (v:V),cs[i]?=some v→ ∃u,C[i]?=some u∧ofV u=some v:=fun n cs o h hG=>by
 rw [bS] at h;split at h
 ·rename_i hn;cases h;rw [Nat.eq_of_beq_eq_true hn] at hG;obtain⟨t,z,rfl⟩:=hG;refine⟨fun v hv=>by simp at hv;rcases hv with rfl | rfl<;>rfl,_,t,z,rfl,fun i v hi=>?_⟩
  match i,hi with
  | 0,hi=>cases hi;exact⟨_,rfl,rfl⟩
  | 1,hi=>cases hi;exact⟨_,rfl,rfl⟩
  | i+2,hi=>cases hi
 ·cases h
def methX (t:TypeId)(n:String):Option (FuncId×Option TypeId):=sel (Nat.beq t 252&&n== "Swap") (some (355,some 307)) (sel (Nat.beq t 252&&n== "Push") (some (354,none)) (sel (Nat.beq t 252&&n== "Pop") (some (353,none)) (sel (Nat.beq t 252&&n== "Less") (some (352,some 307)) (sel (Nat.beq t 252&&n== "Len") (some (161,some 307)) (none)))))
theorem meth_ok(t:TypeId)(n:String)(f:FuncId)(h:methX t n=some (f,none))(v:Value)(w:World):(method (Tryz.prog.types.size+Made.depth) t v n).run Tryz.prog w= .ok (f,v) w:=by
 unfold methX at h
 by_cases h0:(Nat.beq t 252&&n== "Swap")=true
 ·rw [bS,if_pos h0] at h;rw [Bool.and_eq_true,beq_iff_eq] at h0;rw [Nat.eq_of_beq_eq_true h0.1,h0.2];cases h
 rw [bS,if_neg h0] at h
 by_cases h1:(Nat.beq t 252&&n== "Push")=true
 ·rw [bS,if_pos h1] at h;rw [Bool.and_eq_true,beq_iff_eq] at h1;rw [Nat.eq_of_beq_eq_true h1.1,h1.2];cases h
  kernel_rfl
 rw [bS,if_neg h1] at h
 by_cases h2:(Nat.beq t 252&&n== "Pop")=true
 ·rw [bS,if_pos h2] at h;rw [Bool.and_eq_true,beq_iff_eq] at h2;rw [Nat.eq_of_beq_eq_true h2.1,h2.2];cases h
  kernel_rfl
 rw [bS,if_neg h2] at h
 by_cases h3:(Nat.beq t 252&&n== "Less")=true
 ·rw [bS,if_pos h3] at h;rw [Bool.and_eq_true,beq_iff_eq] at h3;rw [Nat.eq_of_beq_eq_true h3.1,h3.2];cases h
 rw [bS,if_neg h3] at h
 by_cases h4:(Nat.beq t 252&&n== "Len")=true
 ·rw [bS,if_pos h4] at h;rw [Bool.and_eq_true,beq_iff_eq] at h4;rw [Nat.eq_of_beq_eq_true h4.1,h4.2];cases h
 rw [bS,if_neg h4] at h;cases h
theorem meth_deref(t:TypeId)(n:String)(f:FuncId)(el:TypeId)(h:methX t n=some (f,some el))(b o:Nat)(r:Value)(w:World)(hl:(loadVar el ⟨b,o,none⟩).run Tryz.prog w= .ok r w):(method (Tryz.prog.types.size+Made.depth) t (.pointer (some ⟨b,o,none⟩)) n).run Tryz.prog w= .ok (f,r) w:=by
 unfold methX at h
 by_cases h0:(Nat.beq t 252&&n== "Swap")=true
 ·rw [bS,if_pos h0] at h;rw [Bool.and_eq_true,beq_iff_eq] at h0;rw [Nat.eq_of_beq_eq_true h0.1,h0.2];cases h;rw [show(method (Tryz.prog.types.size+Made.depth) 252 (.pointer (some ⟨b,o,none⟩)) "Swap").run Tryz.prog w=(do let r←loadVar 307 ⟨b,o,none⟩;pure (355,r):Sem (FuncId×Value)).run Tryz.prog w by kernel_rfl,Sem.run_bind,hl];rfl
 rw [bS,if_neg h0] at h
 by_cases h1:(Nat.beq t 252&&n== "Push")=true
 ·rw [bS,if_pos h1] at h;rw [Bool.and_eq_true,beq_iff_eq] at h1;rw [Nat.eq_of_beq_eq_true h1.1,h1.2];cases h
 rw [bS,if_neg h1] at h
 by_cases h2:(Nat.beq t 252&&n== "Pop")=true
 ·rw [bS,if_pos h2] at h;rw [Bool.and_eq_true,beq_iff_eq] at h2;rw [Nat.eq_of_beq_eq_true h2.1,h2.2];cases h
 rw [bS,if_neg h2] at h
 by_cases h3:(Nat.beq t 252&&n== "Less")=true
 ·rw [bS,if_pos h3] at h;rw [Bool.and_eq_true,beq_iff_eq] at h3;rw [Nat.eq_of_beq_eq_true h3.1,h3.2];cases h;rw [show(method (Tryz.prog.types.size+Made.depth) 252 (.pointer (some ⟨b,o,none⟩)) "Less").run Tryz.prog w=(do let r←loadVar 307 ⟨b,o,none⟩;pure (352,r):Sem (FuncId×Value)).run Tryz.prog w by kernel_rfl,Sem.run_bind,hl];rfl
 rw [bS,if_neg h3] at h
 by_cases h4:(Nat.beq t 252&&n== "Len")=true
 ·rw [bS,if_pos h4] at h;rw [Bool.and_eq_true,beq_iff_eq] at h4;rw [Nat.eq_of_beq_eq_true h4.1,h4.2];cases h;rw [show(method (Tryz.prog.types.size+Made.depth) 252 (.pointer (some ⟨b,o,none⟩)) "Len").run Tryz.prog w=(do let r←loadVar 307 ⟨b,o,none⟩;pure (161,r):Sem (FuncId×Value)).run Tryz.prog w by kernel_rfl,Sem.run_bind,hl];rfl
 rw [bS,if_neg h4] at h;cases h
@[instance_reducible] def fC (o:FuncId→Option Orc):Ctx where
 P:=Tryz.prog
 gl:=fun g=>gd (Nat.blt g 12) (some g)
 orc:=fun f=>oc (o f) (orcX f) some
 quiet:=[143]
 known:=fun f=>oc (T.get vL f) false fun _=>true
 n0:=12
 plan:=fun f id=>ob (T.get vL f) fun t=>T.get t id
 G:=knowG
 meth:=methX
 kw:=fun n=>sel (Nat.beq n 2) (some [.i .i64 0,.i .i64 (-1)]) none
 kwOk:=kw_ok
instance ctx : Ctx := fC fun _ => none
def rG:List (Nat×Nat):=[(2,0),(1,1),(0,2)]
def T.allP{α:Type}(p:Nat→α→Bool):T α→(Nat→Nat)→Bool
 | .lf,_=>true
 | .nd l x r,f=>oc x true (p (f 0))&&(T.allP p l (fun k=>f (2*k+1))&&T.allP p r (fun k=>f (2*k+2)))
theorem T.allP_get{α:Type}{p:Nat→α→Bool}: ∀{t:T α} {f:Nat→Nat} {n:Nat} {x:α},T.allP p t f=true→T.get t n=some x→p (f n) x=true
 | .lf,_,_,_,_,h=>by cases h
 | .nd l y r,f,n,x,h,hg=>by
  simp only [T.allP,Bool.and_eq_true] at h
  cases n with
  | zero=>
   have hg:y=some x:=hg;subst hg;exact h.1
  | succ m=>
   have hg:(Bool.rec (motive:=fun _=>Nat→Option α) (T.get r) (T.get l) (Nat.beq (Nat.mod m 2) 0) (Nat.div m 2))=some x:=hg
   cases hb:Nat.beq (Nat.mod m 2) 0 with
   | true=>
    rw [hb] at hg;have:=T.allP_get h.2.1 hg;have hb:m%2=0:=Nat.eq_of_beq_eq_true hb
    have e:2*Nat.div m 2+1=m+1:=by
     show 2*(m/2)+1=m+1;omega
    rw [←e];exact this
   | false=>
    rw [hb] at hg;have:=T.allP_get h.2.2 hg;have hb:m%2≠0:=fun e=>by rw [show Nat.mod m 2=0 from e] at hb;cases hb
    have e:2*Nat.div m 2+2=m+1:=by
     show 2*(m/2)+2=m+1;omega
    rw [←e];exact this
def validF [Ctx](f:FuncId):Bool:=oc (Tryz.prog.funcs[f]?) true fun fn=>oc fn.body true fun c=>gD f c
end
theorem all_validW:(fun o:FuncId→Option Orc=>T.allP (fun f _=> @validF (fC o) f) vL id)=fun _=>true:=by kernel_rfl
theorem all_valid(o:FuncId→Option Orc):T.allP (fun f _=> @validF (fC o) f) vL id=true:=congrFun all_validW o
theorem glA:Ctx.gl 2=some 2:=rfl
theorem spaceIs:SpaceIs:=fun _ h=>h
theorem jJ{α:Type}{c:Bool}{x y:Option α}{b:α}(h:sel c x y=some b):(c=true∧x=some b)∨y=some b:=by
 cases c with
 | true=>exact .inl ⟨rfl,h⟩
 | false=>exact .inr h
theorem sim_conv{o o':FuncId→Option Orc}{α:As}{s:St}{w:World}(h: @Sim (fC o) α s w): @Sim (fC o') α s w:= @Sim.mk (fC o') α s w (@Sim.gl (fC o) α s w h) (@Sim.lt (fC o) α s w h) (@Sim.sc (fC o) α s w h) (fun k x hk=>by
 have:= @Sim.is (fC o) α s w h k x hk
 cases x with
 | cells cs t ext ro=>cases ext<;>exact this
 | _=>exact this) (@Sim.ne (fC o) α s w h)
theorem stp_conv{o o':FuncId→Option Orc}{α α':As}{s s':St}{w w':World}(h: @Stp (fC o) α s w α' s' w'): @Stp (fC o') α s w α' s' w':= @Stp.mk (fC o') α s w α' s' w' (@Stp.same (fC o) α s w α' s' w' h) (@Stp.n (fC o) α s w α' s' w' h) (@Stp.c (fC o) α s w α' s' w' h) (sim_conv (@Stp.sim (fC o) α s w α' s' w' h)) (@Stp.fr (fC o) α s w α' s' w' h) (@Stp.new (fC o) α s w α' s' w' h)
theorem orc_conv{o o':FuncId→Option Orc}{f:FuncId}{g:Orc}(h: @lF (fC o) f g): @lF (fC o') f g:=fun args s v s' hg α w hs ha=>by
 rcases h args s v s' hg α w (sim_conv hs) ha with ⟨u,w',h1,β,h2,h3⟩ | ⟨h1,h2⟩
 ·exact .inl ⟨u,w',h1,β,h2,stp_conv h3⟩
 ·exact .inr ⟨h1,h2.mono fun _ _ ⟨u,h3,β,h4,h5⟩=>⟨u,h3,β,h4,stp_conv h5⟩⟩
theorem orcX_ok(f:FuncId)(h:Orc)(ho:orcX f=some h):lF f h:=by
 have ho:sel (Nat.beq f 310) (some (escO)) (sel (Nat.beq f 255) (some (fieldsO 2)) (sel (Nat.beq f 234) (some (idxO)) (sel (Nat.beq f 284) (some (joinO)) (sel (Nat.beq f 102) (some (mulO)) (sel (Nat.beq f 163) (some (bothO)) (none))))))=some h:=ho
 rcases jJ ho with ⟨hf,ho⟩ | ho
 ·cases ho;rw [Nat.eq_of_beq_eq_true hf];exact esc_orc rfl
 rcases jJ ho with ⟨hf,ho⟩ | ho
 ·cases ho;rw [Nat.eq_of_beq_eq_true hf];exact fields_orc rfl glA spaceIs
 rcases jJ ho with ⟨hf,ho⟩ | ho
 ·cases ho;rw [Nat.eq_of_beq_eq_true hf];exact idx_orc rfl
 rcases jJ ho with ⟨hf,ho⟩ | ho
 ·cases ho;rw [Nat.eq_of_beq_eq_true hf];exact join_orc rfl
 rcases jJ ho with ⟨hf,ho⟩ | ho
 ·cases ho;rw [Nat.eq_of_beq_eq_true hf];exact mul_orc rfl
 rcases jJ ho with ⟨hf,ho⟩ | ho
 ·cases ho;rw [Nat.eq_of_beq_eq_true hf];exact both_orc rfl
 cases ho
theorem goodW{o:FuncId→Option Orc}(hO: ∀f h,o f=some h→ @lF (fC o) f h): @Good (fC o):= @Good.mk (fC o) (@Meths.mk (fC o) meth_ok meth_deref) (by kernel_rfl) (fun g k h=>by
  obtain⟨h1,h2⟩:=bE h;cases h2
  exact(show g<12 by simpa using h1)) (fun f hk fn c hf hb=>by
  have hk:oc (T.get vL f) false (fun _=>true)=true:=hk;rw [jR] at hk
  cases ht:T.get vL f with
  | none=>rw [ht] at hk;cases hk
  | some t=>
   have:=T.allP_get (all_valid o) ht;have h: @validF (fC o) f=true:=this;unfold validF at h;rw [show Tryz.prog.funcs[f]?=some fn from hf] at h;have h:oc fn.body true (fun c=> @gD (fC o) f c)=true:=h;rw [hb] at h
   exact h) (fun f h ho=>by
  have ho:oc (o f) (orcX f) some=some h:=ho;rw [jR] at ho
  cases hf:o f with
  | some g=>
   rw [hf] at ho;cases ho;exact hO f _ hf
  | none=>
   rw [hf] at ho
   exact orc_conv (o:=fun _=>none) (orcX_ok f h ho))
instance good : Good := goodW fun _ _ h => by cases h
end X
end Go.Proofs.YtofjmphlpdhohaaGreatDoor
namespace Go.Proofs.YtofjmphlpdhohaaGreatDoor
namespace X
open Go.RowKit
noncomputable section
def o0:FuncId→Option Orc:=fun _=>none
theorem okO0: @Good (fC o0):=good
def text0M:Memo:=((.t [(.g [(.l 80 0 1 (.s 12 1)),(.l 159 0 1 (.s 21 1))]),(.g [(.i .i64 0),(.i .i64 0)])]),[(80,(.cells [(.s [120]),(.i .i64 3),(.l 78 0 1 (.s 11 1))] 171 (some 12) false)),(78,(.cells [(.s [110]),(.i .i64 0)] 175 (some 11) false)),(159,(.cells [(.s []),(.i .i64 7),(.l 157 0 4 (.s 20 4))] 159 (some 21) false)),(157,(.cells [(.i .i64 2),(.i .i64 17),(.i .u8 0),(.s [120]),.l0,(.i .i64 3),(.i .i64 15),(.i .u8 2),(.s []),.l0,(.i .i64 3),(.i .i64 13),(.i .u8 2),(.s []),.l0,(.i .i64 3),(.i .i64 11),(.i .u8 2),(.s []),.l0] 183 (some 20) false))],160,22)
theorem text0R: @memoX (fC o0) 41 3000 [(.s [105,110,32,120,32,110,10,111,117,116,32,45,32,45,32,45,32,120])] rG [80,78,159,157]=some text0M:=by kernel_rfl
def l0_0:List (List V×Memo):=[([(.s [105,110,32,120,32,110,10,111,117,116,32,45,32,45,32,45,32,120])],text0M)]
theorem l0_0_ok: ∀x∈l0_0,∃N D,@memoX (fC o0) 41 N x.1 rG D=some x.2:=List.forall_mem_cons.2 ⟨⟨3000,[80,78,159,157],text0R⟩,fun _ h=>by cases h⟩
def o1:FuncId→Option Orc:=fun f=>sel (Nat.beq f 41) (some (@memoL (fC o0) rG l0_0)) ((o0 f))
theorem okH1: ∀f h,o1 f=some h→ @lF (fC o1) f h:=fun f h ho=>by
 have ho:sel (Nat.beq f 41) (some (@memoL (fC o0) rG l0_0)) ((o0 f))=some h:=ho
 rcases jJ ho with ⟨hf,ho⟩ | ho
 ·cases ho;rw [Nat.eq_of_beq_eq_true hf];exact orc_conv (o:=o0) (@memo_ok (fC o0) okO0 41 rG l0_0 l0_0_ok)
 cases ho
theorem okO1: @Good (fC o1):=goodW okH1
def isTrue:Option (V×St)→Bool
 | some (.b true,_)=>true
 | _=>false
theorem isTrue_ex{q:Option (V×St)}(h:isTrue q=true): ∃s,q=some (.b true,s):=by
 cases q with
 | none=>cases h
 | some q=>
  obtain⟨v,s⟩:=q
  cases v with
  | b x=>
   cases x with
   | true=>exact⟨s,rfl⟩
   | false=>cases h
  | _=>cases h
theorem shown15R:isTrue (@vT (fC o1) 17 (@nW (fC o1) 3000) [] (@wF (fC o1) rG))=true:=by kernel_rfl
end
def LaidX (w:World):Prop:=Lib.TabIs Tryz.prog w "strings.asciiSpace" .u8 Lib.asciiSpaceTab∧(∃m,w.cell? ⟨1,0,none⟩=some (.int .i64 m))∧ ∃t z,w.heap[(0:Nat)]?=some (.cells #[.int .i64 0,.int .i64 (-1)] t z)
theorem base_laid{o:FuncId→Option Orc}{w:World}(h:LaidX w): @Sim (fC o) ⟨fun k=>k,fun _=>0,fun _=>none⟩ (@wF (fC o) rG) w:=by
 obtain⟨h0,⟨m,h1⟩,t2,z2,h2⟩:=h
 have hk: ∀k x,(baseH rG).get k=some x→(k=2∧x= .know 0)∨(k=1∧x= .know 1)∨(k=0∧x= .know 2):=fun k x hx=>by
  obtain⟨m,hm,rfl⟩:=fR hx
  rcases List.mem_cons.1 hm with e | hm
  ·cases e;exact .inl ⟨rfl,rfl⟩
  ·rcases List.mem_cons.1 hm with e | hm
   ·cases e;exact .inr (.inl ⟨rfl,rfl⟩)
   ·rcases List.mem_cons.1 hm with e | hm
    ·cases e;exact .inr (.inr ⟨rfl,rfl⟩)
    ·cases hm
 refine @Sim.mk (fC o) _ _ w (fun g k hg=>?_) (fun k x hx=>?_) (fun k x hx=>?_) (fun k x hx=>?_) (fun k k' x x' _ _ e=>e)
 ·obtain⟨h2,h3⟩:=bE hg;cases h3;exact⟨(show g<12 by simpa using h2),rfl⟩
 ·rcases hk k x hx with ⟨rfl,rfl⟩ | ⟨rfl,rfl⟩ | ⟨rfl,rfl⟩
  ·exact(show(2:Nat)<12 by decide)
  ·exact(show(1:Nat)<12 by decide)
  ·exact(show(0:Nat)<12 by decide)
 ·rcases hk k x hx with ⟨rfl,rfl⟩ | ⟨rfl,rfl⟩ | ⟨rfl,rfl⟩<;>trivial
 ·rcases hk k x hx with ⟨rfl,rfl⟩ | ⟨rfl,rfl⟩ | ⟨rfl,rfl⟩
  ·unfold Lib.TabIs World.var? at h0;rw [show Tryz.prog.globalNamed "strings.asciiSpace" =some 2 by kernel_rfl] at h0;have h0:(match w.heap[2]? with | some (Obj.cells cs _ _)=>some cs | _=>none)=some (Lib.asciiSpaceTab.map fun z=>Value.int .u8 z).toArray:=h0;split at h0
   ·rename_i cs t z hw;cases h0;exact⟨_,hw,t,z,rfl⟩
   ·cases h0
  ·unfold World.cell? at h1;split at h1
   ·rename_i cs t z hw;have hc:cs[0]?=some (.int .i64 m):=h1;refine⟨_,hw,m,cs.toList.tail,t,z,?_⟩
    congr 1
    obtain⟨l⟩:=cs
    cases l with
    | nil=>cases hc
    | cons a r=>
     have:a= .int .i64 m:=by simpa using hc
     rw [this];rfl
   ·cases h1
  ·exact⟨_,h2,t2,z2,rfl⟩
theorem shown15_true{w:World}(h:LaidX w):(callFunc 17 #[]).run Tryz.prog w= .ok (.enter 17 #[]) w∧Calls Tryz.prog 17 #[] w fun e w'=>e= .returned (.bool true)∧Below w.heap.size w w':=by
 obtain⟨s,hs⟩:=isTrue_ex shown15R;exact @ran_true (fC o1) _ _ okO1 _ _ _ _ hs (base_laid h)
end X
end Go.Proofs.YtofjmphlpdhohaaGreatDoor
namespace Go.Proofs.YtofjmphlpdhohaaGreatDoor
open Go.RowKit Go.ChangeShapes
abbrev tO:List (String×DataW Unit):=Rows.planAliveRow.laid
theorem named0:Tryz.prog.globalNamed "strings.asciiSpace" =some 2:=by kernel_rfl
theorem namedN:Tryz.prog.globalNamed "windrow/plan.none" =some 0:=by kernel_rfl
def tP:bF where
 p S w:=(S 2∧S 1∧S 0)∧X.LaidX w
 mono:=fun{S S' w w'} hs ha h=>by
  obtain⟨⟨s0,s4,s9⟩,h0,⟨m,h4⟩,t,z,h9⟩:=h;refine⟨⟨hs _ s0,hs _ s4,hs _ s9⟩,?_,⟨m,?_⟩,t,z,?_⟩
  ·unfold Lib.TabIs World.var? at*;rw [named0] at*;simp only [Option.bind_some,ha _ s0] at*;exact h0
  ·unfold World.cell? at*;rw [ha _ s4];exact h4
  ·rw [ha _ s9];exact h9
theorem none_of{F:List bF}(h:Has F tP):Has F (bF.cells 0 0 [.int .i64 0,.int .i64 (-1)]):=fun S w k=>by
 obtain⟨⟨_,_,s9⟩,_,_,t,z,h9⟩:=h S w k;refine⟨s9,fun j u hj=>?_⟩;unfold World.cell?;rw [h9]
 simpa using hj
theorem tN{P:Program}{W:World}{name:String}{k:IntKind}{zs:List Int}{g:Nat}{t e:TypeId}{n:Nat}
  (hg:P.globalNamed name=some g) (hty:(P.globals[g]?).map (·.type)=some t) (ht:P.underlying t=some (.array n e)) (he:P.underlying e=some (.int k)) (hce:P.cellsOf e=1) (hct:P.cellsOf t=n)
  (h:Lib.VarReads P W name (Lib.tabData k zs)):Lib.TabIs P W name k zs:=by
 obtain⟨g',t',cs,fuel,p,hg',ht',hvar,hd⟩:=h;obtain rfl:=Option.some.inj (hg.symm.trans hg');obtain rfl:=Option.some.inj (hty.symm.trans ht');unfold Lib.TabIs;rw [hvar,←Lib.cells_of_tab ht he hce hct hd]
theorem var_lt{P:Program}{W:World}{name:String}{g:Nat}{cs:Array Value}(hg:P.globalNamed name=some g)(h:W.var? P name=some cs):g<W.heap.size:=by
 unfold World.var? at h;rw [hg] at h;simp only [Option.bind_some] at h
 cases hh:W.heap[g]? with
 | none=>rw [hh] at h;cases h
 | some o=>exact(Array.getElem?_eq_some_iff.1 hh).1
theorem cell_lt'{W:World}{g i:Nat}{v:Value}(h:W.cell? ⟨g,i,none⟩=some v):g<W.heap.size:=by
 unfold World.cell? at h
 cases hh:W.heap[g]? with
 | none=>rw [hh] at h;cases h
 | some o=>exact(Array.getElem?_eq_some_iff.1 hh).1
set_option maxRecDepth 1000000 in
theorem globF_of{W:World}(hL:laidMetH Tryz.prog tO W)(hsh:W.ShapedOpen Tryz.prog):tP.p (fun b=>b<W.heap.size) W:=by
 have hL':laidMet Tryz.prog tO W:=hL;have h0:Lib.TabIs Tryz.prog W "strings.asciiSpace" .u8 Lib.asciiSpaceTab:=tN (t:=370) (e:=5) (n:=256) named0 (by kernel_rfl) Tryz.underlying370 Tryz.underlying5 (by kernel_rfl) (by kernel_rfl)
  (Lib.laidMet.reads hL' (.tail _ (.tail _ (.tail _ (.tail _ (.tail _ (.tail _ (.tail _ (.head _)))))))))
 obtain⟨m,h4⟩:=cell_of_shapedOpen_int (P:=Tryz.prog) (g:=1) (t:=3) (zero:= #[.int .i64 0]) hsh (of_decide_eq_true (by kernel_rfl)) (by kernel_rfl) rfl (by kernel_rfl) (by kernel_rfl) Tryz.underlying3;obtain⟨g',t',cs,fuel,p,hg',ht',hvar,hd⟩:=Lib.laidMet.reads hL' (n:= "windrow/plan.none") (.tail _ (.tail _ (.tail _ (.tail _ (.tail _ (.tail _ (.tail _ (.tail _ (.head _)))))))));obtain rfl:=Option.some.inj (namedN.symm.trans hg');obtain rfl:55=t':=Option.some.inj ((show(Tryz.prog.globals[0]?).map (·.type)=some 55 by kernel_rfl).symm.trans ht');obtain⟨y0,y1,n,ex,hl,q0,q1⟩:=trod_struct2 Tryz.underlying55 hd;have hc:Tryz.prog.cellsOf 55=2:=by kernel_rfl
 have hc1:Tryz.prog.cellsOf 3=1:=by kernel_rfl
 rw [hc] at hl;have ex':Rows.laid_windrow_plan_none=(DataW.agg [y0.1,y1.1]:DataW Unit):=congrArg Prod.fst ex;injection ex' with ex'
 injection ex' with e0 ex'
 injection ex' with e1 _
 obtain⟨l⟩:=cs
 match l,hl with
 | [a,b],_=>
  obtain⟨n0,r0,x0,_⟩:=DataW.trod_int Tryz.underlying3 q0;obtain⟨n1,r1,x1,_⟩:=DataW.trod_int Tryz.underlying3 q1;rw [x0] at e0;rw [x1] at e1;have z0:0=n0:=by injection e0 with e0;injection e0
  have z1: -1=n1:=by injection e1 with e1;injection e1
  subst z0 z1;have r0:[a]=[.int .i64 0]:=r0;have r1:[b]=[.int .i64 (-1)]:=r1;injection r0 with ra
  injection r1 with rb
  subst ra;subst rb;have hN:=var_lt namedN hvar;unfold World.var? at hvar;rw [namedN] at hvar;simp only [Option.bind_some] at hvar;refine⟨⟨var_lt named0 h0,cell_lt' h4,hN⟩,h0,⟨m,h4⟩,?_⟩
  cases hh:W.heap[(0:Nat)]? with
  | none=>rw [hh] at hvar;cases hvar
  | some o=>
   rw [hh] at hvar
   cases o with
   | cells cs t z=>
    simp only [Option.some.injEq] at hvar;subst hvar;exact⟨t,z,rfl⟩
   | _=>cases hvar
theorem pV:fB Tryz.prog 17 [] [] [tP] (fun _:Unit=> .bool true) (fun _=>[]) (fun _=>[]):=oQ fun _ _ _ k=>(X.shown15_true (k tP (List.mem_cons_self ..)).2).2
def flat1:DataW Unit→List Value
 | .lit (.int k n)=>[.int k n]
 | _=>[]
def flat2:DataW Unit→List Value
 | .agg l=>l.flatMap flat1
 | d=>flat1 d
def tD:DataW Unit→Array Value
 | .agg l=>(l.flatMap flat2).toArray
 | _=> #[]
def whiteNums:List Int:=[9,13,1,32,133,101,160,5760,5600,8192,8202,1,8232,8233,1,8239,8287,48,12288,12288,1]
noncomputable def laidWorld (os:Os):World:=
 let N:=(World.settled Tryz.prog os).heap.size
 let w0:=World.holding Tryz.prog os ⟨#[.cells (whiteNums.map fun z=>Value.int .u16 z).toArray 411,.cells #[.slice (some ⟨N,0,none⟩) 7 7,.slice none 0 0,.int .i64 2] 408,
  .cells #[.string ⟨#[118,97,108,117,101,32,111,117,116,32,111,102,32,114,97,110,103,101]⟩] 404,.cells #[.string ⟨#[105,110,118,97,108,105,100,32,115,121,110,116,97,120]⟩] 404],#[],[]⟩
 let put (h:Array Obj) (g:Nat) (cs:Array Value):Array Obj:=h.modify g fun
  | .cells _ t frozen=> .cells cs t frozen
  | o=>o
 let h1:=put w0.heap 9 (tD Rows.laid_math_bits_deBruijn32tab)
 let h2:=put h1 10 (tD Rows.laid_math_bits_deBruijn64tab)
 let h3:=put h2 8 (tD Rows.laid_internal_strconv_uint64pow10)
 let h4:=put h3 7 (tD Rows.laid_unicode_utf8_acceptRanges)
 let h5:=put h4 4 #[.iface 402 (.pointer (some ⟨N+2,0,none⟩))]
 let h6:=put h5 3 #[.iface 402 (.pointer (some ⟨N+3,0,none⟩))]
 let h7:=put h6 5 #[.pointer (some ⟨N+1,0,none⟩)]
 let h8:=put h7 2 (tD Rows.laid_strings_asciiSpace)
 let h9:=put h8 6 (tD Rows.laid_unicode_utf8_first)
 let h10:=put h9 0 (tD Rows.laid_windrow_plan_none)
 {w0 with heap:=h10}
noncomputable abbrev N0:Nat:=(World.settled Tryz.prog default).heap.size
set_option maxRecDepth 1000000 in
theorem piece0(os:Os)(args:Array Value):LaidIn Tryz.prog ((laidWorld os).forCall (fun _ _=>0) ⟨#[],args,[]⟩).memory [("math/bits.deBruijn32tab",Rows.laid_math_bits_deBruijn32tab)] [9]:=
 LaidIn.of_run [9] 10 (by kernel_rfl) (by kernel_rfl) (by kernel_rfl) (by kernel_rfl)
set_option maxRecDepth 1000000 in
theorem piece1(os:Os)(args:Array Value):LaidIn Tryz.prog ((laidWorld os).forCall (fun _ _=>0) ⟨#[],args,[]⟩).memory [("math/bits.deBruijn64tab",Rows.laid_math_bits_deBruijn64tab)] [10]:=
 LaidIn.of_run [10] 10 (by kernel_rfl) (by kernel_rfl) (by kernel_rfl) (by kernel_rfl)
set_option maxRecDepth 1000000 in
theorem piece2(os:Os)(args:Array Value):LaidIn Tryz.prog ((laidWorld os).forCall (fun _ _=>0) ⟨#[],args,[]⟩).memory [("internal/strconv.uint64pow10",Rows.laid_internal_strconv_uint64pow10)] [8]:=
 LaidIn.of_run [8] 10 (by kernel_rfl) (by kernel_rfl) (by kernel_rfl) (by kernel_rfl)
set_option maxRecDepth 1000000 in
theorem piece3(os:Os)(args:Array Value):LaidIn Tryz.prog ((laidWorld os).forCall (fun _ _=>0) ⟨#[],args,[]⟩).memory [("unicode/utf8.acceptRanges",Rows.laid_unicode_utf8_acceptRanges)] [7]:=
 LaidIn.of_run [7] 10 (by kernel_rfl) (by kernel_rfl) (by kernel_rfl) (by kernel_rfl)
set_option maxRecDepth 1000000 in
theorem piece4(os:Os)(args:Array Value):LaidIn Tryz.prog ((laidWorld os).forCall (fun _ _=>0) ⟨#[],args,[]⟩).memory [("strconv.ErrRange",Rows.laid_strconv_ErrRange)] [4,N0+2]:=
 LaidIn.of_run [4,N0+2] 10 (by kernel_rfl) (by kernel_rfl) (by kernel_rfl) (by kernel_rfl)
set_option maxRecDepth 1000000 in
theorem piece5(os:Os)(args:Array Value):LaidIn Tryz.prog ((laidWorld os).forCall (fun _ _=>0) ⟨#[],args,[]⟩).memory [("strconv.ErrSyntax",Rows.laid_strconv_ErrSyntax)] [3,N0+3]:=
 LaidIn.of_run [3,N0+3] 10 (by kernel_rfl) (by kernel_rfl) (by kernel_rfl) (by kernel_rfl)
set_option maxRecDepth 1000000 in
theorem piece6(os:Os)(args:Array Value):LaidIn Tryz.prog ((laidWorld os).forCall (fun _ _=>0) ⟨#[],args,[]⟩).memory [("unicode.White_Space",Rows.laid_unicode_White_Space)] [5,N0,N0+1]:=
 LaidIn.of_run [5,N0,N0+1] 10 (by kernel_rfl) (by kernel_rfl) (by kernel_rfl) (by kernel_rfl)
set_option maxRecDepth 1000000 in
theorem piece7(os:Os)(args:Array Value):LaidIn Tryz.prog ((laidWorld os).forCall (fun _ _=>0) ⟨#[],args,[]⟩).memory [("strings.asciiSpace",Rows.laid_strings_asciiSpace)] [2]:=
 LaidIn.of_run [2] 10 (by kernel_rfl) (by kernel_rfl) (by kernel_rfl) (by kernel_rfl)
set_option maxRecDepth 1000000 in
theorem piece8(os:Os)(args:Array Value):LaidIn Tryz.prog ((laidWorld os).forCall (fun _ _=>0) ⟨#[],args,[]⟩).memory [("unicode/utf8.first",Rows.laid_unicode_utf8_first)] [6]:=
 LaidIn.of_run [6] 10 (by kernel_rfl) (by kernel_rfl) (by kernel_rfl) (by kernel_rfl)
set_option maxRecDepth 1000000 in
theorem pieceN(os:Os)(args:Array Value):LaidIn Tryz.prog ((laidWorld os).forCall (fun _ _=>0) ⟨#[],args,[]⟩).memory [("windrow/plan.none",Rows.laid_windrow_plan_none)] [0]:=
 LaidIn.of_run [0] 10 (by kernel_rfl) (by kernel_rfl) (by kernel_rfl) (by kernel_rfl)
set_option maxRecDepth 1000000 in
theorem laid_met(os:Os)(args:Array Value):laidMet Tryz.prog tO ((laidWorld os).forCall (fun _ _=>0) ⟨#[],args,[]⟩).memory:=
 ((((((((((piece0 os args).append (piece1 os args) (by kernel_rfl)).append (piece2 os args) (by kernel_rfl)).append (piece3 os args) (by kernel_rfl)).append (piece4 os args) (by kernel_rfl)).append (piece5 os args) (by kernel_rfl)).append (piece6 os args) (by kernel_rfl)).append (piece7 os args) (by kernel_rfl)).append (pieceN os args) (by kernel_rfl)).append (piece8 os args) (by kernel_rfl)).met
end Go.Proofs.YtofjmphlpdhohaaGreatDoor
namespace Go.Proofs.YtofjmphlpdhohaaGreatDoor
open Go.RowKit Go.ChangeShapes Go.WideShapes
section
variable {H : Type} {enc : TypeId × Value → H} {P : Program}
theorem oD(hl:laidOutB P=true){W W':World}(hb:Below W.heap.size W W'): ∀{ts:List TypeId} {vs:List Value} {ds:List (DataW H)} {ps:List MemPlace},
  (∀t∈ts,P.readableRec t=true∧t<P.types.size)→(∀x∈ps,x.block<W.heap.size)→DataW.TrodAll enc P W 0 (fun _=>true) true ts vs ds ps→
  DataW.TrodAll enc P W' 0 (fun b=>decide (b<W.heap.size)) true ts vs ds ps
 | [],_,_,_,_,_,h=>by
  obtain⟨rfl,rfl,rfl⟩:=trodAll_nil h;exact trodAll_mk0
 | t::ts,_,_,_,ht,hlt,h=>by
  obtain⟨v,vs,d,ds,p,q,rfl,rfl,rfl,h1,h2⟩:=trodAll_cons h;have hr:=ht t (by simp);exact trodAll_cons_mk (Below.trod hl hr.1 hr.2 h1 hb (fun x hx=>hlt x (by simp [hx]))) (oD hl hb (fun t h=>ht t (by simp [h])) (fun x hx=>hlt x (by simp [hx])) h2)
theorem law_post{f:Func}{s:ChangeSpec}{W W':World}{args:Array Value}{ds:List (DataW H)}{before:List MemPlace}{tb:TypeId}
  (hW:DataW.Whole enc P f.params.toList s.vars false W args.toList ds [] before) (hv:s.vars=[]) (hfn:s.fn H (ds++[])={results:=[.lit (.bool true)],args:=ds})
  (hr:f.resultTypes= #[tb]) (hb:P.underlying tb=some .bool) (hl:laidOutB P=true) (hread: ∀t∈f.params.toList,P.readableRec t=true∧t<P.types.size) (h:Below W.heap.size W W'):
  s.post enc P f false true false false W args (.bool true) W':=by
 have hlt: ∀p∈before,p.block<W.heap.size:=fun p hp=>hW.lt p hp;have hW':=hW;obtain⟨p,q,hA,hV,rfl,_,_⟩:=hW;rw [hv] at hV;have hq:q=[]:=hV;subst hq;refine⟨ds,[],_,[],p,[],hW',?_,?_,?_,?_,fun h=>by cases h⟩
 ·rw [hfn,hr];exact trodAll_mk1 (shut_bool hb true)
 ·rw [hfn];exact oD hl h hread (fun x hx=>hlt x (by simp [hx])) hA
 ·rw [hfn,hv];rfl
 ·exact h.frame _
end
theorem uR{ι:Type}{f:FuncId}{args:List Value}{Pre:List bF}{v:Value}(h:fB Tryz.prog f args [] Pre (fun _:ι=>v) (fun _=>[]) (fun _=>[])){w:World}(hp:All Pre (fun b=>b<w.heap.size) w):
  Calls Tryz.prog f args.toArray w fun e w'=>e= .returned v∧Below w.heap.size w w':=by
 refine(h (fun b=>b<w.heap.size) w ⟨iM.refl _ _,fun c hc=>by simp at hc,fun c hc=>by simp at hc,List.Pairwise.nil,fun b hb=>⟨hb,.inl hb⟩⟩ hp).mono ?_;rintro e w' ⟨_,_,rfl,s,_⟩;refine⟨rfl,s.kept.os,s.kept.tape,s.kept.output,s.kept.size,fun k hk=>s.kept.block k hk fun⟨c,hc,_⟩=>by simp at hc⟩
theorem own:ownKnob Tryz.prog.godebug=none:=by kernel_rfl
theorem laid:laidOutB Tryz.prog=true:=by kernel_rfl
end Go.Proofs.YtofjmphlpdhohaaGreatDoor
namespace Go.Proofs.YtofjmphlpdhohaaGreatDoor
open Go.RowKit
set_option maxRecDepth 100000
def rM (m:Mono):Bool:=decide (m.n<0)
def kV (p:List Mono):Bool:=cN p&& !(p.any rM)
set_option maxHeartbeats 400000 in
theorem neg_any(m:Mono)(w:World):Calls Tryz.prog 167 #[.agg #[.int .i64 m.n,.int .u8 m.e0.toNat,.int .u8 m.e1.toNat,.int .u8 m.e2.toNat,.int .u8 m.e3.toNat,.int .u8 m.e4.toNat,.int .u8 m.e5.toNat]] w fun e w'=>e= .returned (.bool (rM m))∧Below w.heap.size w w':=by
 go_enter Tryz.func167,Tryz.ntmps167
 go_wp2
 go_ret
 exact⟨rfl,by go_grown⟩
def IdxPost(w:World)(b:Bool)(e:Ending)(w':World):Prop:= ∃i:Int,e= .returned (.int .i64 i)∧decide (0≤i)=b∧Below w.heap.size w w'
set_option maxRecDepth 100000 in
set_option maxHeartbeats 1000000 in
theorem index_any(A:Option Addr)(c:Nat)(xs:List Mono)(w:World)(ha:fW w A xs)(hx:xs.length≤140737488355328):
  Calls Tryz.prog 225 #[.slice A xs.length c,.func (.func 167) #[] #[]] w (IdxPost w (xs.any rM)):=by
 have Ha:=Lib.hid ha;clear ha
 go_enter Tryz.func225,Tryz.ntmps225
 go_wp2
 go_loopw [8] (fun i wr=> ∃k:Nat,k≤xs.length∧i= .int .i64 k∧Hid (xs.any rM=(xs.drop k).any rM)∧Below w.heap.size w wr) (fun i _=>xs.length-(intOf i).toNat)
 case atStart=>exact⟨0,Nat.zero_le _,rfl,rfl,Below.refl _ _⟩
 case round=>
  obtain⟨k,hk,rfl,hs,hbl⟩:=hrel
  by_cases hlt:k<xs.length
  ·obtain⟨m,hm,dm⟩:=jG hlt;obtain⟨b,o,rfl,hB,c0,c1,c2,c3,c4,c5,c6⟩:=Ha.out.below hbl k m hm;have HS:=Lib.hid (show xs.any rM=(rM m || (xs.drop (k+1)).any rM) by rw [hs.out,dm,List.any_cons]);have HBL:=Lib.hid hbl;clear hs hm dm hB hbl
   go_wp2_with (go_at_call 167;refine(neg_any m _).mono ?_;rintro e w1 ⟨rfl,hb1⟩)
   ·have hng:rM m=true:=by assumption
    go_ret
    exact⟨k,rfl,by rw [HS.out,hng,Bool.true_or];simp,HBL.out.trans (hb1.mono HBL.out.size)⟩
   ·have hng:rM m=false:=by assumption
    go_roundw
    case rel=>exact⟨k+1,by omega,by go_num,(by show _=_;rw [HS.out,hng,Bool.false_or]),HBL.out.trans (hb1.mono HBL.out.size)⟩
    case measure=>simp [intOf];omega
  ·have HS:=Lib.hid (show xs.any rM=false by rw [hs.out,List.drop_of_length_le (by omega)];rfl);clear hs
   go_wp2
   go_ret
   exact⟨-1,rfl,by rw [HS.out];rfl,hbl⟩
set_option maxHeartbeats 400000 in
theorem contains_any(A:Option Addr)(c:Nat)(xs:List Mono)(w:World)(ha:fW w A xs)(hx:xs.length≤140737488355328):
  Calls Tryz.prog 166 #[.slice A xs.length c,.func (.func 167) #[] #[]] w fun e w'=>e= .returned (.bool (xs.any rM))∧Below w.heap.size w w':=by
 have Ha:=Lib.hid ha;clear ha
 go_enter Tryz.func166,Tryz.ntmps166
 go_wp2_with fail
 refine(index_any A c xs _ Ha.out hx).mono ?_;rintro e w1 ⟨i,rfl,hi,hb1⟩;have Hi:=Lib.hid hi;clear hi
 go_wp2
 go_ret
 exact⟨iS Hi.out,hb1⟩
set_option maxHeartbeats 400000 in
theorem grows_any(A:Option Addr)(c:Nat)(xs:List Mono)(w:World)(ha:fW w A xs)(hx:xs.length≤140737488355328):
  Calls Tryz.prog 108 #[.slice A xs.length c] w fun e w'=>e= .returned (.bool (kV xs))∧Below w.heap.size w w':=by
 have Ha:=Lib.hid ha;clear ha;cases hr:cN xs
 ·go_enter Tryz.func108,Tryz.ntmps108
  go_wp2_with fail
  refine(cX A c xs _ Ha.out hx).mono ?_;rintro e w1 ⟨rfl,hb1⟩
  go_wp2
  go_ret
  exact⟨iS (by unfold kV;rw [hr];rfl),hb1⟩
 ·go_enter Tryz.func108,Tryz.ntmps108
  go_wp2_with fail
  refine(cX A c xs _ Ha.out hx).mono ?_;rintro e w1 ⟨rfl,hb1⟩;have H1:=Lib.hid hb1;clear hb1
  go_wp2_with fail
  refine(contains_any A c xs _ (Ha.out.below H1.out) hx).mono ?_;rintro e w2 ⟨rfl,hb2⟩;have H2:=Lib.hid (H1.out.trans (hb2.mono H1.out.size));clear hb2
  go_wp2
  go_ret
  exact⟨iS (by unfold kV;rw [hr,Bool.true_and]),H2.out⟩
end Go.Proofs.YtofjmphlpdhohaaGreatDoor
namespace Go.Proofs.YtofjmphlpdhohaaGreatDoor
open Go.RowKit
def monoE:Flat Mono where
 size:=7
 cells:=Mono.cells
 len:=fun _=>rfl
 one:=fun x u hu=>by
  simp [Mono.cells] at hu
  rcases hu with rfl | rfl | rfl | rfl | rfl | rfl | rfl<;>rfl
 pos:=by decide
theorem monos_of{S:fU}{w:World}{A:Option Addr}{k c:Nat}{l:List Mono}(hS: ∀b,S b→b<w.heap.size)(h:(monoE.sl (.slice A k c) l).p S w):fW w A l∧k=l.length:=by
 obtain⟨A',cap,e,h⟩:=h;injection e with e1 e2 e3
 subst e1 e2;refine⟨fun k m hk=>?_,rfl⟩;obtain⟨b,o,cs,e1,e2,e3,e4⟩:=h k m hk;have e4:cs=m.cells:=e4;subst e4;exact⟨b,o,e1,hS b e2,e3 0 _ rfl,e3 1 _ rfl,e3 2 _ rfl,e3 3 _ rfl,e3 4 _ rfl,e3 5 _ rfl,e3 6 _ rfl⟩
abbrev jY:=Sl Mono
def qE (p:jY):bF:=(monoE.sl (.slice p.addr p.list.length p.cap) p.list).and (bF.pure (p.list.length≤140737488355328))
section
variable (p : jY)
theorem sQ{p:jY}{S:fU}{w:World}(hS: ∀b,S b→b<w.heap.size)(h:(qE p).p S w):fW w p.addr p.list:=(monos_of hS h.1).1
theorem sZ(hp:p.list.length≤140737488355328):fB Tryz.prog 108 [.slice p.addr p.list.length p.cap] [] [qE p] (fun _:Unit=> .bool (kV p.list)) (fun _=>[]) (fun _=>[]):=
 oQ fun _ w hS h=>grows_any _ _ _ w (sQ hS (h _ (.head _))) hp
theorem polR_spec(hp:p.list.length≤140737488355328):fB Tryz.prog 61 [.slice p.addr p.list.length p.cap] [] [qE p] (fun _:Unit=> .bool (cN p.list)) (fun _=>[]) (fun _=>[]):=
 oQ fun _ w hS h=>cX _ _ _ w (sQ hS (h _ (.head _))) hp
end
end Go.Proofs.YtofjmphlpdhohaaGreatDoor
namespace Go.Proofs.YtofjmphlpdhohaaGreatDoor
open Go.RowKit Go.ChangeShapes Go.WideShapes
def polsE:Flat jY:=slE Mono
def gM:Flat Bool where
 size:=1
 cells:=fun x=>[.bool x]
 len:=fun _=>rfl
 one:=fun x u hu=>by simp at hu;subst hu;rfl
 pos:=by decide
structure OpV where
 how:Int
 k:Int
 n:Int
 p:jY
 fn:Int
 deriving Inhabited
def opE:Flat OpV where
 size:=5
 cells:=fun x=>[.int .i64 x.how,.int .i64 x.k,.int .i64 x.n,.slice x.p.addr x.p.list.length x.p.cap,.int .u8 x.fn]
 len:=fun _=>rfl
 one:=fun x u hu=>by
  simp at hu
  rcases hu with rfl | rfl | rfl | rfl | rfl<;>rfl
 pos:=by decide
structure iJ where
 sides:(Sl jY)
 input:Int
 deriving Inhabited
def bufE:Flat iJ where
 size:=2
 cells:=fun x=>[.slice x.sides.addr x.sides.list.length x.sides.cap,.int .i64 x.input]
 len:=fun _=>rfl
 one:=fun x u hu=>by
  simp at hu
  rcases hu with rfl | rfl<;>rfl
 pos:=by decide
structure fF where
 how:Int
 buf:Int
 at_:jY
 loops:(Sl jY)
 fn:Int
 ops:(Sl OpV)
 deriving Inhabited
def uF:Flat fF where
 size:=6
 cells:=fun x=>[.int .i64 x.how,.int .i64 x.buf,.slice x.at_.addr x.at_.list.length x.at_.cap,.slice x.loops.addr x.loops.list.length x.loops.cap,.int .u8 x.fn,.slice x.ops.addr x.ops.list.length x.ops.cap]
 len:=fun _=>rfl
 one:=fun x u hu=>by
  simp at hu
  rcases hu with rfl | rfl | rfl | rfl | rfl | rfl<;>rfl
 pos:=by decide
structure iG where
 vars:Int
 bufs:(Sl iJ)
 steps:(Sl fF)
 outs:(Sl Int)
 deriving Inhabited
def coreE:Flat iG where
 size:=4
 cells:=fun x=>[.int .i64 x.vars,.slice x.bufs.addr x.bufs.list.length x.bufs.cap,.slice x.steps.addr x.steps.list.length x.steps.cap,.slice x.outs.addr x.outs.list.length x.outs.cap]
 len:=fun _=>rfl
 one:=fun x u hu=>by
  simp at hu
  rcases hu with rfl | rfl | rfl | rfl<;>rfl
 pos:=by decide
structure cH where
 from_:Int
 to_:Int
 deriving Inhabited
def fP:Flat cH where
 size:=2
 cells:=fun x=>[.int .i64 x.from_,.int .i64 x.to_]
 len:=fun _=>rfl
 one:=fun x u hu=>by
  simp at hu
  rcases hu with rfl | rfl<;>rfl
 pos:=by decide
def coreT:Tab:=[(3,⟨.int .i64,1⟩),(2,⟨.int .i64,1⟩),(5,⟨.int .u8,1⟩),(4,⟨.bool,1⟩),(37,⟨.int .u8,1⟩),(31,⟨.int .i64,1⟩),(35,⟨.slice 45,1⟩),(36,⟨.slice 35,1⟩),(42,⟨.struct [(3,0),(3,1),(2,2),(35,3),(37,4)],5⟩),(38,⟨.slice 42,1⟩),(47,⟨.struct [(36,0),(3,1)],2⟩),(22,⟨.slice 47,1⟩),(40,⟨.struct [(3,0),(3,1),(35,2),(36,3),(37,4),(38,5)],6⟩),(23,⟨.slice 40,1⟩),(24,⟨.slice 3,1⟩),(51,⟨.slice 4,1⟩),(26,⟨.struct [(3,0),(22,1),(23,2),(24,3)],4⟩),(55,⟨.struct [(3,0),(3,1)],2⟩),(48,⟨.slice 55,1⟩),(115,⟨.struct [(3,0),(3,1),(3,2),(51,3)],4⟩),(112,⟨.array 64 4,64⟩),(45,⟨.struct [(2,0),(43,1)],7⟩),(43,⟨.array 6 5,6⟩),(258,⟨.slice 5,1⟩),(206,⟨.int .u64,1⟩),(113,⟨.other,1⟩),(202,⟨.other,1⟩),(119,⟨.other,1⟩)]
theorem cL:cS Tryz.prog coreT:=uA.ok
 ⟨⟨by rw [Tryz.underlying3];rfl,by kernel_rfl⟩,
  ⟨by rw [Tryz.underlying2];rfl,by kernel_rfl⟩,
  ⟨by rw [Tryz.underlying5];rfl,by kernel_rfl⟩,
  ⟨by rw [Tryz.underlying4];rfl,by kernel_rfl⟩,
  ⟨by rw [Tryz.underlying37];rfl,by kernel_rfl⟩,
  ⟨by rw [Tryz.underlying31];rfl,by kernel_rfl⟩,
  ⟨by rw [Tryz.underlying35];rfl,by kernel_rfl⟩,
  ⟨by rw [Tryz.underlying36];rfl,by kernel_rfl⟩,
  ⟨by rw [Tryz.underlying42];rfl,by kernel_rfl⟩,
  ⟨by rw [Tryz.underlying38];rfl,by kernel_rfl⟩,
  ⟨by rw [Tryz.underlying47];rfl,by kernel_rfl⟩,
  ⟨by rw [Tryz.underlying22];rfl,by kernel_rfl⟩,
  ⟨by rw [Tryz.underlying40];rfl,by kernel_rfl⟩,
  ⟨by rw [Tryz.underlying23];rfl,by kernel_rfl⟩,
  ⟨by rw [Tryz.underlying24];rfl,by kernel_rfl⟩,
  ⟨by rw [Tryz.underlying51];rfl,by kernel_rfl⟩,
  ⟨by rw [Tryz.underlying26];rfl,by kernel_rfl⟩,
  ⟨by rw [Tryz.underlying55];rfl,by kernel_rfl⟩,
  ⟨by rw [Tryz.underlying48];rfl,by kernel_rfl⟩,
  ⟨by rw [Tryz.underlying115];rfl,by kernel_rfl⟩,
  ⟨by rw [Tryz.underlying112];rfl,by kernel_rfl⟩,
  ⟨by rw [Tryz.underlying45];rfl,by kernel_rfl⟩,
  ⟨by rw [Tryz.underlying43];rfl,by kernel_rfl⟩,
  ⟨by rw [Tryz.underlying258];rfl,by kernel_rfl⟩,
  ⟨by rw [Tryz.underlying206];rfl,by kernel_rfl⟩,
  ⟨by rw [Tryz.underlying113];rfl,by kernel_rfl⟩,
  ⟨by rw [Tryz.underlying202];rfl,by kernel_rfl⟩,
  ⟨by rw [Tryz.underlying119];rfl,by kernel_rfl⟩,trivial⟩
end Go.Proofs.YtofjmphlpdhohaaGreatDoor
namespace Go.Proofs.YtofjmphlpdhohaaGreatDoor
open Go.RowKit
instance : DecidableEq Mono := fun a b => decidable_of_iff (a.eqB b = true) (Mono.eqB_iff a b)
structure OpC where
 how:Int
 k:Int
 n:Int
 p:List Mono
 fn:Int
 deriving DecidableEq
structure nE where
 sides:List (List Mono)
 input:Int
 deriving DecidableEq
structure fX where
 how:Int
 buf:Int
 at_:List Mono
 loops:List (List Mono)
 fn:Int
 ops:List OpC
 deriving DecidableEq
structure lG where
 vars:Int
 bufs:List nE
 steps:List fX
 outs:List Int
 deriving DecidableEq
structure LifeC where
 from_:Int
 to_:Int
 deriving DecidableEq
def gT (f:Int)(two:Bool):Bool:=if f<1∨17<f then false else if f=16 then !two else two || decide (f≤7)
def cI (h:Int):Int:=if h=1∨h=2∨h=3 then 0 else if h=4∨h=5 then 1 else if h=6 then 2 else-1
def pE:List OpC→Int→Int→Int
 | [],most,now=>if now=1 then most else-1
 | o::r,most,now=>if cI o.how<0∨now<cI o.how then-1 else pE r (max most (now+(1-cI o.how))) (now+(1-cI o.how))
def qR (l:List OpC):Int:=pE l 0 0
def clampK(vars:Int):Nat:=(min (max vars 0) 6).toNat
def ofB (p:List Mono)(vars:Int):Bool:=p.all (fun m=>(m.E.drop (clampK vars)).all (fun e=>e==0))&&cN p
def iD (l:List (List Mono))(vars:Int):Bool:=l.all (fun p=>ofB p vars&&kV p)&&decide (l.length≤4)
def opB (vars loops buf:Int)(made:List Bool)(o:OpC):Bool:=
 if o.how=1 then o.k==0&&(o.p.isEmpty&&o.fn==0)
 else if o.how=2 then ofB o.p vars&&(o.n==0&&(o.k==0&&o.fn==0))
 else if o.how=3 then decide (0≤o.k∧o.k<loops)&&(o.n==0&&(o.p.isEmpty&&o.fn==0))
 else if o.how=4 then decide (0≤o.k∧o.k≠buf)&&(made.getD o.k.toNat false&&(o.n==0&&(o.p.isEmpty&&o.fn==0)))
 else if o.how=5∨o.how=6 then gT o.fn (o.how==6)&&(o.n==0&&(o.k==0&&o.p.isEmpty))
 else false
def kG (vars:Int)(made:List Bool)(x:fX):Bool:=
 (ofB x.at_ vars&&kV x.at_)&&(iD x.loops vars&&(decide (x.ops.length≤256)&&(decide (0≤qR x.ops)&&
  ((if x.how=1 then x.fn==0 else if x.how=2∨x.how=3 then !x.loops.isEmpty&&gT x.fn true else false)&&x.ops.all (opB vars x.loops.length x.buf made)))))
def qA (vars:Int):List nE→List Int→Bool
 | [],_=>true
 | b::r,seen=>iD b.sides vars&&(decide (-1≤b.input∧b.input<64)&&(!(seen.contains b.input)&&qA vars r (if 0≤b.input then b.input::seen else seen)))
def iX (vars:Int)(bufs:List nE):List fX→List Bool→Bool
 | [],_=>true
 | x::r,made=>(decide (0≤x.buf)&&(match bufs[x.buf.toNat]? with
   | some b=>decide (b.input<0)
   | none=>false))&&(kG vars made x&&iX vars bufs r (made.set x.buf.toNat true))
def kF (bufs:List nE):List Bool:=bufs.map fun b=>decide (0≤b.input)
def dV (c:lG):Bool:=
 decide (0≤c.vars∧c.vars≤6∧c.bufs.length≤1024∧c.steps.length≤1024∧c.outs.length≤64)&&(qA c.vars c.bufs []&&(iX c.vars c.bufs c.steps (kF c.bufs)&&c.outs.all fun k=>decide (0≤k∧k<c.bufs.length)))
def iZ (l:List OpC):List Nat:=l.filterMap fun o=>if o.how=4 then some o.k.toNat else none
def dD (i:Int)(l:List LifeC)(k:Nat):List LifeC:=l.modify k fun x=>{x with to_:=i}
def nL (i:Int)(l:List LifeC)(k:Nat):List LifeC:=l.modify k fun x=>{x with from_:=i}
def dG (i:Int)(x:fX)(s:List LifeC×List Bool):List LifeC×List Bool:=
 (dD i (if s.2.getD x.buf.toNat false=true then (iZ x.ops).foldl (dD i) s.1 else nL i ((iZ x.ops).foldl (dD i) s.1) x.buf.toNat) x.buf.toNat,s.2.set x.buf.toNat true)
def liveGo:Int→List fX→List LifeC×List Bool→List LifeC×List Bool
 | _,[],s=>s
 | i,x::r,s=>liveGo (i+1) r (dG i x s)
def lifeAt(outs:List Int):Nat→List nE→List LifeC
 | _,[]=>[]
 | k,b::r=>⟨if 0≤b.input∨outs.contains (k:Int)=true then-1 else 0,-1⟩::lifeAt outs (k+1) r
def livesC(c:lG):List LifeC:=(c.outs.map Int.toNat).foldl (dD c.steps.length) (liveGo 0 c.steps (lifeAt c.outs 0 c.bufs,List.replicate c.bufs.length false)).1
section
variable {i j : Int} {l : List LifeC} {k b : Nat}
theorem vU:(dD i l k).length=l.length:=List.length_modify ..
theorem setFrom_len:(nL i l k).length=l.length:=List.length_modify ..
theorem vV:(dD i l k)[b]?=(l[b]?).map fun x=>if k=b then {x with to_:=i} else x:=by
 unfold dD;rw [List.getElem?_modify]
 by_cases h:k=b
 ·simp [h]
 ·simp [h]
theorem setFrom_get:(nL i l k)[b]?=(l[b]?).map fun x=>if k=b then {x with from_:=i} else x:=by
 unfold nL;rw [List.getElem?_modify]
 by_cases h:k=b
 ·simp [h]
 ·simp [h]
theorem gQ: ∀(ks:List Nat) (l:List LifeC),(ks.foldl (dD i) l)[b]?=(l[b]?).map fun x=>if b∈ks then {x with to_:=i} else x
 | [],l=>by simp
 | k::ks,l=>by
  rw [List.foldl_cons,gQ ks,vV,Option.map_map]
  congr 1
  funext x
  by_cases h1:k=b
  ·subst h1
   by_cases h2:k∈ks<;>simp [h2]
  ·by_cases h2:b∈ks
   ·simp [h1,h2]
   ·have: ¬b=k:=fun e=>h1 e.symm;simp [h1,h2,this]
theorem jH: ∀(ks:List Nat) (l:List LifeC),(ks.foldl (dD i) l).length=l.length
 | [],_=>rfl
 | k::ks,l=>by rw [List.foldl_cons,jH ks,vU]
end
theorem hI{i:Int}{x:fX}{s:List LifeC×List Bool}{b:Nat}{y:LifeC}(hy:s.1[b]?=some y):(dG i x s).1[b]?=some ⟨if x.buf.toNat=b∧s.2.getD b false=false then i else y.from_,if x.buf.toNat=b∨b∈iZ x.ops then i else y.to_⟩:=by
 unfold dG;simp only;rw [vV]
 by_cases hm:s.2.getD x.buf.toNat false=true
 ·rw [if_pos hm,gQ,hy];simp only [Option.map_some]
  congr 1
  by_cases h1:x.buf.toNat=b
  ·subst h1;simp only [true_and,true_or,if_true,hm,Bool.true_eq_false,if_false]
   by_cases h2:x.buf.toNat∈iZ x.ops<;>simp [h2]
  ·by_cases h2:b∈iZ x.ops<;>simp [h1,h2]
 ·rw [if_neg hm,setFrom_get,gQ,hy];have hm:s.2.getD x.buf.toNat false=false:=by simpa using hm
  simp only [Option.map_some]
  congr 1
  by_cases h1:x.buf.toNat=b
  ·subst h1;simp only [true_and,true_or,if_true,hm]
  ·by_cases h2:b∈iZ x.ops<;>simp [h1,h2]
theorem gF{i:Int}{x:fX}{s:List LifeC×List Bool}:(dG i x s).1.length=s.1.length:=by
 unfold dG;simp only;rw [vU];split
 ·rw [jH]
 ·rw [setFrom_len,jH]
theorem oI: ∀{r:List fX} {i:Int} {s:List LifeC×List Bool} {b:Nat} {y:LifeC},s.1[b]?=some y→b<s.2.length→ ∃z,(liveGo i r s).1[b]?=some z∧(s.2.getD b false=true→z.from_=y.from_)∧((∀x∈r,x.buf.toNat≠b)→z.from_=y.from_)∧(z.to_=y.to_∨i≤z.to_)
 | [],i,s,b,y,hy,hb=>⟨y,hy,fun _=>rfl,fun _=>rfl,.inl rfl⟩
 | x::r,i,s,b,y,hy,hb=>by
  have hb':b<(dG i x s).2.length:=by
   unfold dG
   simpa using hb
  obtain⟨z,h1,h2,h3,h4⟩:=oI (r:=r) (i:=i+1) (hI (i:=i) (x:=x) hy) hb';refine⟨z,h1,fun hm=>?_,fun hx=>?_,?_⟩
  ·have hm':(dG i x s).2.getD b false=true:=by
    unfold dG;simp only [List.getD_eq_getElem?_getD] at hm⊢;rw [List.getElem?_set];split
    ·rename_i e;rw [if_pos (by rw [e];exact hb)];rfl
    ·exact hm
   rw [h2 hm',if_neg (fun h=>by rw [hm] at h;exact absurd h.2 (by simp))]
  ·rw [h3 fun y hy=>hx y (List.mem_cons_of_mem _ hy),if_neg (fun h=>hx x (List.mem_cons_self ..) h.1)]
  ·rcases h4 with h4 | h4
   ·by_cases hc:x.buf.toNat=b∨b∈iZ x.ops
    ·rw [if_pos hc] at h4;have h4:z.to_=i:=h4;exact .inr (by omega)
    ·rw [if_neg hc] at h4;exact .inl h4
   ·exact .inr (by omega)
def AliveAt(l:List LifeC)(i:Int)(x:fX):Prop:=
 (∃y,l[x.buf.toNat]?=some y∧y.from_≤i∧i≤y.to_)∧ ∀k∈iZ x.ops,∃y,l[k]?=some y∧y.from_<i∧i≤y.to_
theorem alive_go{vars:Int}{bufs:List nE}: ∀{r:List fX} {made:List Bool} {i:Int} {s:List LifeC×List Bool},iX vars bufs r made=true→0≤i→s.1.length=bufs.length→s.2.length=bufs.length→made.length=bufs.length→
  (∀(b:Nat) (y:LifeC),s.1[b]?=some y→made.getD b false=true→y.from_<i)→(∀b:Nat,made.getD b false=true→s.2.getD b false=true∨ ∃u,bufs[b]?=some u∧0≤u.input)→(∀(b:Nat) (y:LifeC),s.1[b]?=some y→y.from_<i+1)→
  ∀(n:Nat) (x:fX),r[n]?=some x→AliveAt (liveGo i r s).1 (i+n) x
 | [],_,_,_,_,_,_,_,_,_,_,_,n,x,hx=>by cases hx
 | x0::r,made,i,s,h,hi,h1,h2,h3,ha,hb,hc,n,x,hx=>by
  rw [iX,Bool.and_eq_true,Bool.and_eq_true] at h;obtain⟨⟨h4,h5⟩,h6⟩:=h;rw [Bool.and_eq_true] at h6;obtain⟨h7,h8⟩:=h6
  obtain⟨u0,hu0,hin⟩: ∃u,bufs[x0.buf.toNat]?=some u∧u.input<0:=by
   cases hb0:bufs[x0.buf.toNat]? with
   | none=>rw [hb0] at h5;cases h5
   | some u=>rw [hb0] at h5;exact⟨u,rfl,by simpa using h5⟩
  have hlt:x0.buf.toNat<bufs.length:=(List.getElem?_eq_some_iff.1 hu0).1;have hs2:(dG i x0 s).2=s.2.set x0.buf.toNat true:=rfl
  have later: ∀x∈r,∃u,bufs[x.buf.toNat]?=some u∧u.input<0:=by
   clear ha hb hc h1 h2 h3 h7 hx;generalize made.set x0.buf.toNat true=m at h8
   revert m
   induction r with
   | nil=>intro m _ x hx;cases hx
   | cons y r ih=>
    intro m hm x hx;rw [iX,Bool.and_eq_true,Bool.and_eq_true,Bool.and_eq_true] at hm
    rcases List.mem_cons.1 hx with rfl | hx
    ·cases hb0:bufs[x.buf.toNat]? with
     | none=>rw [hb0] at hm;cases hm.1.2
     | some u=>
      rw [hb0] at hm;exact⟨u,rfl,by simpa using hm.1.2⟩
    ·exact ih _ hm.2.2 x hx
  cases n with
  | zero=>
   have e0:x=x0:=(Option.some.inj hx).symm;subst e0
   have hfin: ∀b y,s.1[b]?=some y→b<s.2.length:=fun b y hy=>by
    have:=(List.getElem?_eq_some_iff.1 hy).1;omega
   refine⟨?_,fun k hk=>?_⟩
   ·obtain⟨y,hy⟩: ∃y,s.1[x.buf.toNat]?=some y:=⟨_,List.getElem?_eq_getElem (by omega)⟩
    obtain⟨z,k1,k2,_,k4⟩:=oI (r:=r) (i:=i+1) (hI (i:=i) (x:=x) hy) (by rw [hs2,List.length_set];omega);have hz:=k2 (by rw [hs2,List.getD_eq_getElem?_getD,List.getElem?_set];simp [h2,hlt]);refine⟨z,k1,?_,?_⟩
    ·rw [hz];have:=hc _ _ hy;simp only;split<;>omega
    ·rcases k4 with k4 | k4
     ·have k4:z.to_=if x.buf.toNat=x.buf.toNat∨x.buf.toNat∈iZ x.ops then i else y.to_:=k4
      rw [k4,if_pos (Or.inl rfl),show i+((0:Nat):Int)=i by omega];exact Int.le_refl _
     ·simp;omega
   ·
    have hmade:made.getD k false=true:=by
     have hop:x.ops.all (opB vars x.loops.length x.buf made)=true:=by
      unfold kG at h7;simp only [Bool.and_eq_true] at h7;exact h7.2.2.2.2.2
     obtain⟨o,ho,hk2⟩:=List.mem_filterMap.1 hk;split at hk2
     ·rename_i h44;cases hk2;have:=List.all_eq_true.1 hop o ho;unfold opB at this;rw [if_neg (by omega),if_neg (by omega),if_neg (by omega),if_pos h44] at this;simp only [Bool.and_eq_true] at this;exact this.2.1
     ·cases hk2
    have hkl:k<made.length:=by
     rcases Nat.lt_or_ge k made.length with h | h
     ·exact h
     ·rw [List.getD_eq_getElem?_getD,List.getElem?_eq_none h] at hmade;cases hmade
    obtain⟨y,hy⟩: ∃y,s.1[k]?=some y:=⟨_,List.getElem?_eq_getElem (by omega)⟩
    have hyi:=ha k y hy hmade
    have hne:s.2.getD k false=false→x.buf.toNat≠k∧ ∀x∈r,x.buf.toNat≠k:=fun hf=>by
     rcases hb k hmade with h | ⟨u,hu,hui⟩
     ·rw [hf] at h;cases h
     ·refine⟨fun e=>?_,fun y hy e=>?_⟩
      ·rw [e,hu] at hu0;cases hu0;omega
      ·obtain⟨v,hv,hvi⟩:=later y hy;rw [e,hu] at hv;cases hv;omega
    obtain⟨z,k1,k2,k3,k4⟩:=oI (r:=r) (i:=i+1) (hI (i:=i) (x:=x) hy) (by rw [hs2,List.length_set];omega);refine⟨z,k1,?_,?_⟩
    ·have hz:z.from_=y.from_:=by
      cases hf:s.2.getD k false with
      | true=>
       rw [k2 (by
        rw [hs2,List.getD_eq_getElem?_getD,List.getElem?_set];split
        ·rw [if_pos (by omega)];rfl
        ·rw [List.getD_eq_getElem?_getD] at hf
         exact hf),if_neg (fun h=>by rw [hf] at h;exact absurd h.2 (by simp))]
      | false=>
       obtain⟨n1,n2⟩:=hne hf;rw [k3 n2,if_neg (fun h=>n1 h.1)]
     rw [hz];simp;omega
    ·rcases k4 with k4 | k4
     ·have k4:z.to_=if x.buf.toNat=k∨k∈iZ x.ops then i else y.to_:=k4
      rw [k4,if_pos (Or.inr hk),show i+((0:Nat):Int)=i by omega];exact Int.le_refl _
     ·simp;omega
  | succ n=>
   have hx:r[n]?=some x:=hx;have:=alive_go (i:=i+1) (s:=dG i x0 s) h8 (by omega) (by rw [gF,h1]) (by rw [hs2,List.length_set,h2]) (by rw [List.length_set,h3]) (fun b y hy hm=>?_) (fun b hm=>?_) (fun b y hy=>?_) n x hx
   ·rw [show i+((n+1:Nat):Int)=i+1+(n:Int) by omega];exact this
   ·obtain⟨y0,hy0⟩: ∃y,s.1[b]?=some y:=⟨_,List.getElem?_eq_getElem (by have:=(List.getElem?_eq_some_iff.1 hy).1;rw [gF] at this;exact this)⟩
    rw [hI hy0] at hy;cases hy;simp only;have:=hc _ _ hy0;split<;>omega
   ·rw [hs2];rw [List.getD_eq_getElem?_getD,List.getElem?_set] at hm⊢
    by_cases e:x0.buf.toNat=b
    ·left;rw [if_pos e,if_pos (by omega)];rfl
    ·rw [if_neg e] at hm⊢;rw [←List.getD_eq_getElem?_getD] at hm⊢;exact hb b hm
   ·obtain⟨y0,hy0⟩: ∃y,s.1[b]?=some y:=⟨_,List.getElem?_eq_getElem (by have:=(List.getElem?_eq_some_iff.1 hy).1;rw [gF] at this;exact this)⟩
    rw [hI hy0] at hy;cases hy;simp only;have:=hc _ _ hy0;split<;>omega
theorem jS: ∀(outs:List Int) (k:Nat) (bufs:List nE),(lifeAt outs k bufs).length=bufs.length
 | _,_,[]=>rfl
 | outs,k,b::r=>by rw [lifeAt,List.length_cons,List.length_cons,jS]
theorem oS: ∀{outs:List Int} {k:Nat} {bufs:List nE} {b:Nat} {y:LifeC},(lifeAt outs k bufs)[b]?=some y→ ∃u,bufs[b]?=some u∧y.from_≤0∧(0≤u.input→y.from_= -1)
 | _,_,[],_,_,h=>by cases h
 | outs,k,u::r,0,y,h=>by
  cases h;refine⟨u,rfl,?_,fun hu=>?_⟩
  ·simp only;split<;>omega
  ·simp [hu]
 | outs,k,u::r,b+1,y,h=>oS (bufs:=r) (b:=b) h
theorem qK{c:lG}(h:dV c=true):(livesC c).length=c.bufs.length∧(∀(n:Nat) (x:fX),c.steps[n]?=some x→AliveAt (livesC c) n x)∧ ∀b∈c.outs,∃y,(livesC c)[b.toNat]?=some y∧y.to_=c.steps.length:=by
 simp only [dV,Bool.and_eq_true] at h;obtain⟨h1,h2,h3,h4⟩:=h
 have hgl: ∀{r:List fX} {i:Int} {s:List LifeC×List Bool},(liveGo i r s).1.length=s.1.length:=fun{r}=>by
  induction r with
  | nil=>intro i s;rfl
  | cons x r ih=>
   intro i s;rw [liveGo,ih,gF]
 have hlen:(livesC c).length=c.bufs.length:=by
  unfold livesC;rw [jH,hgl,jS]
 refine⟨hlen,fun n x hx=>?_,fun b hb=>?_⟩
 ·have hal:=alive_go (i:=0) (s:=(lifeAt c.outs 0 c.bufs,List.replicate c.bufs.length false)) h3 (by omega) (jS ..) (by simp) (by simp [kF]) (fun b y hy hm=>?_) (fun b hm=>?_) (fun b y hy=>?_) n x hx
  ·rw [Int.zero_add] at hal
   have hn:(n:Int)<c.steps.length:=by
    have:=(List.getElem?_eq_some_iff.1 hx).1;omega
   have up: ∀(b:Nat) (y:LifeC) (P:Int→Prop),(liveGo 0 c.steps (lifeAt c.outs 0 c.bufs,List.replicate c.bufs.length false)).1[b]?=some y→P y.from_→(n:Int)≤y.to_→ ∃z,(livesC c)[b]?=some z∧P z.from_∧(n:Int)≤z.to_:=fun b y P hy hp ht=>by
    unfold livesC;rw [gQ,hy];refine⟨_,rfl,?_,?_⟩
    ·simp only;split<;>exact hp
    ·simp only;split
     ·simp only;omega
     ·exact ht
   obtain⟨⟨y,a1,a2,a3⟩,a4⟩:=hal;refine⟨up _ y (· ≤(n:Int)) a1 a2 a3,fun k hk=>?_⟩;obtain⟨z,b1,b2,b3⟩:=a4 k hk;exact up k z (· <(n:Int)) b1 b2 b3
  ·obtain⟨u,hu,_,h5⟩:=oS hy;rw [kF,List.getD_eq_getElem?_getD,List.getElem?_map,hu] at hm;have:=h5 (by simpa using hm);omega
  ·right;rw [kF,List.getD_eq_getElem?_getD,List.getElem?_map] at hm
   cases hu:c.bufs[b]? with
   | none=>rw [hu] at hm;cases hm
   | some u=>
    rw [hu] at hm;exact⟨u,rfl,by simpa using hm⟩
  ·obtain⟨u,_,h5,_⟩:=oS hy;omega
 ·have hb':=List.all_eq_true.1 h4 b hb;have hb':0≤b∧b<c.bufs.length:=by simpa using hb'
  obtain⟨y,hy⟩: ∃y,(liveGo 0 c.steps (lifeAt c.outs 0 c.bufs,List.replicate c.bufs.length false)).1[b.toNat]?=some y:=⟨_,List.getElem?_eq_getElem (by rw [hgl,jS];omega)⟩
  unfold livesC;rw [gQ,hy];refine⟨_,rfl,?_⟩;simp only;rw [if_pos (List.mem_map_of_mem hb)]
end Go.Proofs.YtofjmphlpdhohaaGreatDoor
namespace Go.Proofs.YtofjmphlpdhohaaGreatDoor
open Go.RowKit
theorem rD: ∀{outs:List Int} {k:Nat} {bufs:List nE} {b:Nat},(lifeAt outs k bufs)[b]?=(bufs[b]?).map fun u=>⟨if 0≤u.input∨outs.contains ((k+b:Nat):Int)=true then-1 else 0,-1⟩
 | _,_,[],_=>rfl
 | outs,k,u::r,0=>rfl
 | outs,k,u::r,b+1=>by
  have:=rD (outs:=outs) (k:=k+1) (bufs:=r) (b:=b);rw [lifeAt,List.getElem?_cons_succ,List.getElem?_cons_succ,this,show k+1+b=k+(b+1) by omega]
theorem right_parts{c:lG}(h:dV c=true):(0≤c.vars∧c.vars≤6∧c.bufs.length≤1024∧c.steps.length≤1024∧c.outs.length≤64)∧qA c.vars c.bufs []=true∧iX c.vars c.bufs c.steps (kF c.bufs)=true∧ ∀k∈c.outs,0≤k∧k<c.bufs.length:=by
 simp only [dV,Bool.and_eq_true,decide_eq_true_eq,List.all_eq_true] at h;exact h
end Go.Proofs.YtofjmphlpdhohaaGreatDoor
namespace Go.Proofs.YtofjmphlpdhohaaGreatDoor
open Go.RowKit
end Go.Proofs.YtofjmphlpdhohaaGreatDoor
namespace Go.Proofs.YtofjmphlpdhohaaGreatDoor
open Go.RowKit
end Go.Proofs.YtofjmphlpdhohaaGreatDoor
namespace Go.Proofs.YtofjmphlpdhohaaGreatDoor
open Go.RowKit
inductive Tr where
 | nil
 | fl (k:Nat) (r:Tr)
 | op (k:Nat) (r:Tr)
 | two (k l:Nat) (r s:Tr)
def Tr.len:Tr→Nat
 | .nil=>0
 | .fl _ r=>r.len+1
 | .op _ r=>r.len+1
 | .two _ _ r _=>r.len+1
end Go.Proofs.YtofjmphlpdhohaaGreatDoor
namespace Go.Proofs.YtofjmphlpdhohaaGreatDoor
open Go.RowKit
section
variable {P : Program} {β : fO} {n : Nat} {Γ : Env} {H : List bD} {F : List bF} {Q : Exit → Act → World → Prop} {K : Act → World → Prop} {T : Tab} {α : Type} {E : Flat α}
theorem elem_of{t e:Nat}(hu:P.underlying t=some (.slice e)):P.elem t=e:=by simp [Program.elem,hu]
theorem run_cutTo(hT:cS P T){t e sz:Nat}{ei:TI}(ht:T.get t=some ⟨.slice e,sz⟩)(he:T.get e=some ei){A:Option Addr}{l c k:Nat}(hk:k≤c)(kk:IntKind)(w:World):(Instr.sliceAt t (.slice A l c) none (some (.int kk (k:Nat))) none).run P w= .ok (.slice A k c) w:=by
 obtain⟨d,hu,hd⟩:=hT.any ht;cases d<;>simp [TD.of] at hd
 subst hd;have hel:=elem_of hu;rw [run_sliceAt_slice w t _ _ _ _ (by rw [hel];exact hu),run_slice_h w t A l c (by rw [hel];exact hu) kk (k:Int) (by omega) (by omega),hel,hT.size he];simp only [Result.andThen_ok,sliced,Int.toNat_natCast,Nat.zero_mul,Nat.sub_zero]
 congr 2
 split
 ·rfl
 ·cases A<;>simp [Addr.add]
theorem run_cutFrom(hT:cS P T){t e sz:Nat}{ei:TI}(ht:T.get t=some ⟨.slice e,sz⟩)(he:T.get e=some ei){A:Option Addr}{l c k:Nat}(hk:k≤l)(kk:IntKind)(w:World):(Instr.sliceAt t (.slice A l c) (some (.int kk (k:Nat))) none none).run P w= .ok (.slice (cutA A k ei.size c) (l-k) (c-k)) w:=by
 obtain⟨d,hu,hd⟩:=hT.any ht;cases d<;>simp [TD.of] at hd
 subst hd;have hel:=elem_of hu;rw [run_sliceAt_slice w t _ _ _ _ (by rw [hel];exact hu),run_slice_l w t A l c (by rw [hel];exact hu) kk (k:Int) (by omega) (by omega),hel,hT.size he];simp only [Result.andThen_ok,sliced,Int.toNat_natCast,cutA]
theorem Has.cons{f g:bF}{F:List bF}(h:Has F g):Has (f::F) g:=fun S w k=>h S w fun x hx=>k x (List.mem_cons_of_mem _ hx)
theorem sti_cutTo(hT:cS P T){o:Oper}{t e sz k l cap:Nat}{ei:TI}{x i:Operand}{kk:IntKind}{z:Int}{A:Option Addr}(ho:o.op= .slice t x none (some i) none)(hx:Γ.ev x=some (.slice A l cap))(hi:Γ.ev i=some (.int kk z))
  (ht:T.get t=some ⟨.slice e,sz⟩) (he:T.get e=some ei) (hz:z=(k:Nat)) (hk:k≤cap):Sti P β n Γ H F o (.slice A k cap):=fun a w S f s hF=>by
 subst hz;unfold execOp;simp only [ho,f.ev hx,Option.map_some,Option.map_none,f.ev hi];rw [Sem.run_bind,run_cutTo hT ht he hk];rfl
theorem sti_cutFrom(hT:cS P T){o:Oper}{t e sz k l cap:Nat}{ei:TI}{x i:Operand}{kk:IntKind}{z:Int}{A:Option Addr}(ho:o.op= .slice t x (some i) none none)(hx:Γ.ev x=some (.slice A l cap))(hi:Γ.ev i=some (.int kk z))
  (ht:T.get t=some ⟨.slice e,sz⟩) (he:T.get e=some ei) (hz:z=(k:Nat)) (hk:k≤l):Sti P β n Γ H F o (.slice (cutA A k ei.size cap) (l-k) (cap-k)):=fun a w S f s hF=>by
 subst hz;unfold execOp;simp only [ho,f.ev hx,Option.map_some,Option.map_none,f.ev hi];rw [Sem.run_bind,run_cutFrom hT ht he hk];rfl
theorem at_cap{A:Option Addr}{t:TypeId}{m cap:Nat}{xs:List α}{H':List bD}(hH:cW H (E.row (.slice A m cap) t xs) H')(h:xs.length≤cap→At β n Γ H F K):At β n Γ H F K:=fun a w S f s k=>by
 have hown:w.ownsRow 0 t E.size (.slice A m cap) xs.length (E.all xs):=s.ok _ hH.mem;refine h ?_ a w S f s k
 rcases hown.2 with ⟨_,e0⟩ | ⟨g,cap',cur,e1,h1,h2,h3,_⟩
 ·omega
 ·injection e1 with e1 e2 e3
  subst e3;omega
end
end Go.Proofs.YtofjmphlpdhohaaGreatDoor
