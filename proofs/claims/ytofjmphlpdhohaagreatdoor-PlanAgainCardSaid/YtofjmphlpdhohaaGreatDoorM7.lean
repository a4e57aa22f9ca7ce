/- Texts of one proof, one behind the other: RunK, RunS15, Laid15, LawG15, Grows, PolyK0, TysK, CoreP, LifeP, FuseP, FuseQ, MixT, Cut. -/
import Derived.Test.YtofjmphlpdhohaaGreatDoorM6
import Derived.Test.YtofjmphlpdhohaaGreatDoorRows
import Derived.Test.YtofjmphlpdhohaaGreatDoorM4
import Derived.Deep.DeepWitnessRowRef
import Derived.Lib.LaidU8
import Derived.LaidLaws
import Derived.Lib.LaidIn
import Derived.Shelf.Vars
import Derived.Test.YtofjmphlpdhohaaGreatDoorM1
import Derived.ProofKit
import Derived.OpenShut
import Derived.Carry
import Derived.SizedLaws
import Derived.Test.YtofjmphlpdhohaaGreatDoorM2
import Derived.Laws.Slices
namespace Go.Proofs.YtofjmphlpdhohaaGreatDoor
namespace X
noncomputable section
def zI:T (T Plan):= .nd (.nd (.nd (.nd (.nd (.nd (.nd .lf none (.nd .lf (some .lf) .lf)) none (.nd .lf (some .lf) (.nd .lf (some .lf) .lf))) none (.nd (.nd (.nd .lf (some .lf) .lf) none .lf) (some (.nd (.nd .lf (some (([(true,0),(true,1),(true,2),(true,3),(true,4),(true,5),(true,6),(true,7),(true,8),(false,9),(true,10),(true,11),(true,12),(true,13),(true,14)],[]))) .lf) none (.nd .lf (some (([(true,0),(true,1),(true,2),(true,3),(false,4),(true,5)],[6]))) .lf))) (.nd .lf (some .lf) (.nd .lf (some .lf) .lf)))) none (.nd (.nd (.nd .lf none (.nd .lf (some .lf) .lf)) none (.nd (.nd .lf (some .lf) .lf) (some .lf) .lf)) none (.nd (.nd (.nd .lf (some .lf) .lf) (some (.nd (.nd (.nd .lf none (.nd .lf none (.nd .lf (some (([(true,0),(true,1),(true,2),(true,3),(true,4),(true,5),(true,6),(false,7)],[8,9]))) .lf))) none .lf) none (.nd .lf none (.nd .lf none (.nd .lf none (.nd .lf (some (([(true,0),(true,1),(true,2),(true,3),(true,4),(true,5),(true,6),(true,7),(true,8),(true,9)],[10]))) .lf)))))) (.nd .lf (some .lf) .lf)) (some .lf) (.nd .lf (some .lf) .lf)))) none (.nd (.nd (.nd (.nd .lf none (.nd .lf (some .lf) .lf)) none (.nd .lf (some .lf) (.nd (.nd .lf (some (.nd .lf (some (([(true,0),(true,1),(true,2),(true,3),(true,4),(true,5),(true,6),(true,7),(true,8),(true,9),(true,10),(true,11),(true,12),(false,13),(true,14)],[15]))) .lf)) .lf) none .lf))) none (.nd (.nd (.nd .lf (some (.nd (.nd (.nd .lf none (.nd .lf (some (([(true,0),(true,1),(true,2),(true,3),(true,4),(true,5),(true,6),(false,7),(true,8),(true,9),(true,10),(false,11),(true,12)],[]))) .lf)) none .lf) none .lf)) .lf) none (.nd .lf (some .lf) .lf)) none (.nd (.nd .lf (some .lf) .lf) (some .lf) .lf))) none (.nd (.nd (.nd (.nd .lf (some .lf) .lf) none (.nd .lf (some .lf) .lf)) (some .lf) (.nd .lf (some .lf) (.nd .lf (some .lf) .lf))) none (.nd (.nd (.nd (.nd .lf (some (.nd .lf none (.nd .lf (some (([(true,0),(true,1),(true,2),(true,3),(true,4),(true,5),(true,6),(true,7),(true,8)],[]))) .lf))) .lf) none .lf) (some .lf) (.nd .lf (some .lf) .lf)) none .lf)))) none (.nd (.nd (.nd (.nd (.nd (.nd (.nd .lf (some .lf) .lf) none .lf) none (.nd .lf (some .lf) .lf)) none (.nd (.nd .lf (some .lf) .lf) none (.nd (.nd .lf (some .lf) .lf) (some .lf) .lf))) (some .lf) (.nd (.nd (.nd .lf (some .lf) .lf) none (.nd .lf (some .lf) .lf)) (some .lf) (.nd .lf (some (.nd (.nd (.nd .lf none (.nd .lf (some (([(true,0),(true,1),(true,2),(true,3),(true,4),(true,5),(true,6),(true,7),(true,8),(true,9),(true,10),(true,11),(true,12),(true,13),(true,14),(true,15),(true,16),(true,17),(true,18),(true,19),(true,20),(true,21),(true,22),(true,23),(true,24),(true,25),(true,26),(true,27),(true,28),(true,29),(true,30),(true,31),(true,32),(true,33)],[]))) .lf)) (some (([(true,0),(true,1),(true,2),(true,3),(true,4),(true,5),(true,6),(true,7),(true,8),(true,9),(true,10),(true,11)],[]))) (.nd (.nd .lf (some (([(true,0),(true,1),(true,2),(true,3),(true,4),(true,5),(true,6),(true,7),(true,8),(true,9),(true,10),(true,11),(true,12),(true,13)],[]))) .lf) none .lf)) none .lf)) .lf))) none (.nd (.nd (.nd (.nd .lf (some .lf) .lf) none (.nd .lf (some .lf) .lf)) (some .lf) (.nd (.nd .lf (some .lf) .lf) (some (.nd (.nd (.nd .lf (some (([(true,0),(true,1),(true,2),(true,5),(true,6),(false,3),(true,4)],[7]))) .lf) none .lf) none .lf)) (.nd .lf (some .lf) .lf))) (some (.nd (.nd (.nd .lf none (.nd (.nd .lf (some (([(true,0),(true,1),(true,2),(true,3),(true,4),(true,5),(true,6)],[7]))) .lf) none .lf)) none .lf) none (.nd (.nd .lf none (.nd .lf (some (([(true,0),(true,1),(true,2),(true,3),(true,4),(true,5),(true,6),(true,7),(false,8),(false,9),(true,10),(true,11)],[12]))) .lf)) none .lf))) (.nd (.nd (.nd (.nd .lf (some .lf) .lf) (some (.nd (.nd (.nd .lf (some (([(true,0),(true,1),(true,2),(true,3),(true,5),(true,6),(false,32772),(false,8)],[9]))) .lf) none .lf) none .lf)) .lf) (some .lf) .lf) (some .lf) .lf))) none (.nd (.nd (.nd (.nd .lf none (.nd .lf (some .lf) .lf)) none (.nd .lf (some .lf) .lf)) none (.nd (.nd (.nd .lf (some (.nd .lf (some (([(true,0),(true,1),(true,2),(true,3),(true,4),(true,5),(true,6),(true,7),(true,8),(true,9),(true,10),(true,11),(true,12),(true,13),(true,14),(true,16),(true,17),(false,15),(false,18),(true,19),(false,20),(false,21),(true,22),(true,23),(true,24)],[25]))) .lf)) .lf) (some .lf) .lf) (some (.nd (.nd .lf (some (([(true,0),(true,1),(true,2),(true,3),(true,4),(true,5),(false,6),(true,7),(true,8),(true,9),(true,10),(false,11),(true,12),(true,13),(true,14),(true,15),(true,16),(true,17),(true,18),(true,19),(true,20),(false,21),(true,22),(true,23),(true,24),(true,25),(true,26),(true,27),(true,28),(true,29),(true,30),(true,31),(true,32),(false,33),(true,34),(true,35)],[]))) .lf) none (.nd (.nd .lf none (.nd .lf (some (([(true,0),(true,1),(true,2),(true,3),(true,4),(true,5),(true,6),(true,7),(true,8),(false,9),(true,10),(true,11)],[12]))) .lf)) none .lf))) .lf)) none (.nd (.nd (.nd (.nd .lf (some .lf) .lf) none (.nd .lf (some .lf) .lf)) (some (.nd (.nd (.nd .lf none (.nd .lf (some (([(true,0),(true,1),(true,2),(true,3),(true,4),(true,5),(true,6),(true,7),(true,8),(true,9),(true,10),(true,11),(true,12),(true,13),(true,14),(true,15),(true,16),(true,17),(true,18)],[19]))) .lf)) none .lf) none .lf)) (.nd .lf (some .lf) (.nd .lf (some .lf) .lf))) none (.nd (.nd (.nd .lf (some .lf) .lf) (some (.nd (.nd (.nd .lf none (.nd .lf (some (([(true,0),(true,1),(true,2),(true,3),(true,4),(true,5),(true,6),(true,7),(true,8),(true,9),(false,10),(false,11),(true,12)],[]))) .lf)) none (.nd (.nd .lf none (.nd (.nd .lf (some (([(true,0),(true,1),(true,2),(true,3),(false,4)],[5,6,7]))) .lf) none .lf)) none (.nd (.nd (.nd .lf (some (([(true,0),(true,1),(true,2),(true,3),(true,4),(true,5),(true,6),(true,7),(false,8)],[9]))) .lf) none .lf) none .lf))) none (.nd (.nd (.nd (.nd .lf (some (([(true,0),(true,1),(true,2),(true,3),(true,4),(true,5),(true,6),(true,7),(true,8)],[9]))) .lf) none .lf) none .lf) none (.nd .lf none (.nd (.nd (.nd .lf (some (([(true,0),(true,1),(true,2),(true,3),(true,4),(true,5),(true,6),(true,7),(false,8),(true,9),(false,10),(false,11),(true,12),(true,13),(true,14)],[15]))) .lf) none .lf) none .lf))))) (.nd .lf (some .lf) .lf)) (some (.nd .lf none (.nd .lf none (.nd .lf (some (([(true,0),(false,1),(true,2),(true,3),(true,4),(true,5),(true,6),(true,7),(true,8),(true,9),(true,10),(true,11),(true,12)],[13,14,15,16]))) .lf)))) (.nd (.nd .lf (some .lf) .lf) none (.nd .lf (some .lf) .lf))))))) none (.nd (.nd (.nd (.nd (.nd (.nd .lf none (.nd .lf (some .lf) .lf)) none (.nd (.nd .lf (some .lf) .lf) none (.nd .lf (some .lf) .lf))) none (.nd (.nd (.nd .lf (some .lf) .lf) none .lf) (some (.nd (.nd .lf none (.nd .lf none (.nd .lf (some (([(true,0),(true,1),(true,2),(true,3),(true,4),(true,5)],[6]))) .lf))) none (.nd (.nd (.nd (.nd .lf (some (([(true,0),(true,1),(true,2),(true,3),(true,4),(true,5)],[6]))) .lf) none .lf) none .lf) none .lf))) (.nd .lf (some .lf) (.nd .lf (some (.nd (.nd .lf (some (([(true,0),(true,1),(true,2),(true,3),(true,4),(true,5),(true,6),(true,7),(true,8),(true,9),(false,10),(true,11)],[]))) .lf) none .lf)) .lf)))) none (.nd (.nd (.nd .lf none (.nd .lf (some .lf) .lf)) none (.nd (.nd .lf (some .lf) .lf) (some .lf) .lf)) none (.nd (.nd .lf (some .lf) (.nd .lf (some .lf) .lf)) (some .lf) .lf))) none (.nd (.nd (.nd (.nd .lf none (.nd .lf (some .lf) .lf)) (some .lf) (.nd (.nd .lf (some .lf) .lf) (some (.nd .lf none (.nd .lf none (.nd .lf (some (([(true,0),(true,1),(true,2),(true,3),(true,4),(true,5),(true,6),(true,7),(true,8)],[]))) .lf)))) .lf)) (some .lf) (.nd (.nd (.nd .lf (some (.nd .lf none (.nd .lf (some (([(true,0),(true,1),(true,2),(true,4),(true,5),(true,6),(true,7),(true,8),(false,3),(false,9),(true,10)],[11]))) .lf))) .lf) (some .lf) (.nd .lf (some (.nd (.nd .lf (some (([(true,0),(true,1),(true,2),(true,3),(true,5),(true,6),(true,7),(false,36868)],[9,10]))) .lf) none .lf)) .lf)) (some .lf) (.nd .lf (some .lf) .lf))) none (.nd (.nd (.nd (.nd .lf (some (.nd (.nd .lf (some (([(true,0),(true,1),(true,2),(true,3),(true,4),(true,5),(true,6),(true,7),(true,8),(true,9)],[]))) .lf) none (.nd .lf (some (([(true,0),(true,1),(true,2),(true,3),(true,4),(true,5),(true,6),(true,7),(true,8),(true,9)],[10]))) .lf))) .lf) none .lf) none (.nd .lf (some .lf) (.nd .lf (some .lf) .lf))) none (.nd (.nd .lf (some .lf) .lf) none .lf)))) none (.nd (.nd (.nd (.nd (.nd (.nd (.nd .lf (some (.nd .lf none (.nd .lf none (.nd (.nd (.nd (.nd .lf (some (([(true,0),(true,1),(true,2),(true,3),(true,4),(true,5),(true,6),(false,7)],[8,9]))) .lf) none .lf) none .lf) none .lf)))) .lf) none .lf) none (.nd .lf (some (.nd (.nd .lf (some (([(true,0),(true,1),(true,2),(true,3),(true,4),(true,5),(true,6),(true,7),(true,8),(true,9)],[]))) .lf) none (.nd .lf (some (([(true,0),(true,1),(true,2),(true,3),(true,4),(true,5),(true,6),(true,7),(true,8),(true,9),(true,10),(true,11)],[]))) .lf))) .lf)) none (.nd (.nd .lf (some .lf) .lf) (some .lf) (.nd (.nd .lf (some (.nd .lf (some (([(true,0),(true,1),(true,2),(true,3),(true,4),(true,5),(false,6),(false,7),(true,8)],[9]))) .lf)) .lf) none .lf))) (some .lf) (.nd (.nd (.nd .lf (some (.nd (.nd (.nd (.nd .lf (some (([(true,0),(true,1),(true,2),(true,3),(true,4),(true,5),(false,6),(false,7)],[8]))) .lf) none .lf) none .lf) none (.nd .lf none (.nd .lf none (.nd (.nd .lf (some (([(true,0),(true,1),(true,2),(true,3),(true,4),(true,5),(true,6),(true,7),(false,8)],[9]))) .lf) none .lf))))) .lf) none (.nd .lf (some .lf) .lf)) (some .lf) (.nd .lf (some .lf) (.nd .lf (some .lf) .lf)))) none (.nd (.nd .lf (some (.nd (.nd (.nd .lf none (.nd (.nd (.nd .lf (some (([(true,0),(true,1),(true,2),(true,3),(true,4),(true,5),(true,6),(true,7),(true,8),(true,9),(false,10),(false,11),(true,12),(true,13),(true,14)],[15]))) .lf) (some (([(true,0),(true,1),(true,2),(true,3),(true,4),(true,5),(true,6),(true,7),(true,8)],[9]))) .lf) none .lf)) none (.nd .lf none (.nd .lf none (.nd .lf (some (([(true,0),(true,1),(true,2),(true,3),(true,4),(true,5),(true,6),(true,7),(true,8),(true,9),(false,10),(true,11),(true,12),(true,13),(true,14),(true,15)],[]))) .lf)))) none (.nd (.nd .lf none (.nd (.nd .lf (some (([(true,0),(true,1),(true,2),(true,3),(true,4),(true,5),(true,6),(true,7),(true,9),(false,8),(true,10),(false,11),(false,12),(true,13),(true,14),(true,15)],[16]))) .lf) none .lf)) none (.nd (.nd (.nd (.nd .lf (some (([(true,0),(true,1),(true,2),(true,3),(true,4),(true,5),(true,6),(true,7),(true,8)],[9]))) .lf) none .lf) none .lf) none .lf)))) (.nd (.nd (.nd .lf (some .lf) .lf) (some .lf) .lf) none .lf)) (some .lf) (.nd (.nd (.nd (.nd .lf (some (.nd .lf none (.nd .lf (some (([(true,0),(true,1),(true,4),(true,5),(true,6),(true,7),(true,8),(true,9),(true,10),(true,11),(true,12),(true,13),(true,14),(true,15),(true,16),(true,17),(false,2),(true,3),(false,18),(true,19)],[]))) .lf))) .lf) (some .lf) .lf) (some .lf) .lf) none .lf))) none (.nd (.nd (.nd (.nd .lf none (.nd .lf (some .lf) .lf)) none (.nd (.nd .lf (some .lf) .lf) none .lf)) (some (.nd (.nd (.nd .lf (some (([(true,0),(true,2),(false,1)],[3,4,5]))) .lf) none .lf) none (.nd (.nd .lf none (.nd (.nd .lf (some (([(true,0),(true,1),(true,2),(true,3),(true,4),(true,5),(true,6),(true,7)],[8,9]))) .lf) none .lf)) none (.nd (.nd .lf (some (([(true,0),(true,1),(true,2),(true,3),(true,4),(true,5),(true,6),(true,7),(true,8),(true,9),(true,10),(true,11),(true,12),(true,13)],[]))) .lf) none .lf)))) (.nd (.nd .lf (some (.nd (.nd .lf none (.nd .lf none (.nd .lf (some (([(true,0),(true,1),(true,2),(true,3),(true,4),(true,5),(false,6),(false,7),(true,8),(true,9)],[10]))) .lf))) none (.nd .lf (some (([(true,0),(true,1),(true,2),(true,3),(true,4),(true,5),(true,6),(true,7),(true,8),(true,9),(true,10),(true,11),(true,12),(true,13),(true,14),(true,15),(true,16),(true,17)],[]))) (.nd (.nd .lf none (.nd .lf (some (([(true,0),(true,1),(true,2),(true,3),(true,4),(true,5),(false,6),(false,7),(true,8),(true,9)],[10]))) .lf)) none .lf)))) .lf) (some .lf) .lf)) none (.nd (.nd (.nd (.nd .lf (some (.nd (.nd (.nd .lf (some (([(true,0),(true,1),(true,2),(true,3),(true,4),(true,5),(true,6),(true,7),(true,8),(true,9)],[]))) .lf) none .lf) none (.nd (.nd (.nd .lf (some (([(true,0),(true,1),(true,2),(true,3),(true,4),(true,5),(true,6),(true,7),(true,8),(true,9)],[]))) .lf) none .lf) none .lf))) .lf) none (.nd .lf (some (.nd (.nd (.nd (.nd (.nd (.nd .lf (some (([(true,2),(false,0),(false,1),(false,3),(true,4),(true,5),(true,6),(true,7),(false,8),(true,9)],[10]))) .lf) none .lf) none .lf) none .lf) none .lf) none .lf)) .lf)) none (.nd .lf (some .lf) (.nd .lf (some .lf) .lf))) none (.nd (.nd (.nd .lf (some .lf) .lf) (some (.nd (.nd .lf none (.nd (.nd .lf (some (([(true,0),(true,1),(true,2),(true,3),(true,4),(true,5),(true,6),(false,7),(true,8),(true,9)],[]))) .lf) none .lf)) none .lf)) (.nd .lf (some (.nd (.nd .lf (some (([(true,0),(true,1),(true,2),(true,3),(true,4),(true,5),(true,6),(true,7),(true,8),(true,9),(true,10),(true,11),(true,12),(false,13),(true,14),(true,15)],[]))) .lf) none .lf)) .lf)) none (.nd (.nd .lf (some .lf) .lf) none .lf))))))
def orcX (f:FuncId):Option Orc:=sel (Nat.beq f 310) (some (escO)) (sel (Nat.beq f 255) (some (fieldsO 2)) (sel (Nat.beq f 234) (some (idxO)) (sel (Nat.beq f 284) (some (joinO)) (sel (Nat.beq f 102) (some (mulO)) (sel (Nat.beq f 163) (some (bothO)) (none))))))
def knowG (n:Nat)(o:Obj):Prop:=match n with
 | 0=> ∃t z,o= .cells (Lib.asciiSpaceTab.map fun z=>Value.int .u8 z).toArray t z
 | 1=> ∃m r t z,o= .cells (Value.int .i64 m::r).toArray t z
 | 2=> ∃t z,o= .cells #[.int .i64 0,.int .i64 (-1)] t z
 | _=>False
theorem kw_ok: ∀n cs o,sel (Nat.beq n 2) (some [V.i .i64 0,V.i .i64 (-1)]) none=some cs→knowG n o→(∀v∈cs,v.one=true)∧ ∃C t z,o= .cells C t z∧ ∀(i:Nat) (v:V),cs[i]?=some v→ ∃u,C[i]?=some u∧ofV u=some v:=fun n cs o h hG=>by
 rw [cI] at h;split at h
 ·rename_i hn;cases h;rw [Nat.eq_of_beq_eq_true hn] at hG;obtain⟨t,z,rfl⟩:=hG;refine⟨fun v hv=>by simp at hv;rcases hv with rfl | rfl<;>rfl,_,t,z,rfl,fun i v hi=>?_⟩
  match i,hi with
  | 0,hi=>cases hi;exact⟨_,rfl,rfl⟩
  | 1,hi=>cases hi;exact⟨_,rfl,rfl⟩
  | i+2,hi=>cases hi
 ·cases h
def methX (t:TypeId)(n:String):Option (FuncId×Option TypeId):=sel (Nat.beq t 252&&n== "Swap") (some (355,some 307)) (sel (Nat.beq t 252&&n== "Push") (some (354,none)) (sel (Nat.beq t 252&&n== "Pop") (some (353,none)) (sel (Nat.beq t 252&&n== "Less") (some (352,some 307)) (sel (Nat.beq t 252&&n== "Len") (some (161,some 307)) (none)))))
theorem meth_ok(t:TypeId)(n:String)(f:FuncId)(h:methX t n=some (f,none))(v:Value)(w:World):(method (Tryz.prog.types.size+Made.depth) t v n).run Tryz.prog w= .ok (f,v) w:=by
 unfold methX at h
 by_cases h0:(Nat.beq t 252&&n== "Swap")=true
 ·rw [cI,if_pos h0] at h;rw [Bool.and_eq_true,beq_iff_eq] at h0;rw [Nat.eq_of_beq_eq_true h0.1,h0.2];cases h
 rw [cI,if_neg h0] at h
 by_cases h1:(Nat.beq t 252&&n== "Push")=true
 ·rw [cI,if_pos h1] at h;rw [Bool.and_eq_true,beq_iff_eq] at h1;rw [Nat.eq_of_beq_eq_true h1.1,h1.2];cases h
  kernel_rfl
 rw [cI,if_neg h1] at h
 by_cases h2:(Nat.beq t 252&&n== "Pop")=true
 ·rw [cI,if_pos h2] at h;rw [Bool.and_eq_true,beq_iff_eq] at h2;rw [Nat.eq_of_beq_eq_true h2.1,h2.2];cases h
  kernel_rfl
 rw [cI,if_neg h2] at h
 by_cases h3:(Nat.beq t 252&&n== "Less")=true
 ·rw [cI,if_pos h3] at h;rw [Bool.and_eq_true,beq_iff_eq] at h3;rw [Nat.eq_of_beq_eq_true h3.1,h3.2];cases h
 rw [cI,if_neg h3] at h
 by_cases h4:(Nat.beq t 252&&n== "Len")=true
 ·rw [cI,if_pos h4] at h;rw [Bool.and_eq_true,beq_iff_eq] at h4;rw [Nat.eq_of_beq_eq_true h4.1,h4.2];cases h
 rw [cI,if_neg h4] at h;cases h
theorem meth_deref(t:TypeId)(n:String)(f:FuncId)(el:TypeId)(h:methX t n=some (f,some el))(b o:Nat)(r:Value)(w:World)(hl:(loadVar el ⟨b,o,none⟩).run Tryz.prog w= .ok r w):(method (Tryz.prog.types.size+Made.depth) t (.pointer (some ⟨b,o,none⟩)) n).run Tryz.prog w= .ok (f,r) w:=by
 unfold methX at h
 by_cases h0:(Nat.beq t 252&&n== "Swap")=true
 ·rw [cI,if_pos h0] at h;rw [Bool.and_eq_true,beq_iff_eq] at h0;rw [Nat.eq_of_beq_eq_true h0.1,h0.2];cases h;rw [show(method (Tryz.prog.types.size+Made.depth) 252 (.pointer (some ⟨b,o,none⟩)) "Swap").run Tryz.prog w=(do let r←loadVar 307 ⟨b,o,none⟩;pure (355,r):Sem (FuncId×Value)).run Tryz.prog w by kernel_rfl,Sem.run_bind,hl];rfl
 rw [cI,if_neg h0] at h
 by_cases h1:(Nat.beq t 252&&n== "Push")=true
 ·rw [cI,if_pos h1] at h;rw [Bool.and_eq_true,beq_iff_eq] at h1;rw [Nat.eq_of_beq_eq_true h1.1,h1.2];cases h
 rw [cI,if_neg h1] at h
 by_cases h2:(Nat.beq t 252&&n== "Pop")=true
 ·rw [cI,if_pos h2] at h;rw [Bool.and_eq_true,beq_iff_eq] at h2;rw [Nat.eq_of_beq_eq_true h2.1,h2.2];cases h
 rw [cI,if_neg h2] at h
 by_cases h3:(Nat.beq t 252&&n== "Less")=true
 ·rw [cI,if_pos h3] at h;rw [Bool.and_eq_true,beq_iff_eq] at h3;rw [Nat.eq_of_beq_eq_true h3.1,h3.2];cases h;rw [show(method (Tryz.prog.types.size+Made.depth) 252 (.pointer (some ⟨b,o,none⟩)) "Less").run Tryz.prog w=(do let r←loadVar 307 ⟨b,o,none⟩;pure (352,r):Sem (FuncId×Value)).run Tryz.prog w by kernel_rfl,Sem.run_bind,hl];rfl
 rw [cI,if_neg h3] at h
 by_cases h4:(Nat.beq t 252&&n== "Len")=true
 ·rw [cI,if_pos h4] at h;rw [Bool.and_eq_true,beq_iff_eq] at h4;rw [Nat.eq_of_beq_eq_true h4.1,h4.2];cases h;rw [show(method (Tryz.prog.types.size+Made.depth) 252 (.pointer (some ⟨b,o,none⟩)) "Len").run Tryz.prog w=(do let r←loadVar 307 ⟨b,o,none⟩;pure (161,r):Sem (FuncId×Value)).run Tryz.prog w by kernel_rfl,Sem.run_bind,hl];rfl
 rw [cI,if_neg h4] at h;cases h
@[instance_reducible] def iM (o:FuncId→Option Orc):Ctx where
 P:=Tryz.prog
 gl:=fun g=>gd (Nat.blt g 12) (some g)
 orc:=fun f=>oc (o f) (orcX f) some
 quiet:=[143]
 known:=fun f=>oc (T.get zI f) false fun _=>true
 n0:=12
 plan:=fun f id=>ob (T.get zI f) fun t=>T.get t id
 G:=knowG
 meth:=methX
 kw:=fun n=>sel (Nat.beq n 2) (some [.i .i64 0,.i .i64 (-1)]) none
 kwOk:=kw_ok
instance ctx : Ctx := iM fun _ => none
def zM:List (Nat×Nat):=[(2,0),(1,1),(0,2)]
def T.allP{α:Type}(p:Nat→α→Bool):T α→(Nat→Nat)→Bool
 | .lf,_=>true
 | .nd l x r,f=>oc x true (p (f 0))&&(T.allP p l (fun k=>f (2*k+1))&&T.allP p r (fun k=>f (2*k+2)))
theorem T.allP_get{α:Type}{p:Nat→α→Bool}: ∀{t:T α} {f:Nat→Nat} {n:Nat} {x:α},T.allP p t f=true→T.get t n=some x→p (f n) x=true
 | .lf,_,_,_,_,h=>by cases h
 | .nd l y r,f,n,x,h,hg=>by
  simp only [T.allP,Bool.and_eq_true] at h
  cases n with
  | zero=>
   have hg:y=some x:=hg;subst hg;exact h.1
  | succ m=>
   have hg:(Bool.rec (motive:=fun _=>Nat→Option α) (T.get r) (T.get l) (Nat.beq (Nat.mod m 2) 0) (Nat.div m 2))=some x:=hg
   cases hb:Nat.beq (Nat.mod m 2) 0 with
   | true=>
    rw [hb] at hg;have:=T.allP_get h.2.1 hg;have hb:m%2=0:=Nat.eq_of_beq_eq_true hb
    have e:2*Nat.div m 2+1=m+1:=by
     show 2*(m/2)+1=m+1;omega
    rw [←e];exact this
   | false=>
    rw [hb] at hg;have:=T.allP_get h.2.2 hg;have hb:m%2≠0:=fun e=>by rw [show Nat.mod m 2=0 from e] at hb;cases hb
    have e:2*Nat.div m 2+2=m+1:=by
     show 2*(m/2)+2=m+1;omega
    rw [←e];exact this
def validF [Ctx](f:FuncId):Bool:=oc (Tryz.prog.funcs[f]?) true fun fn=>oc fn.body true fun c=>kC f c
end
theorem all_validW:(fun o:FuncId→Option Orc=>T.allP (fun f _=> @validF (iM o) f) zI id)=fun _=>true:=by kernel_rfl
theorem all_valid(o:FuncId→Option Orc):T.allP (fun f _=> @validF (iM o) f) zI id=true:=congrFun all_validW o
theorem glA:Ctx.gl 2=some 2:=rfl
theorem spaceIs:SpaceIs:=fun _ h=>h
theorem oN{α:Type}{c:Bool}{x y:Option α}{b:α}(h:sel c x y=some b):(c=true∧x=some b)∨y=some b:=by
 cases c with
 | true=>exact .inl ⟨rfl,h⟩
 | false=>exact .inr h
theorem sim_conv{o o':FuncId→Option Orc}{α:As}{s:St}{w:World}(h: @Sim (iM o) α s w): @Sim (iM o') α s w:= @Sim.mk (iM o') α s w (@Sim.gl (iM o) α s w h) (@Sim.lt (iM o) α s w h) (@Sim.sc (iM o) α s w h) (fun k x hk=>by
 have:= @Sim.is (iM o) α s w h k x hk
 cases x with
 | cells cs t ext ro=>cases ext<;>exact this
 | _=>exact this) (@Sim.ne (iM o) α s w h)
theorem stp_conv{o o':FuncId→Option Orc}{α α':As}{s s':St}{w w':World}(h: @Stp (iM o) α s w α' s' w'): @Stp (iM o') α s w α' s' w':= @Stp.mk (iM o') α s w α' s' w' (@Stp.same (iM o) α s w α' s' w' h) (@Stp.n (iM o) α s w α' s' w' h) (@Stp.c (iM o) α s w α' s' w' h) (sim_conv (@Stp.sim (iM o) α s w α' s' w' h)) (@Stp.fr (iM o) α s w α' s' w' h) (@Stp.new (iM o) α s w α' s' w' h)
theorem orc_conv{o o':FuncId→Option Orc}{f:FuncId}{g:Orc}(h: @qE (iM o) f g): @qE (iM o') f g:=fun args s v s' hg α w hs ha=>by
 rcases h args s v s' hg α w (sim_conv hs) ha with ⟨u,w',h1,β,h2,h3⟩ | ⟨h1,h2⟩
 ·exact .inl ⟨u,w',h1,β,h2,stp_conv h3⟩
 ·exact .inr ⟨h1,h2.mono fun _ _ ⟨u,h3,β,h4,h5⟩=>⟨u,h3,β,h4,stp_conv h5⟩⟩
theorem orcX_ok(f:FuncId)(h:Orc)(ho:orcX f=some h):qE f h:=by
 have ho:sel (Nat.beq f 310) (some (escO)) (sel (Nat.beq f 255) (some (fieldsO 2)) (sel (Nat.beq f 234) (some (idxO)) (sel (Nat.beq f 284) (some (joinO)) (sel (Nat.beq f 102) (some (mulO)) (sel (Nat.beq f 163) (some (bothO)) (none))))))=some h:=ho
 rcases oN ho with ⟨hf,ho⟩ | ho
 ·cases ho;rw [Nat.eq_of_beq_eq_true hf];exact esc_orc rfl
 rcases oN ho with ⟨hf,ho⟩ | ho
 ·cases ho;rw [Nat.eq_of_beq_eq_true hf];exact fields_orc rfl glA spaceIs
 rcases oN ho with ⟨hf,ho⟩ | ho
 ·cases ho;rw [Nat.eq_of_beq_eq_true hf];exact idx_orc rfl
 rcases oN ho with ⟨hf,ho⟩ | ho
 ·cases ho;rw [Nat.eq_of_beq_eq_true hf];exact join_orc rfl
 rcases oN ho with ⟨hf,ho⟩ | ho
 ·cases ho;rw [Nat.eq_of_beq_eq_true hf];exact mul_orc rfl
 rcases oN ho with ⟨hf,ho⟩ | ho
 ·cases ho;rw [Nat.eq_of_beq_eq_true hf];exact both_orc rfl
 cases ho
theorem goodW{o:FuncId→Option Orc}(hO: ∀f h,o f=some h→ @qE (iM o) f h): @Good (iM o):= @Good.mk (iM o) (@Meths.mk (iM o) meth_ok meth_deref) (by kernel_rfl) (fun g k h=>by
  obtain⟨h1,h2⟩:=bS h;cases h2
  exact(show g<12 by simpa using h1)) (fun f hk fn c hf hb=>by
  have hk:oc (T.get zI f) false (fun _=>true)=true:=hk;rw [nN] at hk
  cases ht:T.get zI f with
  | none=>rw [ht] at hk;cases hk
  | some t=>
   have:=T.allP_get (all_valid o) ht;have h: @validF (iM o) f=true:=this;unfold validF at h;rw [show Tryz.prog.funcs[f]?=some fn from hf] at h;have h:oc fn.body true (fun c=> @kC (iM o) f c)=true:=h;rw [hb] at h
   exact h) (fun f h ho=>by
  have ho:oc (o f) (orcX f) some=some h:=ho;rw [nN] at ho
  cases hf:o f with
  | some g=>
   rw [hf] at ho;cases ho;exact hO f _ hf
  | none=>
   rw [hf] at ho
   exact orc_conv (o:=fun _=>none) (orcX_ok f h ho))
instance good : Good := goodW fun _ _ h => by cases h
end X
end Go.Proofs.YtofjmphlpdhohaaGreatDoor
namespace Go.Proofs.YtofjmphlpdhohaaGreatDoor
namespace X
open Go.RowKit
noncomputable section
def o0:FuncId→Option Orc:=fun _=>none
theorem okO0: @Good (iM o0):=good
def text0M:Memo:=((.t [(.g [(.l 80 0 1 (.s 12 1)),(.l 159 0 1 (.s 21 1))]),(.g [(.i .i64 0),(.i .i64 0)])]),[(80,(.cells [(.s [120]),(.i .i64 3),(.l 78 0 1 (.s 11 1))] 171 (some 12) false)),(78,(.cells [(.s [110]),(.i .i64 0)] 175 (some 11) false)),(159,(.cells [(.s []),(.i .i64 7),(.l 157 0 4 (.s 20 4))] 159 (some 21) false)),(157,(.cells [(.i .i64 2),(.i .i64 17),(.i .u8 0),(.s [120]),.l0,(.i .i64 3),(.i .i64 15),(.i .u8 2),(.s []),.l0,(.i .i64 3),(.i .i64 13),(.i .u8 2),(.s []),.l0,(.i .i64 3),(.i .i64 11),(.i .u8 2),(.s []),.l0] 183 (some 20) false))],160,22)
theorem text0R: @memoX (iM o0) 41 3000 [(.s [105,110,32,120,32,110,10,111,117,116,32,45,32,45,32,45,32,120])] zM [80,78,159,157]=some text0M:=by kernel_rfl
def l0_0:List (List V×Memo):=[([(.s [105,110,32,120,32,110,10,111,117,116,32,45,32,45,32,45,32,120])],text0M)]
theorem l0_0_ok: ∀x∈l0_0,∃N D,@memoX (iM o0) 41 N x.1 zM D=some x.2:=List.forall_mem_cons.2 ⟨⟨3000,[80,78,159,157],text0R⟩,fun _ h=>by cases h⟩
def o1:FuncId→Option Orc:=fun f=>sel (Nat.beq f 41) (some (@memoL (iM o0) zM l0_0)) ((o0 f))
theorem okH1: ∀f h,o1 f=some h→ @qE (iM o1) f h:=fun f h ho=>by
 have ho:sel (Nat.beq f 41) (some (@memoL (iM o0) zM l0_0)) ((o0 f))=some h:=ho
 rcases oN ho with ⟨hf,ho⟩ | ho
 ·cases ho;rw [Nat.eq_of_beq_eq_true hf];exact orc_conv (o:=o0) (@memo_ok (iM o0) okO0 41 zM l0_0 l0_0_ok)
 cases ho
theorem okO1: @Good (iM o1):=goodW okH1
def isTrue:Option (V×St)→Bool
 | some (.b true,_)=>true
 | _=>false
theorem isTrue_ex{q:Option (V×St)}(h:isTrue q=true): ∃s,q=some (.b true,s):=by
 cases q with
 | none=>cases h
 | some q=>
  obtain⟨v,s⟩:=q
  cases v with
  | b x=>
   cases x with
   | true=>exact⟨s,rfl⟩
   | false=>cases h
  | _=>cases h
theorem shown15R:isTrue (@bIh (iM o1) 17 (@uE (iM o1) 3000) [] (@bFt (iM o1) zM))=true:=by kernel_rfl
end
def LaidX (w:World):Prop:=Lib.TabIs Tryz.prog w "strings.asciiSpace" .u8 Lib.asciiSpaceTab∧(∃m,w.cell? ⟨1,0,none⟩=some (.int .i64 m))∧ ∃t z,w.heap[(0:Nat)]?=some (.cells #[.int .i64 0,.int .i64 (-1)] t z)
theorem base_laid{o:FuncId→Option Orc}{w:World}(h:LaidX w): @Sim (iM o) ⟨fun k=>k,fun _=>0,fun _=>none⟩ (@bFt (iM o) zM) w:=by
 obtain⟨h0,⟨m,h1⟩,t2,z2,h2⟩:=h
 have hk: ∀k x,(baseH zM).get k=some x→(k=2∧x= .know 0)∨(k=1∧x= .know 1)∨(k=0∧x= .know 2):=fun k x hx=>by
  obtain⟨m,hm,rfl⟩:=jI hx
  rcases List.mem_cons.1 hm with e | hm
  ·cases e;exact .inl ⟨rfl,rfl⟩
  ·rcases List.mem_cons.1 hm with e | hm
   ·cases e;exact .inr (.inl ⟨rfl,rfl⟩)
   ·rcases List.mem_cons.1 hm with e | hm
    ·cases e;exact .inr (.inr ⟨rfl,rfl⟩)
    ·cases hm
 refine @Sim.mk (iM o) _ _ w (fun g k hg=>?_) (fun k x hx=>?_) (fun k x hx=>?_) (fun k x hx=>?_) (fun k k' x x' _ _ e=>e)
 ·obtain⟨h2,h3⟩:=bS hg;cases h3;exact⟨(show g<12 by simpa using h2),rfl⟩
 ·rcases hk k x hx with ⟨rfl,rfl⟩ | ⟨rfl,rfl⟩ | ⟨rfl,rfl⟩
  ·exact(show(2:Nat)<12 by decide)
  ·exact(show(1:Nat)<12 by decide)
  ·exact(show(0:Nat)<12 by decide)
 ·rcases hk k x hx with ⟨rfl,rfl⟩ | ⟨rfl,rfl⟩ | ⟨rfl,rfl⟩<;>trivial
 ·rcases hk k x hx with ⟨rfl,rfl⟩ | ⟨rfl,rfl⟩ | ⟨rfl,rfl⟩
  ·unfold Lib.TabIs World.var? at h0;rw [show Tryz.prog.globalNamed "strings.asciiSpace" =some 2 by kernel_rfl] at h0;have h0:(match w.heap[2]? with | some (Obj.cells cs _ _)=>some cs | _=>none)=some (Lib.asciiSpaceTab.map fun z=>Value.int .u8 z).toArray:=h0;split at h0
   ·rename_i cs t z hw;cases h0;exact⟨_,hw,t,z,rfl⟩
   ·cases h0
  ·unfold World.cell? at h1;split at h1
   ·rename_i cs t z hw;have hc:cs[0]?=some (.int .i64 m):=h1;refine⟨_,hw,m,cs.toList.tail,t,z,?_⟩
    congr 1
    obtain⟨l⟩:=cs
    cases l with
    | nil=>cases hc
    | cons a r=>
     have:a= .int .i64 m:=by simpa using hc
     rw [this];rfl
   ·cases h1
  ·exact⟨_,h2,t2,z2,rfl⟩
theorem shown15_true{w:World}(h:LaidX w):(callFunc 17 #[]).run Tryz.prog w= .ok (.enter 17 #[]) w∧Calls Tryz.prog 17 #[] w fun e w'=>e= .returned (.bool true)∧Below w.heap.size w w':=by
 obtain⟨s,hs⟩:=isTrue_ex shown15R;exact @ran_true (iM o1) _ _ okO1 _ _ _ _ hs (base_laid h)
end X
end Go.Proofs.YtofjmphlpdhohaaGreatDoor
namespace Go.Proofs.YtofjmphlpdhohaaGreatDoor
open Go.RowKit Go.ChangeShapes
abbrev bDn:List (String×DataW Unit):=Rows.planAliveRow.laid
theorem named0:Tryz.prog.globalNamed "strings.asciiSpace" =some 2:=by kernel_rfl
theorem namedN:Tryz.prog.globalNamed "windrow/plan.none" =some 0:=by kernel_rfl
def laidF:bI where
 p S w:=(S 2∧S 1∧S 0)∧X.LaidX w
 mono:=fun{S S' w w'} hs ha h=>by
  obtain⟨⟨s0,s4,s9⟩,h0,⟨m,h4⟩,t,z,h9⟩:=h;refine⟨⟨hs _ s0,hs _ s4,hs _ s9⟩,?_,⟨m,?_⟩,t,z,?_⟩
  ·unfold Lib.TabIs World.var? at*;rw [named0] at*;simp only [Option.bind_some,ha _ s0] at*;exact h0
  ·unfold World.cell? at*;rw [ha _ s4];exact h4
  ·rw [ha _ s9];exact h9
theorem none_of{F:List bI}(h:Has F laidF):Has F (bI.cells 0 0 [.int .i64 0,.int .i64 (-1)]):=fun S w k=>by
 obtain⟨⟨_,_,s9⟩,_,_,t,z,h9⟩:=h S w k;refine⟨s9,fun j u hj=>?_⟩;unfold World.cell?;rw [h9]
 simpa using hj
theorem bBp{P:Program}{W:World}{name:String}{k:IntKind}{zs:List Int}{g:Nat}{t e:TypeId}{n:Nat}
  (hg:P.globalNamed name=some g) (hty:(P.globals[g]?).map (·.type)=some t) (ht:P.underlying t=some (.array n e)) (he:P.underlying e=some (.int k)) (hce:P.cellsOf e=1) (hct:P.cellsOf t=n)
  (h:Lib.VarReads P W name (Lib.tabData k zs)):Lib.TabIs P W name k zs:=by
 obtain⟨g',t',cs,fuel,p,hg',ht',hvar,hd⟩:=h;obtain rfl:=Option.some.inj (hg.symm.trans hg');obtain rfl:=Option.some.inj (hty.symm.trans ht');unfold Lib.TabIs;rw [hvar,←Lib.cells_of_tab ht he hce hct hd]
theorem var_lt{P:Program}{W:World}{name:String}{g:Nat}{cs:Array Value}(hg:P.globalNamed name=some g)(h:W.var? P name=some cs):g<W.heap.size:=by
 unfold World.var? at h;rw [hg] at h;simp only [Option.bind_some] at h
 cases hh:W.heap[g]? with
 | none=>rw [hh] at h;cases h
 | some o=>exact(Array.getElem?_eq_some_iff.1 hh).1
theorem cell_lt'{W:World}{g i:Nat}{v:Value}(h:W.cell? ⟨g,i,none⟩=some v):g<W.heap.size:=by
 unfold World.cell? at h
 cases hh:W.heap[g]? with
 | none=>rw [hh] at h;cases h
 | some o=>exact(Array.getElem?_eq_some_iff.1 hh).1
set_option maxRecDepth 1000000 in
theorem globF_of{W:World}(hL:laidMetH Tryz.prog bDn W)(hsh:W.ShapedOpen Tryz.prog):laidF.p (fun b=>b<W.heap.size) W:=by
 have hL':laidMet Tryz.prog bDn W:=hL;have h0:Lib.TabIs Tryz.prog W "strings.asciiSpace" .u8 Lib.asciiSpaceTab:=bBp (t:=370) (e:=5) (n:=256) named0 (by kernel_rfl) Tryz.underlying370 Tryz.underlying5 (by kernel_rfl) (by kernel_rfl)
  (Lib.laidMet.reads hL' (.tail _ (.tail _ (.tail _ (.tail _ (.tail _ (.tail _ (.tail _ (.head _)))))))))
 obtain⟨m,h4⟩:=cell_of_shapedOpen_int (P:=Tryz.prog) (g:=1) (t:=3) (zero:= #[.int .i64 0]) hsh (of_decide_eq_true (by kernel_rfl)) (by kernel_rfl) rfl (by kernel_rfl) (by kernel_rfl) Tryz.underlying3;obtain⟨g',t',cs,fuel,p,hg',ht',hvar,hd⟩:=Lib.laidMet.reads hL' (n:= "windrow/plan.none") (.tail _ (.tail _ (.tail _ (.tail _ (.tail _ (.tail _ (.tail _ (.tail _ (.head _)))))))));obtain rfl:=Option.some.inj (namedN.symm.trans hg');obtain rfl:55=t':=Option.some.inj ((show(Tryz.prog.globals[0]?).map (·.type)=some 55 by kernel_rfl).symm.trans ht');obtain⟨y0,y1,n,ex,hl,q0,q1⟩:=trod_struct2 Tryz.underlying55 hd;have hc:Tryz.prog.cellsOf 55=2:=by kernel_rfl
 have hc1:Tryz.prog.cellsOf 3=1:=by kernel_rfl
 rw [hc] at hl;have ex':Rows.laid_windrow_plan_none=(DataW.agg [y0.1,y1.1]:DataW Unit):=congrArg Prod.fst ex;injection ex' with ex'
 injection ex' with e0 ex'
 injection ex' with e1 _
 obtain⟨l⟩:=cs
 match l,hl with
 | [a,b],_=>
  obtain⟨n0,r0,x0,_⟩:=DataW.trod_int Tryz.underlying3 q0;obtain⟨n1,r1,x1,_⟩:=DataW.trod_int Tryz.underlying3 q1;rw [x0] at e0;rw [x1] at e1;have z0:0=n0:=by injection e0 with e0;injection e0
  have z1: -1=n1:=by injection e1 with e1;injection e1
  subst z0 z1;have r0:[a]=[.int .i64 0]:=r0;have r1:[b]=[.int .i64 (-1)]:=r1;injection r0 with ra
  injection r1 with rb
  subst ra;subst rb;have hN:=var_lt namedN hvar;unfold World.var? at hvar;rw [namedN] at hvar;simp only [Option.bind_some] at hvar;refine⟨⟨var_lt named0 h0,cell_lt' h4,hN⟩,h0,⟨m,h4⟩,?_⟩
  cases hh:W.heap[(0:Nat)]? with
  | none=>rw [hh] at hvar;cases hvar
  | some o=>
   rw [hh] at hvar
   cases o with
   | cells cs t z=>
    simp only [Option.some.injEq] at hvar;subst hvar;exact⟨t,z,rfl⟩
   | _=>cases hvar
theorem shown15_spec:cX Tryz.prog 17 [] [] [laidF] (fun _:Unit=> .bool true) (fun _=>[]) (fun _=>[]):=lG fun _ _ _ k=>(X.shown15_true (k laidF (List.mem_cons_self ..)).2).2
def flat1:DataW Unit→List Value
 | .lit (.int k n)=>[.int k n]
 | _=>[]
def flat2:DataW Unit→List Value
 | .agg l=>l.flatMap flat1
 | d=>flat1 d
def bDl:DataW Unit→Array Value
 | .agg l=>(l.flatMap flat2).toArray
 | _=> #[]
def whiteNums:List Int:=[9,13,1,32,133,101,160,5760,5600,8192,8202,1,8232,8233,1,8239,8287,48,12288,12288,1]
noncomputable def laidWorld (os:Os):World:=
 let N:=(World.settled Tryz.prog os).heap.size
 let w0:=World.holding Tryz.prog os ⟨#[.cells (whiteNums.map fun z=>Value.int .u16 z).toArray 411,.cells #[.slice (some ⟨N,0,none⟩) 7 7,.slice none 0 0,.int .i64 2] 408,
  .cells #[.string ⟨#[118,97,108,117,101,32,111,117,116,32,111,102,32,114,97,110,103,101]⟩] 404,.cells #[.string ⟨#[105,110,118,97,108,105,100,32,115,121,110,116,97,120]⟩] 404],#[],[]⟩
 let put (h:Array Obj) (g:Nat) (cs:Array Value):Array Obj:=h.modify g fun
  | .cells _ t frozen=> .cells cs t frozen
  | o=>o
 let h1:=put w0.heap 9 (bDl Rows.laid_math_bits_deBruijn32tab)
 let h2:=put h1 10 (bDl Rows.laid_math_bits_deBruijn64tab)
 let h3:=put h2 8 (bDl Rows.laid_internal_strconv_uint64pow10)
 let h4:=put h3 7 (bDl Rows.laid_unicode_utf8_acceptRanges)
 let h5:=put h4 4 #[.iface 402 (.pointer (some ⟨N+2,0,none⟩))]
 let h6:=put h5 3 #[.iface 402 (.pointer (some ⟨N+3,0,none⟩))]
 let h7:=put h6 5 #[.pointer (some ⟨N+1,0,none⟩)]
 let h8:=put h7 2 (bDl Rows.laid_strings_asciiSpace)
 let h9:=put h8 6 (bDl Rows.laid_unicode_utf8_first)
 let h10:=put h9 0 (bDl Rows.laid_windrow_plan_none)
 {w0 with heap:=h10}
noncomputable abbrev N0:Nat:=(World.settled Tryz.prog default).heap.size
set_option maxRecDepth 1000000 in
theorem piece0(os:Os)(args:Array Value):LaidIn Tryz.prog ((laidWorld os).forCall (fun _ _=>0) ⟨#[],args,[]⟩).memory [("math/bits.deBruijn32tab",Rows.laid_math_bits_deBruijn32tab)] [9]:=
 LaidIn.of_run [9] 10 (by kernel_rfl) (by kernel_rfl) (by kernel_rfl) (by kernel_rfl)
set_option maxRecDepth 1000000 in
theorem piece1(os:Os)(args:Array Value):LaidIn Tryz.prog ((laidWorld os).forCall (fun _ _=>0) ⟨#[],args,[]⟩).memory [("math/bits.deBruijn64tab",Rows.laid_math_bits_deBruijn64tab)] [10]:=
 LaidIn.of_run [10] 10 (by kernel_rfl) (by kernel_rfl) (by kernel_rfl) (by kernel_rfl)
set_option maxRecDepth 1000000 in
theorem piece2(os:Os)(args:Array Value):LaidIn Tryz.prog ((laidWorld os).forCall (fun _ _=>0) ⟨#[],args,[]⟩).memory [("internal/strconv.uint64pow10",Rows.laid_internal_strconv_uint64pow10)] [8]:=
 LaidIn.of_run [8] 10 (by kernel_rfl) (by kernel_rfl) (by kernel_rfl) (by kernel_rfl)
set_option maxRecDepth 1000000 in
theorem piece3(os:Os)(args:Array Value):LaidIn Tryz.prog ((laidWorld os).forCall (fun _ _=>0) ⟨#[],args,[]⟩).memory [("unicode/utf8.acceptRanges",Rows.laid_unicode_utf8_acceptRanges)] [7]:=
 LaidIn.of_run [7] 10 (by kernel_rfl) (by kernel_rfl) (by kernel_rfl) (by kernel_rfl)
set_option maxRecDepth 1000000 in
theorem piece4(os:Os)(args:Array Value):LaidIn Tryz.prog ((laidWorld os).forCall (fun _ _=>0) ⟨#[],args,[]⟩).memory [("strconv.ErrRange",Rows.laid_strconv_ErrRange)] [4,N0+2]:=
 LaidIn.of_run [4,N0+2] 10 (by kernel_rfl) (by kernel_rfl) (by kernel_rfl) (by kernel_rfl)
set_option maxRecDepth 1000000 in
theorem piece5(os:Os)(args:Array Value):LaidIn Tryz.prog ((laidWorld os).forCall (fun _ _=>0) ⟨#[],args,[]⟩).memory [("strconv.ErrSyntax",Rows.laid_strconv_ErrSyntax)] [3,N0+3]:=
 LaidIn.of_run [3,N0+3] 10 (by kernel_rfl) (by kernel_rfl) (by kernel_rfl) (by kernel_rfl)
set_option maxRecDepth 1000000 in
theorem piece6(os:Os)(args:Array Value):LaidIn Tryz.prog ((laidWorld os).forCall (fun _ _=>0) ⟨#[],args,[]⟩).memory [("unicode.White_Space",Rows.laid_unicode_White_Space)] [5,N0,N0+1]:=
 LaidIn.of_run [5,N0,N0+1] 10 (by kernel_rfl) (by kernel_rfl) (by kernel_rfl) (by kernel_rfl)
set_option maxRecDepth 1000000 in
theorem piece7(os:Os)(args:Array Value):LaidIn Tryz.prog ((laidWorld os).forCall (fun _ _=>0) ⟨#[],args,[]⟩).memory [("strings.asciiSpace",Rows.laid_strings_asciiSpace)] [2]:=
 LaidIn.of_run [2] 10 (by kernel_rfl) (by kernel_rfl) (by kernel_rfl) (by kernel_rfl)
set_option maxRecDepth 1000000 in
theorem piece8(os:Os)(args:Array Value):LaidIn Tryz.prog ((laidWorld os).forCall (fun _ _=>0) ⟨#[],args,[]⟩).memory [("unicode/utf8.first",Rows.laid_unicode_utf8_first)] [6]:=
 LaidIn.of_run [6] 10 (by kernel_rfl) (by kernel_rfl) (by kernel_rfl) (by kernel_rfl)
set_option maxRecDepth 1000000 in
theorem pieceN(os:Os)(args:Array Value):LaidIn Tryz.prog ((laidWorld os).forCall (fun _ _=>0) ⟨#[],args,[]⟩).memory [("windrow/plan.none",Rows.laid_windrow_plan_none)] [0]:=
 LaidIn.of_run [0] 10 (by kernel_rfl) (by kernel_rfl) (by kernel_rfl) (by kernel_rfl)
set_option maxRecDepth 1000000 in
theorem laid_met(os:Os)(args:Array Value):laidMet Tryz.prog bDn ((laidWorld os).forCall (fun _ _=>0) ⟨#[],args,[]⟩).memory:=
 ((((((((((piece0 os args).append (piece1 os args) (by kernel_rfl)).append (piece2 os args) (by kernel_rfl)).append (piece3 os args) (by kernel_rfl)).append (piece4 os args) (by kernel_rfl)).append (piece5 os args) (by kernel_rfl)).append (piece6 os args) (by kernel_rfl)).append (piece7 os args) (by kernel_rfl)).append (pieceN os args) (by kernel_rfl)).append (piece8 os args) (by kernel_rfl)).met
end Go.Proofs.YtofjmphlpdhohaaGreatDoor
namespace Go.Proofs.YtofjmphlpdhohaaGreatDoor
open Go.RowKit Go.ChangeShapes Go.WideShapes
section
variable {H : Type} {enc : TypeId × Value → H} {P : Program}
theorem uI(hl:laidOutB P=true){W W':World}(hb:Below W.heap.size W W'): ∀{ts:List TypeId} {vs:List Value} {ds:List (DataW H)} {ps:List MemPlace},
  (∀t∈ts,P.readableRec t=true∧t<P.types.size)→(∀x∈ps,x.block<W.heap.size)→DataW.TrodAll enc P W 0 (fun _=>true) true ts vs ds ps→
  DataW.TrodAll enc P W' 0 (fun b=>decide (b<W.heap.size)) true ts vs ds ps
 | [],_,_,_,_,_,h=>by
  obtain⟨rfl,rfl,rfl⟩:=trodAll_nil h;exact trodAll_mk0
 | t::ts,_,_,_,ht,hlt,h=>by
  obtain⟨v,vs,d,ds,p,q,rfl,rfl,rfl,h1,h2⟩:=trodAll_cons h;have hr:=ht t (by simp);exact trodAll_cons_mk (Below.trod hl hr.1 hr.2 h1 hb (fun x hx=>hlt x (by simp [hx]))) (uI hl hb (fun t h=>ht t (by simp [h])) (fun x hx=>hlt x (by simp [hx])) h2)
theorem law_post{f:Func}{s:ChangeSpec}{W W':World}{args:Array Value}{ds:List (DataW H)}{before:List MemPlace}{tb:TypeId}
  (hW:DataW.Whole enc P f.params.toList s.vars false W args.toList ds [] before) (hv:s.vars=[]) (hfn:s.fn H (ds++[])={results:=[.lit (.bool true)],args:=ds})
  (hr:f.resultTypes= #[tb]) (hb:P.underlying tb=some .bool) (hl:laidOutB P=true) (hread: ∀t∈f.params.toList,P.readableRec t=true∧t<P.types.size) (h:Below W.heap.size W W'):
  s.post enc P f false true false false W args (.bool true) W':=by
 have hlt: ∀p∈before,p.block<W.heap.size:=fun p hp=>hW.lt p hp;have hW':=hW;obtain⟨p,q,hA,hV,rfl,_,_⟩:=hW;rw [hv] at hV;have hq:q=[]:=hV;subst hq;refine⟨ds,[],_,[],p,[],hW',?_,?_,?_,?_,fun h=>by cases h⟩
 ·rw [hfn,hr];exact trodAll_mk1 (shut_bool hb true)
 ·rw [hfn];exact uI hl h hread (fun x hx=>hlt x (by simp [hx])) hA
 ·rw [hfn,hv];rfl
 ·exact h.frame _
end
theorem bFp{ι:Type}{f:FuncId}{args:List Value}{Pre:List bI}{v:Value}(h:cX Tryz.prog f args [] Pre (fun _:ι=>v) (fun _=>[]) (fun _=>[])){w:World}(hp:All Pre (fun b=>b<w.heap.size) w):
  Calls Tryz.prog f args.toArray w fun e w'=>e= .returned v∧Below w.heap.size w w':=by
 refine(h (fun b=>b<w.heap.size) w ⟨mC.refl _ _,fun c hc=>by simp at hc,fun c hc=>by simp at hc,List.Pairwise.nil,fun b hb=>⟨hb,.inl hb⟩⟩ hp).mono ?_;rintro e w' ⟨_,_,rfl,s,_⟩;refine⟨rfl,s.kept.os,s.kept.tape,s.kept.output,s.kept.size,fun k hk=>s.kept.block k hk fun⟨c,hc,_⟩=>by simp at hc⟩
theorem own:ownKnob Tryz.prog.godebug=none:=by kernel_rfl
theorem laid:laidOutB Tryz.prog=true:=by kernel_rfl
end Go.Proofs.YtofjmphlpdhohaaGreatDoor
namespace Go.Proofs.YtofjmphlpdhohaaGreatDoor
open Go.RowKit
set_option maxRecDepth 100000
def xM (m:Mono):Bool:=decide (m.n<0)
def mF (p:List Mono):Bool:=cH p&& !(p.any xM)
set_option maxHeartbeats 400000 in
theorem neg_any(m:Mono)(w:World):Calls Tryz.prog 167 #[.agg #[.int .i64 m.n,.int .u8 m.e0.toNat,.int .u8 m.e1.toNat,.int .u8 m.e2.toNat,.int .u8 m.e3.toNat,.int .u8 m.e4.toNat,.int .u8 m.e5.toNat]] w fun e w'=>e= .returned (.bool (xM m))∧Below w.heap.size w w':=by
 go_enter Tryz.func167,Tryz.ntmps167
 go_wp2
 go_ret
 exact⟨rfl,by go_grown⟩
def IdxPost(w:World)(b:Bool)(e:Ending)(w':World):Prop:= ∃i:Int,e= .returned (.int .i64 i)∧decide (0≤i)=b∧Below w.heap.size w w'
set_option maxRecDepth 100000 in
set_option maxHeartbeats 1000000 in
theorem index_any(A:Option Addr)(c:Nat)(xs:List Mono)(w:World)(ha:gZ w A xs)(hx:xs.length≤140737488355328):
  Calls Tryz.prog 225 #[.slice A xs.length c,.func (.func 167) #[] #[]] w (IdxPost w (xs.any xM)):=by
 have Ha:=Lib.hid ha;clear ha
 go_enter Tryz.func225,Tryz.ntmps225
 go_wp2
 go_loopw [8] (fun i wr=> ∃k:Nat,k≤xs.length∧i= .int .i64 k∧Hid (xs.any xM=(xs.drop k).any xM)∧Below w.heap.size w wr) (fun i _=>xs.length-(intOf i).toNat)
 case atStart=>exact⟨0,Nat.zero_le _,rfl,rfl,Below.refl _ _⟩
 case round=>
  obtain⟨k,hk,rfl,hs,hbl⟩:=hrel
  by_cases hlt:k<xs.length
  ·obtain⟨m,hm,dm⟩:=kO hlt;obtain⟨b,o,rfl,hB,c0,c1,c2,c3,c4,c5,c6⟩:=Ha.out.below hbl k m hm;have HS:=Lib.hid (show xs.any xM=(xM m || (xs.drop (k+1)).any xM) by rw [hs.out,dm,List.any_cons]);have HBL:=Lib.hid hbl;clear hs hm dm hB hbl
   go_wp2_with (go_at_call 167;refine(neg_any m _).mono ?_;rintro e w1 ⟨rfl,hb1⟩)
   ·have hng:xM m=true:=by assumption
    go_ret
    exact⟨k,rfl,by rw [HS.out,hng,Bool.true_or];simp,HBL.out.trans (hb1.mono HBL.out.size)⟩
   ·have hng:xM m=false:=by assumption
    go_roundw
    case rel=>exact⟨k+1,by omega,by go_num,(by show _=_;rw [HS.out,hng,Bool.false_or]),HBL.out.trans (hb1.mono HBL.out.size)⟩
    case measure=>simp [intOf];omega
  ·have HS:=Lib.hid (show xs.any xM=false by rw [hs.out,List.drop_of_length_le (by omega)];rfl);clear hs
   go_wp2
   go_ret
   exact⟨-1,rfl,by rw [HS.out];rfl,hbl⟩
set_option maxHeartbeats 400000 in
theorem contains_any(A:Option Addr)(c:Nat)(xs:List Mono)(w:World)(ha:gZ w A xs)(hx:xs.length≤140737488355328):
  Calls Tryz.prog 166 #[.slice A xs.length c,.func (.func 167) #[] #[]] w fun e w'=>e= .returned (.bool (xs.any xM))∧Below w.heap.size w w':=by
 have Ha:=Lib.hid ha;clear ha
 go_enter Tryz.func166,Tryz.ntmps166
 go_wp2_with fail
 refine(index_any A c xs _ Ha.out hx).mono ?_;rintro e w1 ⟨i,rfl,hi,hb1⟩;have Hi:=Lib.hid hi;clear hi
 go_wp2
 go_ret
 exact⟨jH Hi.out,hb1⟩
set_option maxHeartbeats 400000 in
theorem grows_any(A:Option Addr)(c:Nat)(xs:List Mono)(w:World)(ha:gZ w A xs)(hx:xs.length≤140737488355328):
  Calls Tryz.prog 108 #[.slice A xs.length c] w fun e w'=>e= .returned (.bool (mF xs))∧Below w.heap.size w w':=by
 have Ha:=Lib.hid ha;clear ha;cases hr:cH xs
 ·go_enter Tryz.func108,Tryz.ntmps108
  go_wp2_with fail
  refine(fR A c xs _ Ha.out hx).mono ?_;rintro e w1 ⟨rfl,hb1⟩
  go_wp2
  go_ret
  exact⟨jH (by unfold mF;rw [hr];rfl),hb1⟩
 ·go_enter Tryz.func108,Tryz.ntmps108
  go_wp2_with fail
  refine(fR A c xs _ Ha.out hx).mono ?_;rintro e w1 ⟨rfl,hb1⟩;have H1:=Lib.hid hb1;clear hb1
  go_wp2_with fail
  refine(contains_any A c xs _ (Ha.out.below H1.out) hx).mono ?_;rintro e w2 ⟨rfl,hb2⟩;have H2:=Lib.hid (H1.out.trans (hb2.mono H1.out.size));clear hb2
  go_wp2
  go_ret
  exact⟨jH (by unfold mF;rw [hr,Bool.true_and]),H2.out⟩
end Go.Proofs.YtofjmphlpdhohaaGreatDoor
namespace Go.Proofs.YtofjmphlpdhohaaGreatDoor
open Go.RowKit
def dY:Flat Mono where
 size:=7
 cells:=Mono.cells
 len:=fun _=>rfl
 one:=fun x u hu=>by
  simp [Mono.cells] at hu
  rcases hu with rfl | rfl | rfl | rfl | rfl | rfl | rfl<;>rfl
 pos:=by decide
theorem monos_of{S:iX}{w:World}{A:Option Addr}{k c:Nat}{l:List Mono}(hS: ∀b,S b→b<w.heap.size)(h:(dY.sl (.slice A k c) l).p S w):gZ w A l∧k=l.length:=by
 obtain⟨A',cap,e,h⟩:=h;injection e with e1 e2 e3
 subst e1 e2;refine⟨fun k m hk=>?_,rfl⟩;obtain⟨b,o,cs,e1,e2,e3,e4⟩:=h k m hk;have e4:cs=m.cells:=e4;subst e4;exact⟨b,o,e1,hS b e2,e3 0 _ rfl,e3 1 _ rfl,e3 2 _ rfl,e3 3 _ rfl,e3 4 _ rfl,e3 5 _ rfl,e3 6 _ rfl⟩
theorem sl_of{w:World}{A:Option Addr}{c:Nat}{l:List Mono}(h:gZ w A l):(dY.sl (.slice A l.length c) l).p (fun b=>b<w.heap.size) w:=by
 refine⟨A,c,rfl,fun k m hk=>?_⟩;obtain⟨b,o,e,hb,h0,h1,h2,h3,h4,h5,h6⟩:=h k m hk;refine⟨b,o,m.cells,e,hb,fun j u hj=>?_,rfl⟩;have hlt:=(List.getElem?_eq_some_iff.1 hj).1;rw [Mono.cells_length] at hlt
 match j,hlt with
 | 0,_=>simp [Mono.cells] at hj;subst hj;exact h0
 | 1,_=>simp [Mono.cells] at hj;subst hj;exact h1
 | 2,_=>simp [Mono.cells] at hj;subst hj;exact h2
 | 3,_=>simp [Mono.cells] at hj;subst hj;exact h3
 | 4,_=>simp [Mono.cells] at hj;subst hj;exact h4
 | 5,_=>simp [Mono.cells] at hj;subst hj;exact h5
 | 6,_=>simp [Mono.cells] at hj;subst hj;exact h6
abbrev PolV:=Sl Mono
def fG (p:PolV):bI:=(dY.sl (.slice p.addr p.list.length p.cap) p.list).and (bI.pure (p.list.length≤8796093022208))
section
variable (p : PolV)
theorem kF{p:PolV}{S:iX}{w:World}(hS: ∀b,S b→b<w.heap.size)(h:(fG p).p S w):gZ w p.addr p.list:=(monos_of hS h.1).1
theorem bEq(hp:p.list.length≤140737488355328):cX Tryz.prog 108 [.slice p.addr p.list.length p.cap] [] [fG p] (fun _:Unit=> .bool (mF p.list)) (fun _=>[]) (fun _=>[]):=
 lG fun _ w hS h=>grows_any _ _ _ w (kF hS (h _ (.head _))) hp
theorem polR_spec(hp:p.list.length≤140737488355328):cX Tryz.prog 61 [.slice p.addr p.list.length p.cap] [] [fG p] (fun _:Unit=> .bool (cH p.list)) (fun _=>[]) (fun _=>[]):=
 lG fun _ w hS h=>fR _ _ _ w (kF hS (h _ (.head _))) hp
end
end Go.Proofs.YtofjmphlpdhohaaGreatDoor
namespace Go.Proofs.YtofjmphlpdhohaaGreatDoor
open Go.RowKit Go.ChangeShapes Go.WideShapes
def jT:Flat PolV:=slE Mono
def iO:Flat Bool where
 size:=1
 cells:=fun x=>[.bool x]
 len:=fun _=>rfl
 one:=fun x u hu=>by simp at hu;subst hu;rfl
 pos:=by decide
structure OpV where
 how:Int
 k:Int
 n:Int
 p:PolV
 fn:Int
 deriving Inhabited
def opE:Flat OpV where
 size:=5
 cells:=fun x=>[.int .i64 x.how,.int .i64 x.k,.int .i64 x.n,.slice x.p.addr x.p.list.length x.p.cap,.int .u8 x.fn]
 len:=fun _=>rfl
 one:=fun x u hu=>by
  simp at hu
  rcases hu with rfl | rfl | rfl | rfl | rfl<;>rfl
 pos:=by decide
structure jV where
 sides:(Sl PolV)
 input:Int
 deriving Inhabited
def bAf:Flat jV where
 size:=2
 cells:=fun x=>[.slice x.sides.addr x.sides.list.length x.sides.cap,.int .i64 x.input]
 len:=fun _=>rfl
 one:=fun x u hu=>by
  simp at hu
  rcases hu with rfl | rfl<;>rfl
 pos:=by decide
structure gQ where
 how:Int
 buf:Int
 at_:PolV
 loops:(Sl PolV)
 fn:Int
 ops:(Sl OpV)
 deriving Inhabited
def zQ:Flat gQ where
 size:=6
 cells:=fun x=>[.int .i64 x.how,.int .i64 x.buf,.slice x.at_.addr x.at_.list.length x.at_.cap,.slice x.loops.addr x.loops.list.length x.loops.cap,.int .u8 x.fn,.slice x.ops.addr x.ops.list.length x.ops.cap]
 len:=fun _=>rfl
 one:=fun x u hu=>by
  simp at hu
  rcases hu with rfl | rfl | rfl | rfl | rfl | rfl<;>rfl
 pos:=by decide
structure iF where
 vars:Int
 bufs:(Sl jV)
 steps:(Sl gQ)
 outs:(Sl Int)
 deriving Inhabited
def coreE:Flat iF where
 size:=4
 cells:=fun x=>[.int .i64 x.vars,.slice x.bufs.addr x.bufs.list.length x.bufs.cap,.slice x.steps.addr x.steps.list.length x.steps.cap,.slice x.outs.addr x.outs.list.length x.outs.cap]
 len:=fun _=>rfl
 one:=fun x u hu=>by
  simp at hu
  rcases hu with rfl | rfl | rfl | rfl<;>rfl
 pos:=by decide
structure dJ where
 from_:Int
 to_:Int
 deriving Inhabited
def iP:Flat dJ where
 size:=2
 cells:=fun x=>[.int .i64 x.from_,.int .i64 x.to_]
 len:=fun _=>rfl
 one:=fun x u hu=>by
  simp at hu
  rcases hu with rfl | rfl<;>rfl
 pos:=by decide
def coreT:Tab:=[(3,⟨.int .i64,1⟩),(2,⟨.int .i64,1⟩),(5,⟨.int .u8,1⟩),(4,⟨.bool,1⟩),(37,⟨.int .u8,1⟩),(31,⟨.int .i64,1⟩),(35,⟨.slice 45,1⟩),(36,⟨.slice 35,1⟩),(42,⟨.struct [(3,0),(3,1),(2,2),(35,3),(37,4)],5⟩),(38,⟨.slice 42,1⟩),(47,⟨.struct [(36,0),(3,1)],2⟩),(22,⟨.slice 47,1⟩),(40,⟨.struct [(3,0),(3,1),(35,2),(36,3),(37,4),(38,5)],6⟩),(23,⟨.slice 40,1⟩),(24,⟨.slice 3,1⟩),(51,⟨.slice 4,1⟩),(26,⟨.struct [(3,0),(22,1),(23,2),(24,3)],4⟩),(55,⟨.struct [(3,0),(3,1)],2⟩),(48,⟨.slice 55,1⟩),(115,⟨.struct [(3,0),(3,1),(3,2),(51,3)],4⟩),(112,⟨.array 64 4,64⟩),(45,⟨.struct [(2,0),(43,1)],7⟩),(43,⟨.array 6 5,6⟩),(258,⟨.slice 5,1⟩),(206,⟨.int .u64,1⟩),(113,⟨.other,1⟩),(202,⟨.other,1⟩),(119,⟨.other,1⟩)]
theorem dW:dV Tryz.prog coreT:=pL.ok
 ⟨⟨by rw [Tryz.underlying3];rfl,by kernel_rfl⟩,
  ⟨by rw [Tryz.underlying2];rfl,by kernel_rfl⟩,
  ⟨by rw [Tryz.underlying5];rfl,by kernel_rfl⟩,
  ⟨by rw [Tryz.underlying4];rfl,by kernel_rfl⟩,
  ⟨by rw [Tryz.underlying37];rfl,by kernel_rfl⟩,
  ⟨by rw [Tryz.underlying31];rfl,by kernel_rfl⟩,
  ⟨by rw [Tryz.underlying35];rfl,by kernel_rfl⟩,
  ⟨by rw [Tryz.underlying36];rfl,by kernel_rfl⟩,
  ⟨by rw [Tryz.underlying42];rfl,by kernel_rfl⟩,
  ⟨by rw [Tryz.underlying38];rfl,by kernel_rfl⟩,
  ⟨by rw [Tryz.underlying47];rfl,by kernel_rfl⟩,
  ⟨by rw [Tryz.underlying22];rfl,by kernel_rfl⟩,
  ⟨by rw [Tryz.underlying40];rfl,by kernel_rfl⟩,
  ⟨by rw [Tryz.underlying23];rfl,by kernel_rfl⟩,
  ⟨by rw [Tryz.underlying24];rfl,by kernel_rfl⟩,
  ⟨by rw [Tryz.underlying51];rfl,by kernel_rfl⟩,
  ⟨by rw [Tryz.underlying26];rfl,by kernel_rfl⟩,
  ⟨by rw [Tryz.underlying55];rfl,by kernel_rfl⟩,
  ⟨by rw [Tryz.underlying48];rfl,by kernel_rfl⟩,
  ⟨by rw [Tryz.underlying115];rfl,by kernel_rfl⟩,
  ⟨by rw [Tryz.underlying112];rfl,by kernel_rfl⟩,
  ⟨by rw [Tryz.underlying45];rfl,by kernel_rfl⟩,
  ⟨by rw [Tryz.underlying43];rfl,by kernel_rfl⟩,
  ⟨by rw [Tryz.underlying258];rfl,by kernel_rfl⟩,
  ⟨by rw [Tryz.underlying206];rfl,by kernel_rfl⟩,
  ⟨by rw [Tryz.underlying113];rfl,by kernel_rfl⟩,
  ⟨by rw [Tryz.underlying202];rfl,by kernel_rfl⟩,
  ⟨by rw [Tryz.underlying119];rfl,by kernel_rfl⟩,trivial⟩
end Go.Proofs.YtofjmphlpdhohaaGreatDoor
namespace Go.Proofs.YtofjmphlpdhohaaGreatDoor
open Go.RowKit
instance : DecidableEq Mono := fun a b => decidable_of_iff (a.eqB b = true) (Mono.eqB_iff a b)
structure OpC where
 how:Int
 k:Int
 n:Int
 p:List Mono
 fn:Int
 deriving DecidableEq
structure kZ where
 sides:List (List Mono)
 input:Int
 deriving DecidableEq
structure dU where
 how:Int
 buf:Int
 at_:List Mono
 loops:List (List Mono)
 fn:Int
 ops:List OpC
 deriving DecidableEq
structure fL where
 vars:Int
 bufs:List kZ
 steps:List dU
 outs:List Int
 deriving DecidableEq
structure LifeC where
 from_:Int
 to_:Int
 deriving DecidableEq
def kT (f:Int)(two:Bool):Bool:=if f<1∨17<f then false else if f=16 then !two else two || decide (f≤7)
def fJ (h:Int):Int:=if h=1∨h=2∨h=3 then 0 else if h=4∨h=5 then 1 else if h=6 then 2 else-1
def wX:List OpC→Int→Int→Int
 | [],most,now=>if now=1 then most else-1
 | o::r,most,now=>if fJ o.how<0∨now<fJ o.how then-1 else wX r (max most (now+(1-fJ o.how))) (now+(1-fJ o.how))
def xU (l:List OpC):Int:=wX l 0 0
def clampK(vars:Int):Nat:=(min (max vars 0) 6).toNat
def ofB (p:List Mono)(vars:Int):Bool:=p.all (fun m=>(m.E.drop (clampK vars)).all (fun e=>e==0))&&cH p
def lN (l:List (List Mono))(vars:Int):Bool:=l.all (fun p=>ofB p vars&&mF p)&&decide (l.length≤4)
def opB (vars loops buf:Int)(made:List Bool)(o:OpC):Bool:=
 if o.how=1 then o.k==0&&(o.p.isEmpty&&o.fn==0)
 else if o.how=2 then ofB o.p vars&&(o.n==0&&(o.k==0&&o.fn==0))
 else if o.how=3 then decide (0≤o.k∧o.k<loops)&&(o.n==0&&(o.p.isEmpty&&o.fn==0))
 else if o.how=4 then decide (0≤o.k∧o.k≠buf)&&(made.getD o.k.toNat false&&(o.n==0&&(o.p.isEmpty&&o.fn==0)))
 else if o.how=5∨o.how=6 then kT o.fn (o.how==6)&&(o.n==0&&(o.k==0&&o.p.isEmpty))
 else false
def nF (vars:Int)(made:List Bool)(x:dU):Bool:=
 (ofB x.at_ vars&&mF x.at_)&&(lN x.loops vars&&(decide (x.ops.length≤256)&&(decide (0≤xU x.ops)&&
  ((if x.how=1 then x.fn==0 else if x.how=2∨x.how=3 then !x.loops.isEmpty&&kT x.fn true else false)&&x.ops.all (opB vars x.loops.length x.buf made)))))
def sL (vars:Int):List kZ→List Int→Bool
 | [],_=>true
 | b::r,seen=>lN b.sides vars&&(decide (-1≤b.input∧b.input<64)&&(!(seen.contains b.input)&&sL vars r (if 0≤b.input then b.input::seen else seen)))
def lH (vars:Int)(bufs:List kZ):List dU→List Bool→Bool
 | [],_=>true
 | x::r,made=>(decide (0≤x.buf)&&(match bufs[x.buf.toNat]? with
   | some b=>decide (b.input<0)
   | none=>false))&&(nF vars made x&&lH vars bufs r (made.set x.buf.toNat true))
def rJ (bufs:List kZ):List Bool:=bufs.map fun b=>decide (0≤b.input)
def dE (c:fL):Bool:=
 decide (0≤c.vars∧c.vars≤6∧c.bufs.length≤1024∧c.steps.length≤1024∧c.outs.length≤64)&&(sL c.vars c.bufs []&&(lH c.vars c.bufs c.steps (rJ c.bufs)&&c.outs.all fun k=>decide (0≤k∧k<c.bufs.length)))
def pY (l:List OpC):List Nat:=l.filterMap fun o=>if o.how=4 then some o.k.toNat else none
def gJ (i:Int)(l:List LifeC)(k:Nat):List LifeC:=l.modify k fun x=>{x with to_:=i}
def tI (i:Int)(l:List LifeC)(k:Nat):List LifeC:=l.modify k fun x=>{x with from_:=i}
def iT (i:Int)(x:dU)(s:List LifeC×List Bool):List LifeC×List Bool:=
 (gJ i (if s.2.getD x.buf.toNat false=true then (pY x.ops).foldl (gJ i) s.1 else tI i ((pY x.ops).foldl (gJ i) s.1) x.buf.toNat) x.buf.toNat,s.2.set x.buf.toNat true)
def nH:Int→List dU→List LifeC×List Bool→List LifeC×List Bool
 | _,[],s=>s
 | i,x::r,s=>nH (i+1) r (iT i x s)
def qQ (outs:List Int):Nat→List kZ→List LifeC
 | _,[]=>[]
 | k,b::r=>⟨if 0≤b.input∨outs.contains (k:Int)=true then-1 else 0,-1⟩::qQ outs (k+1) r
def livesC(c:fL):List LifeC:=(c.outs.map Int.toNat).foldl (gJ c.steps.length) (nH 0 c.steps (qQ c.outs 0 c.bufs,List.replicate c.bufs.length false)).1
section
variable {i j : Int} {l : List LifeC} {k b : Nat}
theorem bHk:(gJ i l k).length=l.length:=List.length_modify ..
theorem setFrom_len:(tI i l k).length=l.length:=List.length_modify ..
theorem bFu:(gJ i l k)[b]?=(l[b]?).map fun x=>if k=b then {x with to_:=i} else x:=by
 unfold gJ;rw [List.getElem?_modify]
 by_cases h:k=b
 ·simp [h]
 ·simp [h]
theorem setFrom_get:(tI i l k)[b]?=(l[b]?).map fun x=>if k=b then {x with from_:=i} else x:=by
 unfold tI;rw [List.getElem?_modify]
 by_cases h:k=b
 ·simp [h]
 ·simp [h]
theorem mI: ∀(ks:List Nat) (l:List LifeC),(ks.foldl (gJ i) l)[b]?=(l[b]?).map fun x=>if b∈ks then {x with to_:=i} else x
 | [],l=>by simp
 | k::ks,l=>by
  rw [List.foldl_cons,mI ks,bFu,Option.map_map]
  congr 1
  funext x
  by_cases h1:k=b
  ·subst h1
   by_cases h2:k∈ks<;>simp [h2]
  ·by_cases h2:b∈ks
   ·simp [h1,h2]
   ·have: ¬b=k:=fun e=>h1 e.symm;simp [h1,h2,this]
theorem qM: ∀(ks:List Nat) (l:List LifeC),(ks.foldl (gJ i) l).length=l.length
 | [],_=>rfl
 | k::ks,l=>by rw [List.foldl_cons,qM ks,bHk]
end
theorem liveStep_get{i:Int}{x:dU}{s:List LifeC×List Bool}{b:Nat}{y:LifeC}(hy:s.1[b]?=some y):(iT i x s).1[b]?=some ⟨if x.buf.toNat=b∧s.2.getD b false=false then i else y.from_,if x.buf.toNat=b∨b∈pY x.ops then i else y.to_⟩:=by
 unfold iT;simp only;rw [bFu]
 by_cases hm:s.2.getD x.buf.toNat false=true
 ·rw [if_pos hm,mI,hy];simp only [Option.map_some]
  congr 1
  by_cases h1:x.buf.toNat=b
  ·subst h1;simp only [true_and,true_or,if_true,hm,Bool.true_eq_false,if_false]
   by_cases h2:x.buf.toNat∈pY x.ops<;>simp [h2]
  ·by_cases h2:b∈pY x.ops<;>simp [h1,h2]
 ·rw [if_neg hm,setFrom_get,mI,hy];have hm:s.2.getD x.buf.toNat false=false:=by simpa using hm
  simp only [Option.map_some]
  congr 1
  by_cases h1:x.buf.toNat=b
  ·subst h1;simp only [true_and,true_or,if_true,hm]
  ·by_cases h2:b∈pY x.ops<;>simp [h1,h2]
theorem qP{i:Int}{x:dU}{s:List LifeC×List Bool}:(iT i x s).1.length=s.1.length:=by
 unfold iT;simp only;rw [bHk];split
 ·rw [qM]
 ·rw [setFrom_len,qM]
theorem vD: ∀(outs:List Int) (k:Nat) (bufs:List kZ),(qQ outs k bufs).length=bufs.length
 | _,_,[]=>rfl
 | outs,k,b::r=>by rw [qQ,List.length_cons,List.length_cons,vD]
end Go.Proofs.YtofjmphlpdhohaaGreatDoor
namespace Go.Proofs.YtofjmphlpdhohaaGreatDoor
open Go.RowKit
def bIp (x:dU)(b:Int):Bool:=x.ops.any (fun o=>o.how==4&&o.k==b) || x.buf==b
def jQ (b:Int):Int→List dU→Int→Int
 | _,[],d=>d
 | i,x::r,d=>if x.buf=b then i else jQ b (i+1) r d
def qX (b:Int):Int→List dU→Int→Int
 | _,[],d=>d
 | i,x::r,d=>qX b (i+1) r (if bIp x b=true then i else d)
def yC (b:Int)(l:List dU):Bool:=l.any fun x=>bIp x b
def lifeR (c:fL)(b:Nat)(u:kZ):LifeC:=
 if (yC b c.steps || (c.outs.contains (b:Int) || decide (0≤u.input)))=false then ⟨0,-1⟩
 else ⟨jQ b 0 c.steps (-1),if c.outs.contains (b:Int)=true then c.steps.length else qX b 0 c.steps (-1)⟩
def livesR(c:fL):List LifeC:=c.bufs.mapIdx (lifeR c)
def wholeS(x:dU)(sides:List (List Mono)):Bool:=x.at_.isEmpty&&decide ((if x.how=2 then x.loops.dropLast else x.loops)=sides)
def uY (steps:List dU)(b:Nat)(u:kZ):Bool:=match steps.filter (fun x=>x.buf==(b:Int)) with
 | [x]=>wholeS x u.sides
 | _=>false
def fullC (c:fL):List Bool:=c.bufs.mapIdx (uY c.steps)
section
variable {b i d : Int} {r : List dU} {x : dU}
theorem wV: ∀{r:List dU} {i d:Int},yC b r=false→qX b i r d=d
 | [],_,_,_=>rfl
 | x::r,i,d,h=>by
  unfold yC at h;rw [List.any_cons,Bool.or_eq_false_iff] at h;rw [qX,if_neg (by rw [h.1];simp)];exact wV h.2
theorem qN: ∀{r:List dU} {i d:Int},(∀x∈r,x.buf≠b)→jQ b i r d=d
 | [],_,_,_=>rfl
 | x::r,i,d,h=>by
  rw [jQ,if_neg (h x (List.mem_cons_self ..))];exact qN fun y hy=>h y (List.mem_cons_of_mem _ hy)
theorem xF: ∀{r:List dU} {i d d':Int},(∃x∈r,x.buf=b)→jQ b i r d=jQ b i r d'
 | [],_,_,_,h=>by obtain⟨x,hx,_⟩:=h;cases hx
 | x::r,i,d,d',h=>by
  rw [jQ,jQ]
  by_cases e:x.buf=b
  ·rw [if_pos e,if_pos e]
  ·rw [if_neg e,if_neg e];obtain⟨y,hy,e2⟩:=h
   rcases List.mem_cons.1 hy with rfl | hy
   ·exact absurd e2 e
   ·exact xF ⟨y,hy,e2⟩
end
def NatStep(x:dU):Prop:=0≤x.buf∧ ∀o∈x.ops,o.how=4→0≤o.k
theorem bCy{x:dU}{b:Nat}(h:NatStep x):bIp x b=true↔x.buf.toNat=b∨b∈pY x.ops:=by
 unfold bIp;rw [Bool.or_eq_true,List.any_eq_true];constructor
 ·rintro(⟨o,ho,h1⟩ | h1)
  ·right;simp only [Bool.and_eq_true,beq_iff_eq] at h1;exact List.mem_filterMap.2 ⟨o,ho,by rw [if_pos h1.1,h1.2];rfl⟩
  ·left;rw [beq_iff_eq] at h1;omega
 ·rintro(h1 | h1)
  ·right;rw [beq_iff_eq];have:=h.1;omega
  ·left;obtain⟨o,ho,h2⟩:=List.mem_filterMap.1 h1;split at h2
   ·rename_i h4;have:=h.2 o ho h4;cases h2;refine⟨o,ho,?_⟩;simp only [Bool.and_eq_true,beq_iff_eq];exact⟨h4,by omega⟩
   ·cases h2
theorem zX: ∀{r:List dU} {i:Int} {s:List LifeC×List Bool} {b:Nat} {y:LifeC},(∀x∈r,NatStep x)→s.1[b]?=some y→b<s.2.length→
  (nH i r s).1[b]?=some ⟨if s.2.getD b false=true then y.from_ else jQ b i r y.from_,qX b i r y.to_⟩
 | [],i,s,b,y,_,hy,_=>by
  rw [nH,hy,jQ,qX];simp
 | x::r,i,s,b,y,hn,hy,hb=>by
  have hx:=hn x (List.mem_cons_self ..);rw [nH,zX (fun y hy=>hn y (List.mem_cons_of_mem _ hy)) (liveStep_get hy) (show b<(iT i x s).2.length by unfold iT;simpa using hb)]
  have hm:(iT i x s).2.getD b false=(decide (x.buf.toNat=b) || s.2.getD b false):=by
   show(s.2.set x.buf.toNat true).getD b false=_;rw [List.getD_eq_getElem?_getD,List.getElem?_set]
   by_cases e:x.buf.toNat=b
   ·rw [if_pos e,if_pos (by omega)];simp [e]
   ·rw [if_neg e];simp [e,List.getD_eq_getElem?_getD]
  rw [hm,jQ,qX]
  have hbe:x.buf.toNat=b↔x.buf=(b:Int):=by
   have:=hx.1;omega
  congr 2
  ·by_cases e:x.buf.toNat=b
   ·have e2:=hbe.1 e
    cases hs:s.2.getD b false with
    | true=>simp [e]
    | false=>simp [e2]
   ·have e2: ¬x.buf=(b:Int):=fun h=>e (hbe.2 h)
    cases hs:s.2.getD b false with
    | true=>simp [e]
    | false=>simp [e2,e]
  ·by_cases e:bIp x b=true
   ·rw [if_pos e,if_pos ((bCy hx).1 e)]
   ·rw [if_neg e,if_neg (fun h=>e ((bCy hx).2 h))]
theorem sG: ∀{outs:List Int} {k:Nat} {bufs:List kZ} {b:Nat},(qQ outs k bufs)[b]?=(bufs[b]?).map fun u=>⟨if 0≤u.input∨outs.contains ((k+b:Nat):Int)=true then-1 else 0,-1⟩
 | _,_,[],_=>rfl
 | outs,k,u::r,0=>rfl
 | outs,k,u::r,b+1=>by
  have:=sG (outs:=outs) (k:=k+1) (bufs:=r) (b:=b);rw [qQ,List.getElem?_cons_succ,List.getElem?_cons_succ,this,show k+1+b=k+(b+1) by omega]
theorem vR{vars:Int}{bufs:List kZ}: ∀{r:List dU} {made:List Bool},lH vars bufs r made=true→ ∀x∈r,NatStep x
 | [],_,_,x,hx=>by cases hx
 | y::r,made,h,x,hx=>by
  rw [lH,Bool.and_eq_true,Bool.and_eq_true,Bool.and_eq_true] at h;obtain⟨⟨h1,_⟩,h2,h3⟩:=h
  rcases List.mem_cons.1 hx with rfl | hx
  ·refine⟨by simpa using h1,fun o ho h4=>?_⟩
   have hop:x.ops.all (opB vars x.loops.length x.buf made)=true:=by
    unfold nF at h2;simp only [Bool.and_eq_true] at h2;exact h2.2.2.2.2.2
   have:=List.all_eq_true.1 hop o ho;unfold opB at this;rw [if_neg (by omega),if_neg (by omega),if_neg (by omega),if_pos h4] at this;simp only [Bool.and_eq_true,decide_eq_true_eq] at this;exact this.1.1
  ·exact vR h3 x hx
theorem zB{vars:Int}{bufs:List kZ}: ∀{r:List dU} {made:List Bool},lH vars bufs r made=true→ ∀x∈r,∀b∈pY x.ops,made.getD b false=true∨ ∃y∈r,y.buf.toNat=b
 | [],_,_,x,hx=>by cases hx
 | y::r,made,h,x,hx=>fun b hb=>by
  rw [lH,Bool.and_eq_true,Bool.and_eq_true,Bool.and_eq_true] at h;obtain⟨⟨h1,_⟩,h2,h3⟩:=h
  rcases List.mem_cons.1 hx with rfl | hx
  ·left
   have hop:x.ops.all (opB vars x.loops.length x.buf made)=true:=by
    unfold nF at h2;simp only [Bool.and_eq_true] at h2;exact h2.2.2.2.2.2
   obtain⟨o,ho,hk2⟩:=List.mem_filterMap.1 hb;split at hk2
   ·rename_i h44;cases hk2;have:=List.all_eq_true.1 hop o ho;unfold opB at this;rw [if_neg (by omega),if_neg (by omega),if_neg (by omega),if_pos h44] at this;simp only [Bool.and_eq_true] at this;exact this.2.1
   ·cases hk2
  ·rcases zB h3 x hx b hb with h4 | ⟨z,hz,e⟩
   ·rw [List.getD_eq_getElem?_getD,List.getElem?_set] at h4
    by_cases e:y.buf.toNat=b
    ·exact .inr ⟨y,List.mem_cons_self ..,e⟩
    ·rw [if_neg e] at h4;exact .inl (by rw [List.getD_eq_getElem?_getD];exact h4)
   ·exact .inr ⟨z,List.mem_cons_of_mem _ hz,e⟩
theorem jX{c:fL}(h:dE c=true):(0≤c.vars∧c.vars≤6∧c.bufs.length≤1024∧c.steps.length≤1024∧c.outs.length≤64)∧sL c.vars c.bufs []=true∧lH c.vars c.bufs c.steps (rJ c.bufs)=true∧ ∀k∈c.outs,0≤k∧k<c.bufs.length:=by
 simp only [dE,Bool.and_eq_true,decide_eq_true_eq,List.all_eq_true] at h;exact h
theorem lives_eq{c:fL}(h:dE c=true):livesC c=livesR c:=by
 obtain⟨h1,h2,h3,h4⟩:=jX h;have hn:=vR h3;apply List.ext_getElem?;intro b;unfold livesC livesR;rw [mI,List.getElem?_mapIdx]
 cases hu:c.bufs[b]? with
 | none=>
  have hb:c.bufs.length≤b:=List.getElem?_eq_none_iff.1 hu
  have hl:(nH 0 c.steps (qQ c.outs 0 c.bufs,List.replicate c.bufs.length false)).1.length=c.bufs.length:=by
   have: ∀(r:List dU) (i:Int) (s:List LifeC×List Bool),(nH i r s).1.length=s.1.length:=fun r=>by
    induction r with
    | nil=>intro i s;rfl
    | cons x r ih=>intro i s;rw [nH,ih,qP]
   rw [this,vD]
  rw [List.getElem?_eq_none (by omega)];rfl
 | some u=>
  have hb:b<c.bufs.length:=(List.getElem?_eq_some_iff.1 hu).1
  have hy:(qQ c.outs 0 c.bufs)[b]?=some ⟨if 0≤u.input∨c.outs.contains (b:Int)=true then-1 else 0,-1⟩:=by
   rw [sG,hu,Nat.zero_add];rfl
  have hm:(List.replicate c.bufs.length false).getD b false=false:=by
   rw [List.getD_eq_getElem?_getD,List.getElem?_replicate];split<;>rfl
  rw [zX hn hy (by simpa using hb)];simp only [Option.map_some,hm,Bool.false_eq_true,if_false]
  have hout:b∈c.outs.map Int.toNat↔c.outs.contains (b:Int)=true:=by
   rw [List.mem_map,List.contains_iff_mem];constructor
   ·rintro⟨k,hk,e⟩;have:=(h4 k hk).1;have e:k=(b:Int):=by omega
    rwa [←e]
   ·exact fun hk=>⟨_,hk,by simp⟩
  unfold lifeR
  congr 1
  by_cases hmk: ∃x∈c.steps,x.buf=(b:Int)
  ·have hany:yC b c.steps=true:=by
    obtain⟨x,hx,e⟩:=hmk;exact List.any_eq_true.2 ⟨x,hx,by unfold bIp;simp [e]⟩
   rw [hany,xF hmk (d':= -1)];simp only [Bool.true_or,Bool.true_eq_false,if_false]
   by_cases ho:c.outs.contains (b:Int)=true
   ·rw [if_pos (hout.2 ho),if_pos ho]
   ·rw [if_neg (fun e=>ho (hout.1 e)),if_neg ho]
  ·have hno: ∀x∈c.steps,x.buf≠(b:Int):=fun x hx e=>hmk ⟨x,hx,e⟩;rw [qN hno,qN hno]
   by_cases hi:0≤u.input
   ·simp only [hi,true_or,if_true,decide_true,Bool.or_true,Bool.true_eq_false,if_false]
    by_cases ho:c.outs.contains (b:Int)=true
    ·rw [if_pos (hout.2 ho),if_pos ho]
    ·rw [if_neg (fun e=>ho (hout.1 e)),if_neg ho]
   ·by_cases ho:c.outs.contains (b:Int)=true
    ·rw [ho];simp only [or_true,if_true,Bool.true_or,Bool.or_true,Bool.true_eq_false,if_false];rw [if_pos (hout.2 ho)]
    ·have ho':c.outs.contains (b:Int)=false:=by simpa using ho
     have hna:yC b c.steps=false:=by
      cases ha:yC b c.steps with
      | false=>rfl
      | true=>
       exfalso
       obtain⟨x,hx,e⟩:=List.any_eq_true.1 ha
       rcases (bCy (hn x hx)).1 e with e | e
       ·exact hno x hx (by have:=(hn x hx).1;omega)
       ·rcases zB h3 x hx b e with e | ⟨y,hy,e⟩
        ·unfold rJ at e;rw [List.getD_eq_getElem?_getD,List.getElem?_map,hu] at e;simp at e;exact hi e
        ·exact hno y hy (by have:=(hn y hy).1;omega)
     rw [hna,ho',wV hna];rw [if_neg (fun e=>ho (hout.1 e))];simp [hi]
def uP (l:List dU)(b:Nat):Nat:=(l.filter fun x=>x.buf==(b:Int)).length
section
variable {l : List dU} {x : dU} {b : Nat} {u : kZ}
theorem cntMk_snoc:uP (l++[x]) b=uP l b+if x.buf=(b:Int) then 1 else 0:=by
 unfold uP;rw [List.filter_append,List.length_append]
 by_cases e:x.buf=(b:Int)<;>simp [e]
theorem fullAt_other(e:x.buf≠(b:Int)):uY (l++[x]) b u=uY l b u:=by
 unfold uY;rw [List.filter_append];simp [e]
theorem fullAt_here(e:x.buf=(b:Int)):uY (l++[x]) b u=(decide (uP l b+1=1)&&wholeS x u.sides):=by
 unfold uY uP;rw [List.filter_append]
 cases h:l.filter (fun x=>x.buf==(b:Int)) with
 | nil=>simp [e]
 | cons y r=>simp [e]
end
end Go.Proofs.YtofjmphlpdhohaaGreatDoor
namespace Go.Proofs.YtofjmphlpdhohaaGreatDoor
open Go.RowKit
end Go.Proofs.YtofjmphlpdhohaaGreatDoor
namespace Go.Proofs.YtofjmphlpdhohaaGreatDoor
open Go.RowKit
end Go.Proofs.YtofjmphlpdhohaaGreatDoor
namespace Go.Proofs.YtofjmphlpdhohaaGreatDoor
open Go.RowKit
inductive Tr where
 | nil
 | fl (k:Nat) (r:Tr)
 | op (k:Nat) (r:Tr)
 | two (k l:Nat) (r s:Tr)
def Tr.len:Tr→Nat
 | .nil=>0
 | .fl _ r=>r.len+1
 | .op _ r=>r.len+1
 | .two _ _ r _=>r.len+1
section
variable {P : Program} {ops : Array Oper} {md : Region.Mode} {C : World → Prop} {Q : Exit → Act → World → Prop}
def jM (P:Program)(ops:Array Oper)(C:World→Prop)(Q:Exit→Act→World→Prop):Tr→Act→World→Prop
 | .nil,a,w=>Q .normal a w
 | .fl k r,a,w=> ∃o v,ops[k]?=some o∧Fl P ops C o v a∧jM P ops C Q r (a.put o.dst v) w
 | .op k r,a,w=>fOp P ops k (fun a w=>C w∧jM P ops C Q r a w) a w
 | .two k l r s,a,w=>fOp P ops k (fun a w=>C w∧jM P ops C Q r a w) a w∧fOp P ops l (fun a w=>C w∧jM P ops C Q s a w) a w
def gR (md:Region.Mode)(ops:Array Oper):Tr→Array Bool→Bool
 | .nil,listed=>(Region.ready md ops listed).isEmpty
 | .fl k r,listed=>(Region.ready md ops listed).contains k&&Region.free md ops listed k&&gR md ops r (listed.setIfInBounds k true)
 | .op k r,listed=>(Region.ready md ops listed==[k])&&gR md ops r (listed.setIfInBounds k true)
 | .two k l r s,listed=>(Region.ready md ops listed==[k,l])&&Nat.beq r.len s.len&&gR md ops r (listed.setIfInBounds k true)&&gR md ops s (listed.setIfInBounds l true)
theorem mW(hs:Region.noSelect ops=true): ∀(l:Tr) (listed:Array Bool) (a:Act) (w:World),gR md ops l listed=true→C w→jM P ops C Q l a w→xS P md ops C Q l.len listed a w
 | .nil,listed,a,w,hB,hC,h=>⟨hC,by simpa [gR] using hB,h⟩
 | .fl k r,listed,a,w,hB,hC,h=>by
  simp only [gR,Bool.and_eq_true] at hB;obtain⟨o,v,ho,hy,hK⟩:=h;exact xC ho (Region.noSelect_spec hs) r.len listed a w (Region.free_spec ho hB.1.2) (by simpa using hB.1.1) hy (mW hs r _ _ _ hB.2 hC hK)
 | .op k r,listed,a,w,hB,hC,h=>by
  simp only [gR,Bool.and_eq_true,beq_iff_eq] at hB;refine⟨hC,fun h0=>(by rw [hB.1] at h0;cases h0),fun i hi=>?_⟩;rw [hB.1] at hi;have:i=k:=by simpa using hi
  subst this;exact gN (fun a' w' h'=>mW hs r _ _ _ hB.2 h'.1 h'.2) h
 | .two k l r s,listed,a,w,hB,hC,h=>by
  simp only [gR,Bool.and_eq_true,beq_iff_eq] at hB;obtain⟨⟨⟨h1,h2⟩,h3⟩,h4⟩:=hB;refine⟨hC,fun h0=>(by rw [h1] at h0;cases h0),fun i hi=>?_⟩;rw [h1] at hi;have hi:i=k∨i=l:=by simpa using hi
  rcases hi with rfl | rfl
  ·exact gN (fun a' w' h'=>mW hs r _ _ _ h3 h'.1 h'.2) h.1
  ·have e:Tr.len (.two k i r s)=s.len+1:=by simp only [Tr.len,Nat.eq_of_beq_eq_true h2]
   have e':r.len=s.len:=Nat.eq_of_beq_eq_true h2;rw [e'];exact gN (fun a' w' h'=>mW hs s _ _ _ h4 h'.1 h'.2) h.2
def sP (l:Tr)(ops:Array Oper):Bool:=Region.noSelect ops&&Nat.beq l.len ops.size&&gR .any ops l (Array.replicate ops.size false)
end
section
variable {P : Program} {β : fB} {n : Nat} {Γ : Env} {H : List bJ} {F : List bI} {Q : Exit → Act → World → Prop} {Hk : List bJ} {F0 : List bI} {ops : Array Oper}
theorem at_mixT{id:Nat}{l:List Oper}(Hk:List bJ)(F0:List bI)(od:Tr)(hm:P.follows .mixedOrders=true)(hB:sP od l.toArray=true)(hH:Sel H Hk)(hF:bH F F0)
  (h:At β n Γ H F (jM P l.toArray (StF β Hk F0) Q od)):At β n Γ H F ((Code.region id l.toArray true).wp P Q):=fun a w S f s k=>by
 simp only [sP,Bool.and_eq_true] at hB;have hw:=StF.drew ⟨S,s,k⟩;obtain⟨S',s',k'⟩:=hw;refine wp_region_any hm (oO (C:=StF β Hk F0) _ _ _ _ ?_);have:=mW (P:=P) (md:= .any) (C:=StF β Hk F0) (Q:=Q) hB.1.1 od (Array.replicate l.toArray.size false) a _ hB.2 (StF.sel hH hF ⟨S',s',k'⟩) (h a _ S' f s' k')
 rwa [Nat.eq_of_beq_eq_true hB.1.2] at this
theorem tA{C:World→Prop}(h:At β n Γ H F (Q .normal)):At β n Γ H F (jM P ops C Q .nil):=h
theorem att_sti{r:Tr}{o:Oper}{k d:Nat}{v:Value}(hk:ops[k]?=some o)(hw:want ops Γ o=some true)(hd:o.dst=some d)(hn:Nat.blt d n=true)(h:Sti P β n Γ Hk F0 o v)
  (K:At β n ((d,v)::Γ) H F (jM P ops (StF β Hk F0) Q r)):At β n Γ H F (jM P ops (StF β Hk F0) Q (.fl k r)):=fun a w S f s hF=>by
 refine⟨o,v,hk,.inl ⟨f.want hw,fun w' ⟨S',s',k'⟩=>h a w' S' f s' k'⟩,?_⟩;rw [hd];exact K _ _ S (f.put (by simpa [Nat.blt_eq] using hn) v) s hF
theorem pvT{r:Tr}{o:Oper}{k d:Nat}{v:Value}{T:Tab}(hT:dV P T)(K:At β n ((d,v)::Γ) H F (jM P ops (StF β Hk F0) Q r))(hk:ops[k]?=some o:=by exact rfl)(hw:want ops Γ o=some true:=by exact rfl)(hd:o.dst=some d:=by exact rfl)(hn:Nat.blt d n=true:=by exact rfl)(h:kS T Γ o.op=some v:=by exact rfl):At β n Γ H F (jM P ops (StF β Hk F0) Q (.fl k r)):=att_sti hk hw hd hn (fun _ w _ f _ _=>qL hT f h w) K
theorem fOp_of{o:Oper}{k:Nat}{K:Act→World→Prop}(hk:ops[k]?=some o)(h:At β n Γ H F (wpList P ops (Nm K) [o])):At β n Γ H F (fOp P ops k K):=fun a w S f s hF o' ho'=>by
 have:o'=o:=Option.some.inj (ho'.symm.trans hk);subst this;exact h a w S f s hF
theorem fO{r:Tr}{o:Oper}{k:Nat}{C:World→Prop}(hk:ops[k]?=some o)(h:At β n Γ H F (wpList P ops (Nm fun a w=>C w∧jM P ops C Q r a w) [o])):At β n Γ H F (jM P ops C Q (.op k r)):=fOp_of hk h
theorem xD{r s:Tr}{o o':Oper}{k l:Nat}{C:World→Prop}(hk:ops[k]?=some o)(hl:ops[l]?=some o')(h:At β n Γ H F (wpList P ops (Nm fun a w=>C w∧jM P ops C Q r a w) [o]))(h':At β n Γ H F (wpList P ops (Nm fun a w=>C w∧jM P ops C Q s a w) [o'])):
  At β n Γ H F (jM P ops C Q (.two k l r s)):=fun a w S f st hF=>⟨fOp_of hk h a w S f st hF,fOp_of hl h' a w S f st hF⟩
theorem dM{r:Tr}(hH:Sel H Hk)(hF:bH F F0)(h:At β n Γ H F (jM P ops (StF β Hk F0) Q r)):At β n Γ H F (wpList P ops (Nm fun a w=>StF β Hk F0 w∧jM P ops (StF β Hk F0) Q r a w) []):=fun a w S f s k=>
 ⟨rfl,StF.sel hH hF ⟨S,s,k⟩,h a w S f s k⟩
end
end Go.Proofs.YtofjmphlpdhohaaGreatDoor
namespace Go.Proofs.YtofjmphlpdhohaaGreatDoor
open Go.RowKit
section
variable {P : Program} {β : fB} {n : Nat} {Γ : Env} {H : List bJ} {F : List bI} {Q : Exit → Act → World → Prop} {K : Act → World → Prop} {T : Tab} {α : Type} {E : Flat α}
theorem elem_of{t e:Nat}(hu:P.underlying t=some (.slice e)):P.elem t=e:=by simp [Program.elem,hu]
theorem run_cutTo(hT:dV P T){t e sz:Nat}{ei:TI}(ht:T.get t=some ⟨.slice e,sz⟩)(he:T.get e=some ei){A:Option Addr}{l c k:Nat}(hk:k≤c)(kk:IntKind)(w:World):(Instr.sliceAt t (.slice A l c) none (some (.int kk (k:Nat))) none).run P w= .ok (.slice A k c) w:=by
 obtain⟨d,hu,hd⟩:=hT.any ht;cases d<;>simp [TD.of] at hd
 subst hd;have hel:=elem_of hu;rw [run_sliceAt_slice w t _ _ _ _ (by rw [hel];exact hu),run_slice_h w t A l c (by rw [hel];exact hu) kk (k:Int) (by omega) (by omega),hel,hT.size he];simp only [Result.andThen_ok,sliced,Int.toNat_natCast,Nat.zero_mul,Nat.sub_zero]
 congr 2
 split
 ·rfl
 ·cases A<;>simp [Addr.add]
theorem run_cutFrom(hT:dV P T){t e sz:Nat}{ei:TI}(ht:T.get t=some ⟨.slice e,sz⟩)(he:T.get e=some ei){A:Option Addr}{l c k:Nat}(hk:k≤l)(kk:IntKind)(w:World):(Instr.sliceAt t (.slice A l c) (some (.int kk (k:Nat))) none none).run P w= .ok (.slice (cutA A k ei.size c) (l-k) (c-k)) w:=by
 obtain⟨d,hu,hd⟩:=hT.any ht;cases d<;>simp [TD.of] at hd
 subst hd;have hel:=elem_of hu;rw [run_sliceAt_slice w t _ _ _ _ (by rw [hel];exact hu),run_slice_l w t A l c (by rw [hel];exact hu) kk (k:Int) (by omega) (by omega),hel,hT.size he];simp only [Result.andThen_ok,sliced,Int.toNat_natCast,cutA]
theorem Has.cons{f g:bI}{F:List bI}(h:Has F g):Has (f::F) g:=fun S w k=>h S w fun x hx=>k x (List.mem_cons_of_mem _ hx)
theorem Has.each_nil{α:Type}{g:α→bI}{F:List bI}:Has F (bI.each [] g):=fun _ _ _ x hx=>by simp at hx
theorem Has.each_cons{α:Type}{g:α→bI}{F:List bI}{x:α}{l:List α}(hx:Has F (g x))(hl:Has F (bI.each l g)):Has F (bI.each (x::l) g):=fun S w k y hy=>by
 rcases List.mem_cons.1 hy with rfl | hy
 ·exact hx S w k
 ·exact hl S w k y hy
theorem bIc(hT:dV P T){o:Oper}{t e sz k l cap:Nat}{ei:TI}{x i:Operand}{kk:IntKind}{z:Int}{A:Option Addr}(ho:o.op= .slice t x none (some i) none)(hx:Γ.ev x=some (.slice A l cap))(hi:Γ.ev i=some (.int kk z))
  (ht:T.get t=some ⟨.slice e,sz⟩) (he:T.get e=some ei) (hz:z=(k:Nat)) (hk:k≤cap):Sti P β n Γ H F o (.slice A k cap):=fun a w S f s hF=>by
 subst hz;unfold execOp;simp only [ho,f.ev hx,Option.map_some,Option.map_none,f.ev hi];rw [Sem.run_bind,run_cutTo hT ht he hk];rfl
theorem sti_cutFrom(hT:dV P T){o:Oper}{t e sz k l cap:Nat}{ei:TI}{x i:Operand}{kk:IntKind}{z:Int}{A:Option Addr}(ho:o.op= .slice t x (some i) none none)(hx:Γ.ev x=some (.slice A l cap))(hi:Γ.ev i=some (.int kk z))
  (ht:T.get t=some ⟨.slice e,sz⟩) (he:T.get e=some ei) (hz:z=(k:Nat)) (hk:k≤l):Sti P β n Γ H F o (.slice (cutA A k ei.size cap) (l-k) (cap-k)):=fun a w S f s hF=>by
 subst hz;unfold execOp;simp only [ho,f.ev hx,Option.map_some,Option.map_none,f.ev hi];rw [Sem.run_bind,run_cutFrom hT ht he hk];rfl
theorem has_take{A:Option Addr}{l c k:Nat}{xs:List α}(h:Has F (E.sl (.slice A l c) xs))(hk:k≤xs.length):Has F (E.sl (.slice A k c) (xs.take k)):=fun S w q=>by
 obtain⟨A',c',e,h⟩:=h S w q;injection e with e1 e2 e3
 subst e1 e3;refine⟨A,c,by rw [List.length_take,Nat.min_eq_left hk],fun j x hj=>?_⟩;rw [List.getElem?_take] at hj;split at hj
 ·exact h j x hj
 ·cases hj
theorem bDy{A:Option Addr}{t:TypeId}{m cap:Nat}{xs:List α}{H':List bJ}(hH:dD H (E.row (.slice A m cap) t xs) H')(h:xs.length≤cap→At β n Γ H F K):At β n Γ H F K:=fun a w S f s k=>by
 have hown:w.ownsRow 0 t E.size (.slice A m cap) xs.length (E.all xs):=s.ok _ hH.mem;refine h ?_ a w S f s k
 rcases hown.2 with ⟨_,e0⟩ | ⟨g,cap',cur,e1,h1,h2,h3,_⟩
 ·omega
 ·injection e1 with e1 e2 e3
  subst e3;omega
end
end Go.Proofs.YtofjmphlpdhohaaGreatDoor
