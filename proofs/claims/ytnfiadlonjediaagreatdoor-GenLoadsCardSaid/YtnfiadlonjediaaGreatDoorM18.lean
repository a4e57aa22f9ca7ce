/- Texts of one proof, one behind the other: RunKG, RunS19, Laid19, LawG19, TysR, TysGr, LitH, RefEval, QC. -/
import Derived.Test.YtnfiadlonjediaaGreatDoorM6
import Derived.Test.YtnfiadlonjediaaGreatDoorM17
import Derived.Test.YtnfiadlonjediaaGreatDoorRows
import Derived.Test.YtnfiadlonjediaaGreatDoorM4
import Derived.Deep.DeepWitnessRowRef
import Derived.Lib.LaidU8
import Derived.LaidLaws
import Derived.Lib.LaidIn
import Derived.Shelf.Vars
import Derived.Test.YtnfiadlonjediaaGreatDoorM1
import Derived.ProofKit
import Derived.OpenShut
import Derived.Carry
import Derived.SizedLaws
import Derived.Test.YtnfiadlonjediaaGreatDoorM7
import Derived.Test.YtnfiadlonjediaaGreatDoorM11
import Derived.Test.YtnfiadlonjediaaGreatDoorM13
import Derived.Test.YtnfiadlonjediaaGreatDoorM12
import Derived.Test.YtnfiadlonjediaaGreatDoorM10
import Derived.Test.YtnfiadlonjediaaGreatDoorM14
set_option maxRecDepth 100000
namespace Go.Proofs.YtnfiadlonjediaaGreatDoor
section
open Go.Proofs.Tryz
namespace X
open Go.Proofs.Tryz
noncomputable section
def ka:Bool×Nat:=(true,0)
def kb:Bool×Nat:=(true,1)
def kc:Bool×Nat:=(true,2)
def kd:Bool×Nat:=(true,3)
def ke:Bool×Nat:=(true,5)
def kf:Bool×Nat:=(true,4)
def kg:Bool×Nat:=(true,6)
def kh:Bool×Nat:=(true,7)
def ki:Bool×Nat:=(true,8)
def kl:Bool×Nat:=(true,9)
def km:Bool×Nat:=(true,10)
def ko:Bool×Nat:=(true,11)
def kq:Bool×Nat:=(true,12)
def ku:Bool×Nat:=(true,13)
def kz:Bool×Nat:=(true,14)
def kAA:Bool×Nat:=(true,15)
def kAB:Bool×Nat:=(true,17)
def kAC:Bool×Nat:=(true,16)
def bFz:T (T Plan):= .nd (.nd (.nd (.nd (.nd (.nd (.nd (.nd .lf (some .lf) .lf) none (.nd .lf (some .lf) .lf)) none .lf) none (.nd .lf (some .lf) (.nd (.nd .lf (some .lf) .lf) (some (.nd (.nd (.nd .lf (some (([ka,kb,kc,kd,kf,ke,kg,kh,ki,kl],[]))) .lf) none .lf) none (.nd (.nd (.nd .lf (some (([ka,kb,kc,kd,kf,ke,kg,kh,ki,kl],[]))) .lf) none .lf) none .lf))) .lf))) none (.nd (.nd (.nd .lf none (.nd (.nd .lf (some .lf) .lf) none .lf)) none (.nd .lf (some .lf) (.nd .lf (some .lf) .lf))) (some .lf) (.nd (.nd (.nd .lf (some .lf) .lf) none .lf) (some .lf) (.nd (.nd .lf (some .lf) .lf) (some .lf) (.nd .lf (some .lf) .lf))))) none (.nd (.nd (.nd (.nd .lf (some .lf) (.nd .lf (some .lf) .lf)) none .lf) none (.nd (.nd .lf (some .lf) (.nd .lf (some .lf) .lf)) (some .lf) (.nd (.nd .lf (some .lf) .lf) (some (.nd (.nd (.nd (.nd .lf (some (([ka,kb,kc,kd,kf,ke,(false,6),(false,7)],[8]))) .lf) none .lf) none .lf) none (.nd .lf none (.nd .lf none (.nd (.nd .lf (some (([ka,kb,kc,kd,kf,ke,kg,kh,(false,8)],[9]))) .lf) none .lf))))) .lf))) (some (.nd (.nd .lf none (.nd (.nd (.nd .lf (some (([ka,kb,kc,kd,kf,ke,kg,kh,ki,kl,(false,10),(false,11),kq],[]))) .lf) none .lf) none .lf)) none (.nd .lf none (.nd (.nd .lf none (.nd .lf (some (([ka,kb,kc,kd,kf,ke,kg,kh,ki,kl,km,ko,kq,(false,13)],[]))) .lf)) none .lf)))) (.nd (.nd .lf (some (.nd .lf none (.nd .lf none (.nd .lf (some (([ka,(false,1),kc,kd,kf,ke,kg,kh,ki,kl,km,ko,kq],[13,14,15,16]))) .lf)))) (.nd (.nd (.nd .lf (some (.nd (.nd (.nd .lf none (.nd .lf (some (([ka,kb,kc,kd,kf,ke,kg,ki,(false,7),kl,km,ko,kq,ku,kz,kAA,kAC,kAB,(false,18),(true,19)],[]))) .lf)) none .lf) none .lf)) .lf) none .lf) none (.nd .lf (some (.nd (.nd .lf (some (([ka,kb,kc,kd,kf,ke,kg,kh,ki,kl,(false,10),ko],[]))) .lf) none .lf)) .lf))) none (.nd .lf (some .lf) (.nd (.nd (.nd .lf (some .lf) .lf) (some .lf) .lf) (some .lf) .lf))))) none (.nd (.nd (.nd (.nd (.nd .lf none (.nd .lf (some .lf) .lf)) (some (.nd (.nd (.nd .lf none (.nd (.nd .lf (some (([ka,kb,kc,kd,kf,ke,kg],[7]))) .lf) none .lf)) none .lf) none (.nd (.nd .lf none (.nd .lf (some (([ka,kb,kc,kd,kf,ke,kg,kh,(false,8),(false,9),km,ko],[12]))) .lf)) none .lf))) (.nd .lf none (.nd .lf (some .lf) .lf))) none (.nd (.nd .lf (some (.nd (.nd .lf (some (([ka,kb,kc,kd,kf,ke,(false,6),kh,ki,kl,km,(false,11),kq,ku,kz,kAA,kAC,kAB,(true,18),(true,19),(true,20),(false,21),(true,22),(true,23),(true,24),(true,25),(true,26),(true,27),(true,28),(true,29),(true,30),(true,31),(true,32),(false,33),(true,34),(true,35)],[]))) .lf) none (.nd (.nd .lf none (.nd .lf (some (([ka,kb,kc,kd,kf,ke,kg,kh,ki,(false,9),km,ko],[12]))) .lf)) none .lf))) .lf) (some .lf) (.nd (.nd .lf (some .lf) .lf) (some (.nd .lf none (.nd .lf none (.nd .lf none (.nd (.nd .lf (some (([ka,kb,kc,(false,3),kf,(false,5)],[6,7,8]))) .lf) none .lf))))) .lf))) none (.nd (.nd (.nd (.nd (.nd .lf (some .lf) .lf) none .lf) none (.nd .lf (some .lf) .lf)) (some .lf) (.nd .lf (some (.nd .lf none (.nd (.nd (.nd .lf (some (([ka,kb,kc,kd,kf,ke,kg,kh],[8]))) .lf) (some (([ka,kb,kc,kd,kf,ke,kg,kh,ki,kl,km,ko,kq,ku,kz,kAA,kAC,kAB,(true,18),(false,19),(true,20),(true,21),(true,22),(true,23),(true,24)],[]))) .lf) none .lf))) (.nd .lf (some .lf) .lf))) none (.nd (.nd (.nd .lf (some .lf) .lf) none .lf) (some .lf) (.nd (.nd .lf (some .lf) .lf) none .lf)))) none (.nd (.nd (.nd (.nd .lf none (.nd .lf (some .lf) .lf)) none .lf) (some (.nd (.nd (.nd .lf none (.nd (.nd (.nd .lf (some (([ka,kb,kc,kd,kf,ke,kg,kh,ki,kl,(false,10),(false,11),kq,ku,kz],[15]))) .lf) (some (([ka,kb,kc,kd,kf,ke,kg,kh,ki],[9]))) .lf) none .lf)) none (.nd .lf none (.nd .lf none (.nd .lf (some (([ka,kb,kc,kd,kf,ke,kg,kh,ki,kl,(false,10),ko,kq,ku,kz,kAA],[]))) .lf)))) none (.nd (.nd .lf none (.nd (.nd .lf (some (([ka,kb,kc,kd,kf,ke,kg,kh,kl,(false,8),km,(false,11),(false,12),ku,kz,kAA],[16]))) .lf) none .lf)) none (.nd (.nd (.nd (.nd .lf (some (([ka,kb,kc,kd,kf,ke,kg,kh,ki],[9]))) .lf) none .lf) none .lf) none .lf)))) (.nd (.nd (.nd .lf (some .lf) .lf) none .lf) (some (.nd (.nd .lf none (.nd .lf none (.nd .lf (some (([ka,kb,kc,kd,kf,ke,(false,6),(false,7),ki,kl],[10]))) .lf))) none (.nd .lf (some (([ka,kb,kc,kd,kf,ke,kg,kh,ki,kl,km,ko,kq,ku,kz,kAA,kAC,kAB],[]))) (.nd (.nd .lf none (.nd .lf (some (([ka,kb,kc,kd,kf,ke,(false,6),(false,7),ki,kl],[10]))) .lf)) none .lf)))) (.nd (.nd .lf (some .lf) .lf) (some (.nd .lf none (.nd .lf (some (([ka,kb,kc,kf,ke,kg,kh,ki,(false,3),(false,9),km],[11]))) .lf))) .lf))) (some (.nd .lf none (.nd .lf none (.nd .lf (some (([ka,kb,kc,kd,kf,ke,kg,kh,ki],[]))) .lf)))) (.nd (.nd (.nd (.nd (.nd .lf (some .lf) .lf) none .lf) none .lf) (some .lf) (.nd (.nd (.nd .lf (some (.nd (.nd .lf none (.nd (.nd .lf (some (([ka,kb,kc,(false,3),(false,4)],[5,6,7]))) .lf) none .lf)) none (.nd .lf (some (([ka,kb,kf,ke,kg,kh,ki,kl,km,ko,kq,ku,kz,kAA,kAC,kAB,(false,2),kd,(false,18),(true,19)],[]))) .lf))) .lf) (some .lf) .lf) (some (.nd (.nd .lf (some (([ka,kb,kc,kd,kf,ke,kg,kh,ki,kl],[]))) .lf) none (.nd .lf (some (([ka,kb,kc,kd,kf,ke,kg,kh,ki,kl],[10]))) .lf))) (.nd .lf (some .lf) .lf))) none (.nd (.nd .lf (some .lf) .lf) (some .lf) (.nd (.nd .lf (some .lf) .lf) (some .lf) .lf)))))) none (.nd (.nd (.nd (.nd (.nd (.nd (.nd .lf (some .lf) .lf) (some .lf) .lf) none (.nd .lf none (.nd .lf (some .lf) .lf))) (some .lf) (.nd (.nd .lf (some .lf) (.nd (.nd .lf (some .lf) .lf) none .lf)) (some .lf) (.nd (.nd .lf (some .lf) .lf) (some .lf) .lf))) (some .lf) (.nd (.nd .lf none (.nd .lf (some (.nd (.nd .lf (some (([ka,kb,kc,kd,kf,ke,kg,kh,ki,kl,km,ko,kq],[]))) .lf) none (.nd .lf (some (([ka,kb,kc,kd,kf,ke,kg,kh,ki,kl,km,ko,kq,ku,kz],[]))) .lf))) (.nd .lf (some .lf) .lf))) none (.nd (.nd (.nd .lf (some (.nd (.nd (.nd .lf none (.nd .lf (some (([ka,kb,kc,kd,kf,ke,kg,kh,ki,kl,km,ko,kq,ku,kz,kAA,kAC,kAB,(true,18),(true,19),(true,20),(true,21),(true,22),(true,23),(true,24),(true,25),(true,26),(true,27),(true,28),(true,29),(true,30),(true,31),(true,32),(true,33)],[]))) .lf)) (some (([ka,kb,kc,kd,kf,ke,kg,kh,ki,kl,km,ko],[]))) (.nd (.nd .lf (some (([ka,kb,kc,kd,kf,ke,kg,kh,ki,kl,km,ko,kq,ku],[]))) .lf) none .lf)) none .lf)) .lf) none .lf) (some .lf) (.nd (.nd .lf (some .lf) .lf) (some .lf) .lf)))) none (.nd (.nd (.nd (.nd .lf none (.nd .lf (some .lf) .lf)) none (.nd .lf (some .lf) (.nd .lf (some .lf) .lf))) (some .lf) (.nd (.nd (.nd (.nd .lf (some .lf) .lf) (some .lf) .lf) none (.nd .lf (some .lf) .lf)) (some .lf) (.nd (.nd .lf (some (.nd (.nd .lf (some (([ka,kb,kc,kd,kf,ke,kg,kh,ki,kl],[]))) .lf) none (.nd .lf (some (([ka,kb,kc,kd,kf,ke,kg,kh,ki,kl,km,ko],[]))) .lf))) .lf) (some (.nd (.nd (.nd (.nd .lf none (.nd .lf (some (([ka,kb,kc,kd,kf,ke,kg,kh,ki,kl,km,ko,(false,12),ku,kz,kAA,(false,16),kAB],[]))) .lf)) none .lf) none .lf) none .lf)) (.nd .lf (some .lf) .lf)))) none (.nd (.nd (.nd (.nd (.nd .lf (some .lf) .lf) none .lf) none .lf) none (.nd (.nd (.nd .lf (some .lf) .lf) none .lf) (some .lf) .lf)) none (.nd .lf (some (.nd (.nd (.nd .lf none (.nd .lf (some (([ka,kb,kc,kd,kf,ke,kg,kh,ki,kl,(false,10),(false,11),kq],[]))) .lf)) none (.nd (.nd .lf none (.nd (.nd .lf (some (([ka,kb,kc,kd,(false,4)],[5,6,7]))) .lf) none .lf)) none (.nd (.nd (.nd .lf (some (([ka,kb,kc,kd,kf,ke,kg,kh,(false,8)],[9]))) .lf) none .lf) none (.nd .lf (some (([ka,kb,kc,kd,kf,ke,kg,kh,ki,kl,km,ko,kq,ku],[14,15]))) .lf)))) none (.nd .lf none (.nd .lf none (.nd (.nd (.nd .lf (some (([ka,kb,kc,kd,kf,ke,kg,kh,(false,8),kl,(false,10),(false,11),kq,ku,kz],[15]))) .lf) none .lf) none .lf))))) (.nd .lf (some (.nd .lf none (.nd .lf (some (([ka,kb,kc,kd,ke,kh,(false,4),(false,6),(false,8),(false,9)],[10]))) .lf))) .lf))))) none (.nd (.nd (.nd (.nd (.nd .lf (some .lf) .lf) (some .lf) (.nd .lf (some .lf) .lf)) (some .lf) (.nd (.nd .lf (some .lf) (.nd .lf (some .lf) .lf)) (some (.nd (.nd (.nd .lf (some (([ka,kb,kc,kd,kf,ke,kg,kh,ki,kl,km,(false,11)],[12]))) .lf) (some (([ka,kb,kc,kd,kf,ke,kg,kh,ki,kl,km,ko,kq,ku,kz,kAA,kAC,kAB,(true,18)],[]))) .lf) none (.nd (.nd .lf (some (([ka,kb,kc,kd,kf,ke,kg,kh],[]))) (.nd (.nd .lf (some (([ka,kb,kc,kd,kf,ke,kg,kh,ki,kl,km,ko,kq,ku],[14]))) .lf) none .lf)) none (.nd (.nd (.nd (.nd .lf (some (([ka,kb,kc,kd,kf,ke,kg,kh,ki,kl,km,ko,kq],[]))) .lf) (some (([ka,kb,kc,kd,kf,ke,kg,kh,ki,kl],[10]))) .lf) none .lf) none (.nd .lf none (.nd .lf (some (([ka,kb,kc,kd,kf,ke,kg,kh,ki,kl],[10]))) .lf)))))) (.nd (.nd .lf (some .lf) .lf) (some .lf) .lf))) none (.nd (.nd (.nd .lf none (.nd .lf (some .lf) .lf)) none (.nd .lf (some .lf) (.nd .lf (some .lf) .lf))) none (.nd .lf (some .lf) (.nd (.nd .lf (some .lf) .lf) none .lf)))) none (.nd (.nd (.nd (.nd .lf none (.nd .lf (some (.nd (.nd .lf (some (([ka,kb,kc,kd,ke,kg,kh,(false,36868)],[9,10]))) .lf) none .lf)) .lf)) none (.nd .lf none (.nd .lf (some .lf) .lf))) none (.nd (.nd (.nd .lf (some .lf) .lf) none .lf) (some (.nd (.nd (.nd .lf none (.nd .lf none (.nd .lf (some (([ka,kb,kc,kd,kf,ke,kg,(false,7)],[8,9]))) .lf))) none .lf) none (.nd .lf none (.nd .lf none (.nd .lf none (.nd .lf (some (([ka,kb,kc,kd,kf,ke,kg,kh,ki,kl],[10]))) .lf)))))) (.nd (.nd .lf (some .lf) .lf) (some (.nd .lf (some (([ka,kb,kc,kd,kf,ke,kg,kh,ki,kl,km,ko,kq,ku,kz,kAC,kAB,(false,15),(false,18),(true,19),(false,20),(false,21),(true,22),(true,23),(true,24)],[25]))) .lf)) .lf))) none (.nd (.nd (.nd (.nd (.nd .lf (some (.nd .lf none (.nd .lf none (.nd (.nd (.nd (.nd .lf (some (([ka,kb,kc,kd,kf,ke,kg,(false,7)],[8,9]))) .lf) none .lf) none .lf) none .lf)))) .lf) none .lf) none .lf) none (.nd (.nd (.nd .lf (some (.nd (.nd (.nd .lf (some (([ka,kb,kc,kd,kf,ke,kg,kh],[]))) .lf) none .lf) none .lf)) .lf) none .lf) (some .lf) .lf)) none (.nd .lf none (.nd (.nd (.nd .lf (some .lf) .lf) (some .lf) .lf) (some .lf) .lf))))))
def orcX (f:FuncId):Option Orc:=sel (Nat.beq f 330) (some (escO)) (sel (Nat.beq f 227) (some (parseO)) (sel (Nat.beq f 317) (some (contO)) (sel (Nat.beq f 267) (some (fieldsO 2)) (sel (Nat.beq f 229) (some (idxO)) (sel (Nat.beq f 303) (some (joinO)) (sel (Nat.beq f 314) (some (replO 1)) (sel (Nat.beq f 316) (some (trimO 2)) (sel (Nat.beq f 9) (some (genO 0)) (none)))))))))
def knowG (n:Nat)(o:Obj):Prop:=match n with
 |0=> ∃t z,o= .cells (Lib.asciiSpaceTab.map λz=>Value.int .u8 z).toArray t z
 |1=> ∃m r t z,o= .cells (Value.int .i64 m::r).toArray t z
 |2=> ∃t z,o= .cells #[.int .i64 0,.int .i64 (-1)] t z
 |_=>False
theorem kw_ok: ∀n cs o,sel (Nat.beq n 2) (some [V.i .i64 0,V.i .i64 (-1)]) none=some cs->knowG n o->(∀v∈cs,v.one=true)/\ ∃C t z,o= .cells C t z/\ ∀(i:Nat) (v:V),cs[i]?=some v-> ∃u,C[i]?=some u/\ofV u=some v:=λn cs o h hG=>by
 rw[cJ]at h;split at h
 .rename_i hn;cases h;rw[Nat.eq_of_beq_eq_true hn]at hG;obtain⟨t,z,rfl⟩:=hG;refine⟨λv hv=>by simp at hv;rcases hv with rfl|rfl<;>rfl,_,t,z,rfl,λi v hi=>?_⟩
  match i,hi with
  |0,hi=>cases hi;exact⟨_,rfl,rfl⟩
  |1,hi=>cases hi;exact⟨_,rfl,rfl⟩
  |i+2,hi=>cases hi
 .cases h
def methX (t:TypeId)(n:String):Option (FuncId×Option TypeId):=sel (Nat.beq t 284&&n== "Swap") (some (375,some 330)) (sel (Nat.beq t 284&&n== "Push") (some (374,none)) (sel (Nat.beq t 284&&n== "Pop") (some (373,none)) (sel (Nat.beq t 284&&n== "Less") (some (372,some 330)) (sel (Nat.beq t 284&&n== "Len") (some (165,some 330)) (none)))))
theorem meth_ok(t:TypeId)(n:String)(f:FuncId)(h:methX t n=some (f,none))(v:Value)(w:World):(method (prog.types.size+Made.depth) t v n).run prog w= .ok (f,v) w:=by
 unfold methX at h
 by_cases h0:(Nat.beq t 284&&n== "Swap")=true
 .rw[cJ,if_pos h0]at h;rw[Bool.and_eq_true,beq_iff_eq]at h0;rw[Nat.eq_of_beq_eq_true h0.1,h0.2];cases h
 rw[cJ,if_neg h0]at h
 by_cases h1:(Nat.beq t 284&&n== "Push")=true
 .rw[cJ,if_pos h1]at h;rw[Bool.and_eq_true,beq_iff_eq]at h1;rw[Nat.eq_of_beq_eq_true h1.1,h1.2];cases h
  kernel_rfl
 rw[cJ,if_neg h1]at h
 by_cases h2:(Nat.beq t 284&&n== "Pop")=true
 .rw[cJ,if_pos h2]at h;rw[Bool.and_eq_true,beq_iff_eq]at h2;rw[Nat.eq_of_beq_eq_true h2.1,h2.2];cases h
  kernel_rfl
 rw[cJ,if_neg h2]at h
 by_cases h3:(Nat.beq t 284&&n== "Less")=true
 .rw[cJ,if_pos h3]at h;rw[Bool.and_eq_true,beq_iff_eq]at h3;rw[Nat.eq_of_beq_eq_true h3.1,h3.2];cases h
 rw[cJ,if_neg h3]at h
 by_cases h4:(Nat.beq t 284&&n== "Len")=true
 .rw[cJ,if_pos h4]at h;rw[Bool.and_eq_true,beq_iff_eq]at h4;rw[Nat.eq_of_beq_eq_true h4.1,h4.2];cases h
 rw[cJ,if_neg h4]at h;cases h
theorem meth_deref(t:TypeId)(n:String)(f:FuncId)(el:TypeId)(h:methX t n=some (f,some el))(b o:Nat)(r:Value)(w:World)(hl:(loadVar el ⟨b,o,none⟩).run prog w= .ok r w):(method (prog.types.size+Made.depth) t (.pointer (some ⟨b,o,none⟩)) n).run prog w= .ok (f,r) w:=by
 unfold methX at h
 by_cases h0:(Nat.beq t 284&&n== "Swap")=true
 .rw[cJ,if_pos h0]at h;rw[Bool.and_eq_true,beq_iff_eq]at h0;rw[Nat.eq_of_beq_eq_true h0.1,h0.2];cases h;rw[show(method (prog.types.size+Made.depth) 284 (.pointer (some ⟨b,o,none⟩)) "Swap").run prog w=(do let r<-loadVar 330 ⟨b,o,none⟩;pure (375,r):Sem (FuncId×Value)).run prog w by kernel_rfl,Sem.run_bind,hl];rfl
 rw[cJ,if_neg h0]at h
 by_cases h1:(Nat.beq t 284&&n== "Push")=true
 .rw[cJ,if_pos h1]at h;rw[Bool.and_eq_true,beq_iff_eq]at h1;rw[Nat.eq_of_beq_eq_true h1.1,h1.2];cases h
 rw[cJ,if_neg h1]at h
 by_cases h2:(Nat.beq t 284&&n== "Pop")=true
 .rw[cJ,if_pos h2]at h;rw[Bool.and_eq_true,beq_iff_eq]at h2;rw[Nat.eq_of_beq_eq_true h2.1,h2.2];cases h
 rw[cJ,if_neg h2]at h
 by_cases h3:(Nat.beq t 284&&n== "Less")=true
 .rw[cJ,if_pos h3]at h;rw[Bool.and_eq_true,beq_iff_eq]at h3;rw[Nat.eq_of_beq_eq_true h3.1,h3.2];cases h;rw[show(method (prog.types.size+Made.depth) 284 (.pointer (some ⟨b,o,none⟩)) "Less").run prog w=(do let r<-loadVar 330 ⟨b,o,none⟩;pure (372,r):Sem (FuncId×Value)).run prog w by kernel_rfl,Sem.run_bind,hl];rfl
 rw[cJ,if_neg h3]at h
 by_cases h4:(Nat.beq t 284&&n== "Len")=true
 .rw[cJ,if_pos h4]at h;rw[Bool.and_eq_true,beq_iff_eq]at h4;rw[Nat.eq_of_beq_eq_true h4.1,h4.2];cases h;rw[show(method (prog.types.size+Made.depth) 284 (.pointer (some ⟨b,o,none⟩)) "Len").run prog w=(do let r<-loadVar 330 ⟨b,o,none⟩;pure (165,r):Sem (FuncId×Value)).run prog w by kernel_rfl,Sem.run_bind,hl];rfl
 rw[cJ,if_neg h4]at h;cases h
@[instance_reducible] def lF (o:FuncId->Option Orc):Ctx where
 P:=prog
 gl:=λg=>gd (Nat.blt g 12) (some g)
 orc:=λf=>oc (o f) (orcX f) some
 quiet:=[112]
 known:=λf=>oc (T.get bFz f) false λ_=>true
 n0:=12
 plan:=λf id=>ob (T.get bFz f) λt=>T.get t id
 G:=knowG
 meth:=methX
 kw:=λn=>sel (Nat.beq n 2) (some [.i .i64 0,.i .i64 (-1)]) none
 kwOk:=kw_ok
instance ctx : Ctx := lF λ_ => none
def baseK:List (Nat×Nat):=[(2,0),(1,1),(0,2)]
def T.allP{α:Type}(p:Nat->α->Bool):T α->(Nat->Nat)->Bool
 |.lf,_=>true
 |.nd l x r,f=>oc x true (p (f 0))&&(T.allP p l (λk=>f (2*k+1))&&T.allP p r (λk=>f (2*k+2)))
theorem T.allP_get{α:Type}{p:Nat->α->Bool}: ∀{t:T α} {f:Nat->Nat} {n:Nat} {x:α},T.allP p t f=true->T.get t n=some x->p (f n) x=true
 |.lf,_,_,_,_,h=>by cases h
 |.nd l y r,f,n,x,h,hg=>by
  simp only[T.allP,Bool.and_eq_true]at h
  cases n with
  |zero=>
   have hg:y=some x:=hg;subst hg;exact h.1
  |succ m=>
   have hg:(Bool.rec (motive:=λ_=>Nat->Option α) (T.get r) (T.get l) (Nat.beq (Nat.mod m 2) 0) (Nat.div m 2))=some x:=hg
   cases hb:Nat.beq (Nat.mod m 2) 0 with
   |true=>
    rw[hb]at hg;have:=T.allP_get h.2.1 hg;have hb:m%2=0:=Nat.eq_of_beq_eq_true hb
    have e:2*Nat.div m 2+1=m+1:=by
     show 2*(m/2)+1=m+1;omega
    rw[<-e];exact this
   |false=>
    rw[hb]at hg;have:=T.allP_get h.2.2 hg;have hb:m%2≠0:=λe=>by rw[show Nat.mod m 2=0 from e]at hb;cases hb
    have e:2*Nat.div m 2+2=m+1:=by
     show 2*(m/2)+2=m+1;omega
    rw[<-e];exact this
def validF [Ctx](f:FuncId):Bool:=oc (prog.funcs[f]?) true λfn=>oc fn.body true λc=>lL f c
end
theorem all_validW:(λo:FuncId->Option Orc=>T.allP (λf _=> @validF (lF o) f) bFz id)=λ_=>true:=k8
theorem all_valid(o:FuncId->Option Orc):T.allP (λf _=> @validF (lF o) f) bFz id=true:=congrFun all_validW o
theorem glA:Ctx.gl 2=some 2:=rfl
theorem glM:Ctx.gl 1=some 1:=rfl
theorem spaceIs:bHu:=λ_ h=>h
theorem maxIs:MaxIs:=λ_ h=>h
theorem glN:Ctx.gl 0=some 0:=rfl
theorem noneIs:NoneIs:=λ_ h=>h
theorem oG{α:Type}{c:Bool}{x y:Option α}{b:α}(h:sel c x y=some b):(c=true/\x=some b)\/y=some b:=by
 cases c with
 |true=>exact .inl ⟨rfl,h⟩
 |false=>exact .inr h
theorem sim_conv{o o':FuncId->Option Orc}{α:As}{s:St}{w:World}(h: @Sim (lF o) α s w): @Sim (lF o') α s w:= @Sim.mk (lF o') α s w (@Sim.gl (lF o) α s w h) (@Sim.lt (lF o) α s w h) (@Sim.sc (lF o) α s w h) (λk x hk=>by
 have:= @Sim.is (lF o) α s w h k x hk
 cases x with
 |cells cs t ext ro=>cases ext<;>exact this
 |_=>exact this) (@Sim.ne (lF o) α s w h)
theorem stp_conv{o o':FuncId->Option Orc}{α α':As}{s s':St}{w w':World}(h: @Stp (lF o) α s w α' s' w'): @Stp (lF o') α s w α' s' w':= @Stp.mk (lF o') α s w α' s' w' (@Stp.same (lF o) α s w α' s' w' h) (@Stp.n (lF o) α s w α' s' w' h) (@Stp.c (lF o) α s w α' s' w' h) (sim_conv (@Stp.sim (lF o) α s w α' s' w' h)) (@Stp.fr (lF o) α s w α' s' w' h) (@Stp.new (lF o) α s w α' s' w' h)
theorem orc_conv{o o':FuncId->Option Orc}{f:FuncId}{g:Orc}(h: @sJ (lF o) f g): @sJ (lF o') f g:=λargs s v s' hg α w hs ha=>by
 rcases h args s v s' hg α w (sim_conv hs) ha with ⟨u,w',h1,β,h2,h3⟩|⟨h1,h2⟩
 .exact .inl ⟨u,w',h1,β,h2,stp_conv h3⟩
 .exact .inr ⟨h1,h2.mono λ_ _ ⟨u,h3,β,h4,h5⟩=>⟨u,h3,β,h4,stp_conv h5⟩⟩
theorem orcX_ok(f:FuncId)(h:Orc)(ho:orcX f=some h):sJ f h:=by
 have ho:sel (Nat.beq f 330) (some (escO)) (sel (Nat.beq f 227) (some (parseO)) (sel (Nat.beq f 317) (some (contO)) (sel (Nat.beq f 267) (some (fieldsO 2)) (sel (Nat.beq f 229) (some (idxO)) (sel (Nat.beq f 303) (some (joinO)) (sel (Nat.beq f 314) (some (replO 1)) (sel (Nat.beq f 316) (some (trimO 2)) (sel (Nat.beq f 9) (some (genO 0)) (none)))))))))=some h:=ho
 rcases oG ho with ⟨hf,ho⟩|ho
 .cases ho;rw[Nat.eq_of_beq_eq_true hf];exact esc_orc rfl
 rcases oG ho with ⟨hf,ho⟩|ho
 .cases ho;rw[Nat.eq_of_beq_eq_true hf];exact parse_orc rfl
 rcases oG ho with ⟨hf,ho⟩|ho
 .cases ho;rw[Nat.eq_of_beq_eq_true hf];exact cont_orc rfl
 rcases oG ho with ⟨hf,ho⟩|ho
 .cases ho;rw[Nat.eq_of_beq_eq_true hf];exact fields_orc rfl glA spaceIs
 rcases oG ho with ⟨hf,ho⟩|ho
 .cases ho;rw[Nat.eq_of_beq_eq_true hf];exact idx_orc rfl
 rcases oG ho with ⟨hf,ho⟩|ho
 .cases ho;rw[Nat.eq_of_beq_eq_true hf];exact join_orc rfl
 rcases oG ho with ⟨hf,ho⟩|ho
 .cases ho;rw[Nat.eq_of_beq_eq_true hf];exact repl_orc rfl glM maxIs
 rcases oG ho with ⟨hf,ho⟩|ho
 .cases ho;rw[Nat.eq_of_beq_eq_true hf];exact trim_orc rfl glA spaceIs
 rcases oG ho with ⟨hf,ho⟩|ho
 .cases ho;rw[Nat.eq_of_beq_eq_true hf];exact gen_orc rfl glN noneIs
 cases ho
theorem goodW{o:FuncId->Option Orc}(hO: ∀f h,o f=some h-> @sJ (lF o) f h): @Good (lF o):= @Good.mk (lF o) (@Meths.mk (lF o) meth_ok meth_deref) k8 (λg k h=>by
  obtain⟨h1,h2⟩:=bL h;cases h2
  exact(show g<12 by simpa using h1)) (λf hk fn c hf hb=>by
  have hk:oc (T.get bFz f) false (λ_=>true)=true:=hk;rw[qK]at hk
  cases ht:T.get bFz f with
  |none=>rw[ht]at hk;cases hk
  |some t=>
   have:=T.allP_get (all_valid o) ht;have h: @validF (lF o) f=true:=this;unfold validF at h;rw[show prog.funcs[f]?=some fn from hf]at h;have h:oc fn.body true (λc=> @lL (lF o) f c)=true:=h;rw[hb]at h
   exact h) (λf h ho=>by
  have ho:oc (o f) (orcX f) some=some h:=ho;rw[qK]at ho
  cases hf:o f with
  |some g=>
   rw[hf]at ho;cases ho;exact hO f _ hf
  |none=>
   rw[hf]at ho
   exact orc_conv (o:=λ_=>none) (orcX_ok f h ho))
instance good : Good := goodW λ_ _ h => by cases h
end X
end
section
open Go.Proofs.Tryz
namespace X
open Go.RowKit Go.Proofs.Tryz
noncomputable section
def o0:FuncId->Option Orc:=λ_=>none
theorem okO0: @Good (lF o0):=good
def isTrue:Option (V×St)->Bool
 |some (.b true,_)=>true
 |_=>false
theorem isTrue_ex{q:Option (V×St)}(h:isTrue q=true): ∃s,q=some (.b true,s):=by
 cases q with
 |none=>cases h
 |some q=>
  obtain⟨v,s⟩:=q
  cases v with
  |b x=>
   cases x with
   |true=>exact⟨s,rfl⟩
   |false=>cases h
  |_=>cases h
theorem shown19R:isTrue (@callF (lF o0) 8 (@zV (lF o0) 3000) [] (@baseS (lF o0) baseK))=true:=k8
end
def LaidX (w:World):Prop:=Lib.TabIs prog w "strings.asciiSpace" .u8 Lib.asciiSpaceTab/\(∃m,w.cell? ⟨1,0,none⟩=some (.int .i64 m))/\ ∃t z,w.heap[(0:Nat)]?=some (.cells #[.int .i64 0,.int .i64 (-1)] t z)
theorem base_laid{o:FuncId->Option Orc}{w:World}(h:LaidX w): @Sim (lF o) ⟨λk=>k,λ_=>0,λ_=>none⟩ (@baseS (lF o) baseK) w:=by
 obtain⟨h0,⟨m,h1⟩,t2,z2,h2⟩:=h
 have hk: ∀k x,(baseH baseK).get k=some x->(k=2/\x= .know 0)\/(k=1/\x= .know 1)\/(k=0/\x= .know 2):=λk x hx=>by
  obtain⟨m,hm,rfl⟩:=bEv hx
  rcases List.mem_cons.1 hm with e|hm
  .cases e;exact .inl ⟨rfl,rfl⟩
  .rcases List.mem_cons.1 hm with e|hm
   .cases e;exact .inr (.inl ⟨rfl,rfl⟩)
   .rcases List.mem_cons.1 hm with e|hm
    .cases e;exact .inr (.inr ⟨rfl,rfl⟩)
    .cases hm
 refine @Sim.mk (lF o) _ _ w (λg k hg=>?_) (λk x hx=>?_) (λk x hx=>?_) (λk x hx=>?_) (λk k' x x' _ _ e=>e)
 .obtain⟨h2,h3⟩:=bL hg;cases h3;exact⟨(show g<12 by simpa using h2),rfl⟩
 .rcases hk k x hx with ⟨rfl,rfl⟩|⟨rfl,rfl⟩|⟨rfl,rfl⟩
  .exact(show(2:Nat)<12 by decide)
  .exact(show(1:Nat)<12 by decide)
  .exact(show(0:Nat)<12 by decide)
 .rcases hk k x hx with ⟨rfl,rfl⟩|⟨rfl,rfl⟩|⟨rfl,rfl⟩<;>trivial
 .rcases hk k x hx with ⟨rfl,rfl⟩|⟨rfl,rfl⟩|⟨rfl,rfl⟩
  .unfold Lib.TabIs World.var? at h0;rw[show prog.globalNamed "strings.asciiSpace" =some 2 by kernel_rfl]at h0;have h0:(match w.heap[2]? with|some (Obj.cells cs _ _)=>some cs|_=>none)=some (Lib.asciiSpaceTab.map λz=>Value.int .u8 z).toArray:=h0;split at h0
   .rename_i cs t z hw;cases h0;exact⟨_,hw,t,z,rfl⟩
   .cases h0
  .unfold World.cell? at h1;split at h1
   .rename_i cs t z hw;have hc:cs[0]?=some (.int .i64 m):=h1;refine⟨_,hw,m,cs.toList.tail,t,z,?_⟩
    congr 1
    obtain⟨l⟩:=cs
    cases l with
    |nil=>cases hc
    |cons a r=>
     have:a= .int .i64 m:=by simpa using hc
     rw[this];rfl
   .cases h1
  .exact⟨_,h2,t2,z2,rfl⟩
theorem shown19_true{w:World}(h:LaidX w):(callFunc 8 #[]).run prog w= .ok (.enter 8 #[]) w/\Calls prog 8 #[] w λe w'=>e= .returned (.bool true)/\Below w.heap.size w w':=by
 obtain⟨s,hs⟩:=isTrue_ex shown19R;exact @ran_true (lF o0) _ _ okO0 _ _ _ _ hs (base_laid h)
end X
end
section
open Go.RowKit Go.ChangeShapes Go.Proofs.Tryz
abbrev bJz:List (String×DataW Unit):=Rows.genRefusesRow.laid
theorem named0:prog.globalNamed "strings.asciiSpace" =some 2:=k8
theorem namedN:prog.globalNamed "windrow/plan.none" =some 0:=k8
def laidF:bC where
 p S w:=(S 2/\S 1/\S 0)/\X.LaidX w
 mono:=λ{S S' w w'} hs ha h=>by
  obtain⟨⟨s0,s4,s9⟩,h0,⟨m,h4⟩,t,z,h9⟩:=h;refine⟨⟨hs _ s0,hs _ s4,hs _ s9⟩,?_,⟨m,?_⟩,t,z,?_⟩
  .unfold Lib.TabIs World.var? at*;rw[named0]at*;simp only[Option.bind_some,ha _ s0]at*;exact h0
  .unfold World.cell? at*;rw[ha _ s4];exact h4
  .rw[ha _ s9];exact h9
theorem bKi{P:Program}{W:World}{name:String}{k:IntKind}{zs:List Int}{g:Nat}{t e:TypeId}{n:Nat}
  (hg:P.globalNamed name=some g) (hty:(P.globals[g]?).map (·.type)=some t) (ht:P.underlying t=some (.array n e)) (he:P.underlying e=some (.int k)) (hce:P.cellsOf e=1) (hct:P.cellsOf t=n)
  (h:Lib.VarReads P W name (Lib.tabData k zs)):Lib.TabIs P W name k zs:=by
 obtain⟨g',t',cs,fuel,p,hg',ht',hvar,hd⟩:=h;obtain rfl:=Option.some.inj (hg.symm.trans hg');obtain rfl:=Option.some.inj (hty.symm.trans ht');unfold Lib.TabIs;rw[hvar,<-Lib.cells_of_tab ht he hce hct hd]
theorem var_lt{P:Program}{W:World}{name:String}{g:Nat}{cs:Array Value}(hg:P.globalNamed name=some g)(h:W.var? P name=some cs):g<W.heap.size:=by
 unfold World.var? at h;rw[hg]at h;simp only[Option.bind_some]at h
 cases hh:W.heap[g]? with
 |none=>rw[hh]at h;cases h
 |some o=>exact(Array.getElem?_eq_some_iff.1 hh).1
theorem cell_lt'{W:World}{g i:Nat}{v:Value}(h:W.cell? ⟨g,i,none⟩=some v):g<W.heap.size:=by
 unfold World.cell? at h
 cases hh:W.heap[g]? with
 |none=>rw[hh]at h;cases h
 |some o=>exact(Array.getElem?_eq_some_iff.1 hh).1
set_option maxRecDepth 1000000 in
theorem globF_of{W:World}(hL:laidMetH prog bJz W)(hsh:W.ShapedOpen prog):laidF.p (λb=>b<W.heap.size) W:=by
 have hL':laidMet prog bJz W:=hL;have h0:Lib.TabIs prog W "strings.asciiSpace" .u8 Lib.asciiSpaceTab:=bKi (t:=408) (e:=5) (n:=256) named0 k8 underlying408 underlying5 k8 k8
  (Lib.laidMet.reads hL' (.tail _ (.tail _ (.tail _ (.tail _ (.tail _ (.tail _ (.tail _ (.head _)))))))))
 obtain⟨m,h4⟩:=cell_of_shapedOpen_int (P:=prog) (g:=1) (t:=3) (zero:= #[.int .i64 0]) hsh (of_decide_eq_true k8) k8 rfl k8 k8 underlying3;obtain⟨g',t',cs,fuel,p,hg',ht',hvar,hd⟩:=Lib.laidMet.reads hL' (n:= "windrow/plan.none") (.tail _ (.tail _ (.tail _ (.tail _ (.tail _ (.tail _ (.tail _ (.tail _ (.head _)))))))));obtain rfl:=Option.some.inj (namedN.symm.trans hg');obtain rfl:114=t':=Option.some.inj ((show(prog.globals[0]?).map (·.type)=some 114 by kernel_rfl).symm.trans ht');obtain⟨y0,y1,n,ex,hl,q0,q1⟩:=trod_struct2 underlying114 hd;have hc:prog.cellsOf 114=2:=k8
 have hc1:prog.cellsOf 3=1:=k8
 rw[hc]at hl;have ex':Rows.laid_windrow_plan_none=(DataW.agg [y0.1,y1.1]:DataW Unit):=congrArg Prod.fst ex;injection ex' with ex'
 injection ex' with e0 ex'
 injection ex' with e1 _
 obtain⟨l⟩:=cs
 match l,hl with
 |[a,b],_=>
  obtain⟨n0,r0,x0,_⟩:=DataW.trod_int underlying3 q0;obtain⟨n1,r1,x1,_⟩:=DataW.trod_int underlying3 q1;rw[x0]at e0;rw[x1]at e1;have z0:0=n0:=by injection e0 with e0;injection e0
  have z1: -1=n1:=by injection e1 with e1;injection e1
  subst z0 z1;have r0:[a]=[.int .i64 0]:=r0;have r1:[b]=[.int .i64 (-1)]:=r1;injection r0 with ra
  injection r1 with rb
  subst ra;subst rb;have hN:=var_lt namedN hvar;unfold World.var? at hvar;rw[namedN]at hvar;simp only[Option.bind_some]at hvar;refine⟨⟨var_lt named0 h0,cell_lt' h4,hN⟩,h0,⟨m,h4⟩,?_⟩
  cases hh:W.heap[(0:Nat)]? with
  |none=>rw[hh]at hvar;cases hvar
  |some o=>
   rw[hh]at hvar
   cases o with
   |cells cs t z=>
    simp only[Option.some.injEq]at hvar;subst hvar;exact⟨t,z,rfl⟩
   |_=>cases hvar
theorem shown19_spec:cE prog 8 [] [] [laidF] (λ_:Unit=> .bool true) (λ_=>[]) (λ_=>[]):=pC λ_ _ _ k=>(X.shown19_true (k laidF (List.mem_cons_self ..)).2).2
def flat1:DataW Unit->List Value
 |.lit (.int k n)=>[.int k n]
 |_=>[]
def flat2:DataW Unit->List Value
 |.agg l=>l.flatMap flat1
 |d=>flat1 d
def bJo:DataW Unit->Array Value
 |.agg l=>(l.flatMap flat2).toArray
 |_=> #[]
def whiteNums:List Int:=[9,13,1,32,133,101,160,5760,5600,8192,8202,1,8232,8233,1,8239,8287,48,12288,12288,1]
noncomputable def laidWorld (os:Os):World:=
 let N:=(World.settled prog os).heap.size
 let w0:=World.holding prog os ⟨#[.cells (whiteNums.map λz=>Value.int .u16 z).toArray 451,.cells #[.slice (some ⟨N,0,none⟩) 7 7,.slice none 0 0,.int .i64 2] 448,
  .cells #[.string ⟨#[118,97,108,117,101,32,111,117,116,32,111,102,32,114,97,110,103,101]⟩] 444,.cells #[.string ⟨#[105,110,118,97,108,105,100,32,115,121,110,116,97,120]⟩] 444],#[],[]⟩
 let put (h:Array Obj) (g:Nat) (cs:Array Value):Array Obj:=h.modify g fun
  |.cells _ t frozen=> .cells cs t frozen
  |o=>o
 let h1:=put w0.heap 9 (bJo Rows.laid_math_bits_deBruijn32tab)
 let h2:=put h1 10 (bJo Rows.laid_math_bits_deBruijn64tab)
 let h3:=put h2 8 (bJo Rows.laid_internal_strconv_uint64pow10)
 let h4:=put h3 7 (bJo Rows.laid_unicode_utf8_acceptRanges)
 let h5:=put h4 4 #[.iface 442 (.pointer (some ⟨N+2,0,none⟩))]
 let h6:=put h5 3 #[.iface 442 (.pointer (some ⟨N+3,0,none⟩))]
 let h7:=put h6 5 #[.pointer (some ⟨N+1,0,none⟩)]
 let h8:=put h7 2 (bJo Rows.laid_strings_asciiSpace)
 let h9:=put h8 6 (bJo Rows.laid_unicode_utf8_first)
 let h10:=put h9 0 (bJo Rows.laid_windrow_plan_none)
 {w0 with heap:=h10}
noncomputable abbrev N0:Nat:=(World.settled prog default).heap.size
set_option maxRecDepth 1000000 in
theorem piece0(os:Os)(args:Array Value):LaidIn prog ((laidWorld os).forCall (λ_ _=>0) ⟨#[],args,[]⟩).memory [("math/bits.deBruijn32tab",Rows.laid_math_bits_deBruijn32tab)] [9]:=
 LaidIn.of_run [9] 10 k8 k8 k8 k8
set_option maxRecDepth 1000000 in
theorem piece1(os:Os)(args:Array Value):LaidIn prog ((laidWorld os).forCall (λ_ _=>0) ⟨#[],args,[]⟩).memory [("math/bits.deBruijn64tab",Rows.laid_math_bits_deBruijn64tab)] [10]:=
 LaidIn.of_run [10] 10 k8 k8 k8 k8
set_option maxRecDepth 1000000 in
theorem piece2(os:Os)(args:Array Value):LaidIn prog ((laidWorld os).forCall (λ_ _=>0) ⟨#[],args,[]⟩).memory [("internal/strconv.uint64pow10",Rows.laid_internal_strconv_uint64pow10)] [8]:=
 LaidIn.of_run [8] 10 k8 k8 k8 k8
set_option maxRecDepth 1000000 in
theorem piece3(os:Os)(args:Array Value):LaidIn prog ((laidWorld os).forCall (λ_ _=>0) ⟨#[],args,[]⟩).memory [("unicode/utf8.acceptRanges",Rows.laid_unicode_utf8_acceptRanges)] [7]:=
 LaidIn.of_run [7] 10 k8 k8 k8 k8
set_option maxRecDepth 1000000 in
theorem piece4(os:Os)(args:Array Value):LaidIn prog ((laidWorld os).forCall (λ_ _=>0) ⟨#[],args,[]⟩).memory [("strconv.ErrRange",Rows.laid_strconv_ErrRange)] [4,N0+2]:=
 LaidIn.of_run [4,N0+2] 10 k8 k8 k8 k8
set_option maxRecDepth 1000000 in
theorem piece5(os:Os)(args:Array Value):LaidIn prog ((laidWorld os).forCall (λ_ _=>0) ⟨#[],args,[]⟩).memory [("strconv.ErrSyntax",Rows.laid_strconv_ErrSyntax)] [3,N0+3]:=
 LaidIn.of_run [3,N0+3] 10 k8 k8 k8 k8
set_option maxRecDepth 1000000 in
theorem piece6(os:Os)(args:Array Value):LaidIn prog ((laidWorld os).forCall (λ_ _=>0) ⟨#[],args,[]⟩).memory [("unicode.White_Space",Rows.laid_unicode_White_Space)] [5,N0,N0+1]:=
 LaidIn.of_run [5,N0,N0+1] 10 k8 k8 k8 k8
set_option maxRecDepth 1000000 in
theorem piece7(os:Os)(args:Array Value):LaidIn prog ((laidWorld os).forCall (λ_ _=>0) ⟨#[],args,[]⟩).memory [("strings.asciiSpace",Rows.laid_strings_asciiSpace)] [2]:=
 LaidIn.of_run [2] 10 k8 k8 k8 k8
set_option maxRecDepth 1000000 in
theorem piece8(os:Os)(args:Array Value):LaidIn prog ((laidWorld os).forCall (λ_ _=>0) ⟨#[],args,[]⟩).memory [("unicode/utf8.first",Rows.laid_unicode_utf8_first)] [6]:=
 LaidIn.of_run [6] 10 k8 k8 k8 k8
set_option maxRecDepth 1000000 in
theorem pieceN(os:Os)(args:Array Value):LaidIn prog ((laidWorld os).forCall (λ_ _=>0) ⟨#[],args,[]⟩).memory [("windrow/plan.none",Rows.laid_windrow_plan_none)] [0]:=
 LaidIn.of_run [0] 10 k8 k8 k8 k8
set_option maxRecDepth 1000000 in
theorem laid_met(os:Os)(args:Array Value):laidMet prog bJz ((laidWorld os).forCall (λ_ _=>0) ⟨#[],args,[]⟩).memory:=
 ((((((((((piece0 os args).append (piece1 os args) k8).append (piece2 os args) k8).append (piece3 os args) k8).append (piece4 os args) k8).append (piece5 os args) k8).append (piece6 os args) k8).append (piece7 os args) k8).append (pieceN os args) k8).append (piece8 os args) k8).met
end
section
open Go.RowKit Go.ChangeShapes Go.WideShapes Go.Proofs.Tryz
section
variable {H : Type} {enc : TypeId × Value -> H} {P : Program}
theorem zF(hl:laidOutB P=true){W W':World}(hb:Below W.heap.size W W'): ∀{ts:List TypeId} {vs:List Value} {ds:List (DataW H)} {ps:List MemPlace},
  (∀t∈ts,P.readableRec t=true/\t<P.types.size)->(∀x∈ps,x.block<W.heap.size)->DataW.TrodAll enc P W 0 (λ_=>true) true ts vs ds ps->
  DataW.TrodAll enc P W' 0 (λb=>decide (b<W.heap.size)) true ts vs ds ps
 |[],_,_,_,_,_,h=>by
  obtain⟨rfl,rfl,rfl⟩:=trodAll_nil h;exact trodAll_mk0
 |t::ts,_,_,_,ht,hlt,h=>by
  obtain⟨v,vs,d,ds,p,q,rfl,rfl,rfl,h1,h2⟩:=trodAll_cons h;have hr:=ht t m9;exact trodAll_cons_mk (Below.trod hl hr.1 hr.2 h1 hb (λx hx=>hlt x s7)) (zF hl hb (λt h=>ht t u4) (λx hx=>hlt x s7) h2)
theorem law_post{f:Func}{s:ChangeSpec}{W W':World}{args:Array Value}{ds:List (DataW H)}{before:List MemPlace}{tb:TypeId}
  (hW:DataW.Whole enc P f.params.toList s.vars false W args.toList ds [] before) (hv:s.vars=[]) (hfn:s.fn H (ds++[])={results:=[.lit (.bool true)],args:=ds})
  (hr:f.resultTypes= #[tb]) (hb:P.underlying tb=some .bool) (hl:laidOutB P=true) (hread: ∀t∈f.params.toList,P.readableRec t=true/\t<P.types.size) (h:Below W.heap.size W W'):
  s.post enc P f false true false false W args (.bool true) W':=by
 have hlt: ∀p∈before,p.block<W.heap.size:=λp hp=>hW.lt p hp;have hW':=hW;obtain⟨p,q,hA,hV,rfl,_,_⟩:=hW;rw[hv]at hV;have hq:q=[]:=hV;subst hq;refine⟨ds,[],_,[],p,[],hW',?_,?_,?_,?_,λh=>by cases h⟩
 .rw[hfn,hr];exact trodAll_mk1 (shut_bool hb true)
 .rw[hfn];exact zF hl h hread (λx hx=>hlt x s7) hA
 .rw[hfn,hv];rfl
 .exact h.frame _
end
theorem bNx{ι:Type}{f:FuncId}{args:List Value}{Pre:List bC}{v:Value}(h:cE prog f args [] Pre (λ_:ι=>v) (λ_=>[]) (λ_=>[])){w:World}(hp:All Pre (λb=>b<w.heap.size) w):
  Calls prog f args.toArray w λe w'=>e= .returned v/\Below w.heap.size w w':=by
 refine(h (λb=>b<w.heap.size) w ⟨nP.refl _ _,λc hc=>by simp at hc,λc hc=>by simp at hc,List.Pairwise.nil,λb hb=>⟨hb,.inl hb⟩⟩ hp).mono ?_;rintro e w' ⟨_,_,rfl,s,_⟩;refine⟨rfl,s.kept.os,s.kept.tape,s.kept.output,s.kept.size,λk hk=>s.kept.block k hk λ⟨c,hc,_⟩=>by simp at hc⟩
theorem own:ownKnob prog.godebug=none:=k8
theorem laid:laidOutB prog=true:=k8
end
section
open Go.RowKit Go.ChangeShapes Go.WideShapes Go.Proofs.Tryz
section
variable {α H : Type} {enc : TypeId × Value -> H} {P : Program} {w : World} {t e : TypeId}
def Ty.slicec(T:Ty α)(b:Nat):Ty (Sl α):=⟨slE α,λs=>((T.slice b).deep s).and (bC.pure (s.list.length<=s.cap))⟩
theorem jS{deep:Sl α->bC}(hu:P.underlying t=some (.slice e))(he:nK enc P w t (slE α).cells deep):nK enc P w t (slE α).cells (λs=>(deep s).and (bC.pure (s.list.length<=s.cap))):=λfuel cs x h hw=>by
 obtain⟨a,e0,d⟩:=he fuel cs x h hw;refine⟨a,e0,d,?_⟩;have e0':cs=[.slice a.addr a.list.length a.cap]:=e0;show a.list.length<=a.cap
 rcases Deep.open_slice hu h with ⟨e1,_⟩|⟨a',len,cap,m,n,D,Pl,e1,_,hl,_⟩
 .rw[e0']at e1;simp only[List.cons.injEq,and_true,Value.slice.injEq]at e1;omega
 .rw[e0']at e1;simp only[List.cons.injEq,and_true,Value.slice.injEq]at e1;omega
end
set_option maxRecDepth 100000
section
variable {H : Type} {enc : TypeId × Value -> H} {w : World}
theorem u8_of{n:Int}(h:(Lit.int .u8 n).wf=true): ∃e:UInt8,n=(e.toNat:Int):=by
 have h':0<=n/\n<=255:=bounds_u8 h;refine⟨UInt8.ofNat n.toNat,?_⟩;rw[UInt8.toNat_ofNat'];omega
theorem read_mono{fuel:Nat}{cs:List Value}{x:DataW H×List MemPlace}(h:DataW.trod enc prog w 0 (λ_=>true) true fuel 111 cs=some x): ∃m:Mono,cs=m.cells/\(Lit.int .i64 m.n).wf=true:=by
 obtain⟨xs,n,_,_,hlen,hxl,hf⟩:=DataW.trod_struct underlying111 h;have hc39:prog.cellsOf 111=7:=k8
 have hc2:prog.cellsOf 2=1:=k8
 have hc37:prog.cellsOf 109=6:=k8
 have hc5:prog.cellsOf 5=1:=k8
 rw[hc39]at hlen;have hxl':xs.length=2:=hxl
 match cs,hlen with
 |[a,b0,b1,b2,b3,b4,b5],_=>
  have h0:DataW.trod enc prog w 0 (λ_=>true) true n 2 (([a,b0,b1,b2,b3,b4,b5].drop 0).take (prog.cellsOf 2))=xs[0]?:=hf 0 _ rfl;have h1:DataW.trod enc prog w 0 (λ_=>true) true n 109 (([a,b0,b1,b2,b3,b4,b5].drop 1).take (prog.cellsOf 109))=xs[1]?:=hf 1 _ rfl;rw[hc2,List.getElem?_eq_getElem k7]at h0;rw[hc37,List.getElem?_eq_getElem k7]at h1;obtain⟨nn,e0,_,hw⟩:=DataW.trod_int underlying2 h0;obtain⟨ys,n',_,_,_,hyl,hg⟩:=DataW.trod_array underlying109 h1
  have g: ∀i,i<6-> ∃e:UInt8,(([b0,b1,b2,b3,b4,b5]:List Value).drop i).take 1=[.int .u8 (e.toNat:Int)]:=λi hi=>by
   have h2:=hg i hi;rw[hc5,Nat.mul_one,List.getElem?_eq_getElem k7]at h2;obtain⟨k,e1,_,hw1⟩:=DataW.trod_int underlying5 h2;obtain⟨e,rfl⟩:=u8_of hw1;exact⟨e,e1⟩
  obtain⟨e0',g0⟩:=g 0 k7;obtain⟨e1',g1⟩:=g 1 k7;obtain⟨e2',g2⟩:=g 2 k7;obtain⟨e3',g3⟩:=g 3 k7;obtain⟨e4',g4⟩:=g 4 k7;obtain⟨e5',g5⟩:=g 5 k7;simp at e0 g0 g1 g2 g3 g4 g5;subst e0 g0 g1 g2 g3 g4 g5;exact⟨⟨nn,e0',e1',e2',e3',e4',e5'⟩,rfl,hw⟩
end
def nT:Ty Mono:=⟨mM,λm=>bC.pure ((Lit.int .i64 m.n).wf=true)⟩
theorem vM{H:Type}{enc:TypeId×Value->H}{w:World}:nK enc prog w 111 nT.E.cells nT.deep:=λfuel cs x h _=>by
 obtain⟨m,e,hw⟩:=read_mono h;exact⟨m,e,hw⟩
instance : Inhabited Mono := ⟨⟨0, 0, 0, 0, 0, 0, 0⟩⟩
def opTy:Ty OpV:=⟨opE,λx=>(bC.pure ((Lit.int .i64 x.how).wf=true)).and ((bC.pure ((Lit.int .i64 x.k).wf=true)).and ((bC.pure ((Lit.int .i64 x.n).wf=true)).and ((((nT.slice 16)).deep x.p).and ((bC.pure ((Lit.int .u8 x.fn).wf=true)).and (bC.true)))))⟩
theorem opens_op{H:Type}{enc:TypeId×Value->H}{w:World}:nK enc prog w 172 opE.cells opTy.deep:=λfuel cs x h hw=>by
 obtain⟨xs,n,_,rfl,hlen,hxl,hf⟩:=DataW.trod_struct underlying172 h;have hc:prog.cellsOf 172=5:=k8
 rw[hc]at hlen;have hxl':xs.length=5:=hxl
 match cs,hlen with
 |[c0,c1,c2,c3,c4],_=>
  have h0:DataW.trod enc prog w 0 (λ_=>true) true n 3 (([c0,c1,c2,c3,c4].drop 0).take (prog.cellsOf 3))=xs[0]?:=hf 0 _ rfl;have h1:DataW.trod enc prog w 0 (λ_=>true) true n 3 (([c0,c1,c2,c3,c4].drop 1).take (prog.cellsOf 3))=xs[1]?:=hf 1 _ rfl;have h2:DataW.trod enc prog w 0 (λ_=>true) true n 2 (([c0,c1,c2,c3,c4].drop 2).take (prog.cellsOf 2))=xs[2]?:=hf 2 _ rfl;have h3:DataW.trod enc prog w 0 (λ_=>true) true n 43 (([c0,c1,c2,c3,c4].drop 3).take (prog.cellsOf 43))=xs[3]?:=hf 3 _ rfl;have h4:DataW.trod enc prog w 0 (λ_=>true) true n 77 (([c0,c1,c2,c3,c4].drop 4).take (prog.cellsOf 77))=xs[4]?:=hf 4 _ rfl;rw[List.getElem?_eq_getElem k7]at h0;obtain⟨a0,e0,d0⟩:=(fP underlying3) _ _ _ h0 (cA underlying172 hw (j:=0) rfl (by rw[List.getElem?_map,List.getElem?_eq_getElem k7];rfl))
  have q0:[c0]=[.int .i64 a0]:=by
   have hk:prog.cellsOf 3=1:=k8
   rw[hk]at e0;exact e0
  clear e0;simp only[List.cons.injEq,and_true]at q0;rw[List.getElem?_eq_getElem k7]at h1;obtain⟨a1,e1,d1⟩:=(fP underlying3) _ _ _ h1 (cA underlying172 hw (j:=1) rfl (by rw[List.getElem?_map,List.getElem?_eq_getElem k7];rfl))
  have q1:[c1]=[.int .i64 a1]:=by
   have hk:prog.cellsOf 3=1:=k8
   rw[hk]at e1;exact e1
  clear e1;simp only[List.cons.injEq,and_true]at q1;rw[List.getElem?_eq_getElem k7]at h2;obtain⟨a2,e2,d2⟩:=(fP underlying2) _ _ _ h2 (cA underlying172 hw (j:=2) rfl (by rw[List.getElem?_map,List.getElem?_eq_getElem k7];rfl))
  have q2:[c2]=[.int .i64 a2]:=by
   have hk:prog.cellsOf 2=1:=k8
   rw[hk]at e2;exact e2
  clear e2;simp only[List.cons.injEq,and_true]at q2;rw[List.getElem?_eq_getElem k7]at h3;obtain⟨a3,e3,d3⟩:=(fD (T:=nT) (b:=16) underlying43 k8 k8 vM) _ _ _ h3 (cA underlying172 hw (j:=3) rfl (by rw[List.getElem?_map,List.getElem?_eq_getElem k7];rfl))
  have q3:[c3]=[.slice a3.addr a3.list.length a3.cap]:=by
   have hk:prog.cellsOf 43=1:=k8
   rw[hk]at e3;exact e3
  clear e3;simp only[List.cons.injEq,and_true]at q3;rw[List.getElem?_eq_getElem k7]at h4;obtain⟨a4,e4,d4⟩:=(fP underlying77) _ _ _ h4 (cA underlying172 hw (j:=4) rfl (by rw[List.getElem?_map,List.getElem?_eq_getElem k7];rfl))
  have q4:[c4]=[.int .u8 a4]:=by
   have hk:prog.cellsOf 77=1:=k8
   rw[hk]at e4;exact e4
  clear e4;simp only[List.cons.injEq,and_true]at q4;obtain rfl:=q0;obtain rfl:=q1;obtain rfl:=q2;obtain rfl:=q3;obtain rfl:=q4;exact⟨⟨a0,a1,a2,a3,a4⟩,rfl,d0,d1,d2,d3,d4,e8⟩
def bufTy:Ty jD:=⟨vE,λx=>((((nT.slice 16).slicec 24)).deep x.sides).and ((bC.pure ((Lit.int .i64 x.input).wf=true)).and (bC.true))⟩
theorem opens_buf{H:Type}{enc:TypeId×Value->H}{w:World}:nK enc prog w 95 vE.cells bufTy.deep:=λfuel cs x h hw=>by
 obtain⟨xs,n,_,rfl,hlen,hxl,hf⟩:=DataW.trod_struct underlying95 h;have hc:prog.cellsOf 95=2:=k8
 rw[hc]at hlen;have hxl':xs.length=2:=hxl
 match cs,hlen with
 |[c0,c1],_=>
  have h0:DataW.trod enc prog w 0 (λ_=>true) true n 42 (([c0,c1].drop 0).take (prog.cellsOf 42))=xs[0]?:=hf 0 _ rfl;have h1:DataW.trod enc prog w 0 (λ_=>true) true n 3 (([c0,c1].drop 1).take (prog.cellsOf 3))=xs[1]?:=hf 1 _ rfl;rw[List.getElem?_eq_getElem k7]at h0;obtain⟨a0,e0,d0⟩:=(jS underlying42 (fD (T:=(nT.slice 16)) (b:=24) underlying42 k8 k8 (fD (T:=nT) (b:=16) underlying43 k8 k8 vM))) _ _ _ h0 (cA underlying95 hw (j:=0) rfl (by rw[List.getElem?_map,List.getElem?_eq_getElem k7];rfl))
  have q0:[c0]=[.slice a0.addr a0.list.length a0.cap]:=by
   have hk:prog.cellsOf 42=1:=k8
   rw[hk]at e0;exact e0
  clear e0;simp only[List.cons.injEq,and_true]at q0;rw[List.getElem?_eq_getElem k7]at h1;obtain⟨a1,e1,d1⟩:=(fP underlying3) _ _ _ h1 (cA underlying95 hw (j:=1) rfl (by rw[List.getElem?_map,List.getElem?_eq_getElem k7];rfl))
  have q1:[c1]=[.int .i64 a1]:=by
   have hk:prog.cellsOf 3=1:=k8
   rw[hk]at e1;exact e1
  clear e1;simp only[List.cons.injEq,and_true]at q1;obtain rfl:=q0;obtain rfl:=q1;exact⟨⟨a0,a1⟩,rfl,d0,d1,e8⟩
def bIn:Ty fW:=⟨sQ,λx=>(bC.pure ((Lit.int .i64 x.how).wf=true)).and ((bC.pure ((Lit.int .i64 x.buf).wf=true)).and ((((nT.slice 16)).deep x.at_).and (((((nT.slice 16).slicec 24)).deep x.loops).and ((bC.pure ((Lit.int .u8 x.fn).wf=true)).and ((((opTy.slicec 56)).deep x.ops).and (bC.true))))))⟩
theorem opens_step{H:Type}{enc:TypeId×Value->H}{w:World}:nK enc prog w 80 sQ.cells bIn.deep:=λfuel cs x h hw=>by
 obtain⟨xs,n,_,rfl,hlen,hxl,hf⟩:=DataW.trod_struct underlying80 h;have hc:prog.cellsOf 80=6:=k8
 rw[hc]at hlen;have hxl':xs.length=6:=hxl
 match cs,hlen with
 |[c0,c1,c2,c3,c4,c5],_=>
  have h0:DataW.trod enc prog w 0 (λ_=>true) true n 3 (([c0,c1,c2,c3,c4,c5].drop 0).take (prog.cellsOf 3))=xs[0]?:=hf 0 _ rfl;have h1:DataW.trod enc prog w 0 (λ_=>true) true n 3 (([c0,c1,c2,c3,c4,c5].drop 1).take (prog.cellsOf 3))=xs[1]?:=hf 1 _ rfl;have h2:DataW.trod enc prog w 0 (λ_=>true) true n 43 (([c0,c1,c2,c3,c4,c5].drop 2).take (prog.cellsOf 43))=xs[2]?:=hf 2 _ rfl;have h3:DataW.trod enc prog w 0 (λ_=>true) true n 42 (([c0,c1,c2,c3,c4,c5].drop 3).take (prog.cellsOf 42))=xs[3]?:=hf 3 _ rfl;have h4:DataW.trod enc prog w 0 (λ_=>true) true n 77 (([c0,c1,c2,c3,c4,c5].drop 4).take (prog.cellsOf 77))=xs[4]?:=hf 4 _ rfl;have h5:DataW.trod enc prog w 0 (λ_=>true) true n 78 (([c0,c1,c2,c3,c4,c5].drop 5).take (prog.cellsOf 78))=xs[5]?:=hf 5 _ rfl;rw[List.getElem?_eq_getElem k7]at h0;obtain⟨a0,e0,d0⟩:=(fP underlying3) _ _ _ h0 (cA underlying80 hw (j:=0) rfl (by rw[List.getElem?_map,List.getElem?_eq_getElem k7];rfl))
  have q0:[c0]=[.int .i64 a0]:=by
   have hk:prog.cellsOf 3=1:=k8
   rw[hk]at e0;exact e0
  clear e0;simp only[List.cons.injEq,and_true]at q0;rw[List.getElem?_eq_getElem k7]at h1;obtain⟨a1,e1,d1⟩:=(fP underlying3) _ _ _ h1 (cA underlying80 hw (j:=1) rfl (by rw[List.getElem?_map,List.getElem?_eq_getElem k7];rfl))
  have q1:[c1]=[.int .i64 a1]:=by
   have hk:prog.cellsOf 3=1:=k8
   rw[hk]at e1;exact e1
  clear e1;simp only[List.cons.injEq,and_true]at q1;rw[List.getElem?_eq_getElem k7]at h2;obtain⟨a2,e2,d2⟩:=(fD (T:=nT) (b:=16) underlying43 k8 k8 vM) _ _ _ h2 (cA underlying80 hw (j:=2) rfl (by rw[List.getElem?_map,List.getElem?_eq_getElem k7];rfl))
  have q2:[c2]=[.slice a2.addr a2.list.length a2.cap]:=by
   have hk:prog.cellsOf 43=1:=k8
   rw[hk]at e2;exact e2
  clear e2;simp only[List.cons.injEq,and_true]at q2;rw[List.getElem?_eq_getElem k7]at h3;obtain⟨a3,e3,d3⟩:=(jS underlying42 (fD (T:=(nT.slice 16)) (b:=24) underlying42 k8 k8 (fD (T:=nT) (b:=16) underlying43 k8 k8 vM))) _ _ _ h3 (cA underlying80 hw (j:=3) rfl (by rw[List.getElem?_map,List.getElem?_eq_getElem k7];rfl))
  have q3:[c3]=[.slice a3.addr a3.list.length a3.cap]:=by
   have hk:prog.cellsOf 42=1:=k8
   rw[hk]at e3;exact e3
  clear e3;simp only[List.cons.injEq,and_true]at q3;rw[List.getElem?_eq_getElem k7]at h4;obtain⟨a4,e4,d4⟩:=(fP underlying77) _ _ _ h4 (cA underlying80 hw (j:=4) rfl (by rw[List.getElem?_map,List.getElem?_eq_getElem k7];rfl))
  have q4:[c4]=[.int .u8 a4]:=by
   have hk:prog.cellsOf 77=1:=k8
   rw[hk]at e4;exact e4
  clear e4;simp only[List.cons.injEq,and_true]at q4;rw[List.getElem?_eq_getElem k7]at h5;obtain⟨a5,e5,d5⟩:=(jS underlying78 (fD (T:=opTy) (b:=56) underlying78 k8 k8 opens_op)) _ _ _ h5 (cA underlying80 hw (j:=5) rfl (by rw[List.getElem?_map,List.getElem?_eq_getElem k7];rfl))
  have q5:[c5]=[.slice a5.addr a5.list.length a5.cap]:=by
   have hk:prog.cellsOf 78=1:=k8
   rw[hk]at e5;exact e5
  clear e5;simp only[List.cons.injEq,and_true]at q5;obtain rfl:=q0;obtain rfl:=q1;obtain rfl:=q2;obtain rfl:=q3;obtain rfl:=q4;obtain rfl:=q5;exact⟨⟨a0,a1,a2,a3,a4,a5⟩,rfl,d0,d1,d2,d3,d4,d5,e8⟩
def coreTy:Ty gF:=⟨coreE,λx=>(bC.pure ((Lit.int .i64 x.vars).wf=true)).and ((((bufTy.slicec 32)).deep x.bufs).and ((((bIn.slicec 96)).deep x.steps).and ((((bCy.slicec 8)).deep x.outs).and (bC.true))))⟩
theorem opens_core{H:Type}{enc:TypeId×Value->H}{w:World}:nK enc prog w 26 coreE.cells coreTy.deep:=λfuel cs x h hw=>by
 obtain⟨xs,n,_,rfl,hlen,hxl,hf⟩:=DataW.trod_struct underlying26 h;have hc:prog.cellsOf 26=4:=k8
 rw[hc]at hlen;have hxl':xs.length=4:=hxl
 match cs,hlen with
 |[c0,c1,c2,c3],_=>
  have h0:DataW.trod enc prog w 0 (λ_=>true) true n 3 (([c0,c1,c2,c3].drop 0).take (prog.cellsOf 3))=xs[0]?:=hf 0 _ rfl;have h1:DataW.trod enc prog w 0 (λ_=>true) true n 22 (([c0,c1,c2,c3].drop 1).take (prog.cellsOf 22))=xs[1]?:=hf 1 _ rfl;have h2:DataW.trod enc prog w 0 (λ_=>true) true n 23 (([c0,c1,c2,c3].drop 2).take (prog.cellsOf 23))=xs[2]?:=hf 2 _ rfl;have h3:DataW.trod enc prog w 0 (λ_=>true) true n 24 (([c0,c1,c2,c3].drop 3).take (prog.cellsOf 24))=xs[3]?:=hf 3 _ rfl;rw[List.getElem?_eq_getElem k7]at h0;obtain⟨a0,e0,d0⟩:=(fP underlying3) _ _ _ h0 (cA underlying26 hw (j:=0) rfl (by rw[List.getElem?_map,List.getElem?_eq_getElem k7];rfl))
  have q0:[c0]=[.int .i64 a0]:=by
   have hk:prog.cellsOf 3=1:=k8
   rw[hk]at e0;exact e0
  clear e0;simp only[List.cons.injEq,and_true]at q0;rw[List.getElem?_eq_getElem k7]at h1;obtain⟨a1,e1,d1⟩:=(jS underlying22 (fD (T:=bufTy) (b:=32) underlying22 k8 k8 opens_buf)) _ _ _ h1 (cA underlying26 hw (j:=1) rfl (by rw[List.getElem?_map,List.getElem?_eq_getElem k7];rfl))
  have q1:[c1]=[.slice a1.addr a1.list.length a1.cap]:=by
   have hk:prog.cellsOf 22=1:=k8
   rw[hk]at e1;exact e1
  clear e1;simp only[List.cons.injEq,and_true]at q1;rw[List.getElem?_eq_getElem k7]at h2;obtain⟨a2,e2,d2⟩:=(jS underlying23 (fD (T:=bIn) (b:=96) underlying23 k8 k8 opens_step)) _ _ _ h2 (cA underlying26 hw (j:=2) rfl (by rw[List.getElem?_map,List.getElem?_eq_getElem k7];rfl))
  have q2:[c2]=[.slice a2.addr a2.list.length a2.cap]:=by
   have hk:prog.cellsOf 23=1:=k8
   rw[hk]at e2;exact e2
  clear e2;simp only[List.cons.injEq,and_true]at q2;rw[List.getElem?_eq_getElem k7]at h3;obtain⟨a3,e3,d3⟩:=(jS underlying24 (fD (T:=bCy) (b:=8) underlying24 k8 k8 (fP underlying3))) _ _ _ h3 (cA underlying26 hw (j:=3) rfl (by rw[List.getElem?_map,List.getElem?_eq_getElem k7];rfl))
  have q3:[c3]=[.slice a3.addr a3.list.length a3.cap]:=by
   have hk:prog.cellsOf 24=1:=k8
   rw[hk]at e3;exact e3
  clear e3;simp only[List.cons.injEq,and_true]at q3;obtain rfl:=q0;obtain rfl:=q1;obtain rfl:=q2;obtain rfl:=q3;exact⟨⟨a0,a1,a2,a3⟩,rfl,d0,d1,d2,d3,e8⟩
section
variable {S : Nat -> Prop} {w : World}
theorem pol_of{p:PolV}(h:((nT.slice 16).deep p).p S w):(fC p).p S w:=by
 obtain⟨⟨c1,c2⟩,c3⟩:=h;have c3:p.list.length*16<=140737488355328:=c3;exact⟨c1,by show p.list.length<=8796093022208;omega⟩
theorem list_of{l:Sl PolV}(h:(((nT.slice 16).slicec 24).deep l).p S w):(oL l).p S w:=by
 obtain⟨⟨⟨a1,a2⟩,a3⟩,a4⟩:=h;exact⟨⟨a1,λp hp=>pol_of (a2 p hp)⟩,a4,a3⟩
theorem op_of{o:OpV}(h:(opTy.deep o).p S w):(opF o).p S w:=pol_of h.2.2.2.1
theorem ops_of{l:Sl OpV}(h:((opTy.slicec 56).deep l).p S w):(bNp l).p S w:=by
 obtain⟨⟨⟨a1,a2⟩,a3⟩,a4⟩:=h;exact⟨⟨a1,λp hp=>op_of (a2 p hp)⟩,a4,a3⟩
theorem buf_of{b:jD}(h:(bufTy.deep b).p S w):(bufF b).p S w:=list_of h.1
theorem bufs_of{l:Sl jD}(h:((bufTy.slicec 32).deep l).p S w):(bufsF l).p S w:=by
 obtain⟨⟨⟨a1,a2⟩,a3⟩,a4⟩:=h;exact⟨⟨a1,λp hp=>buf_of (a2 p hp)⟩,a4,a3⟩
theorem step_of{s:fW}(h:(bIn.deep s).p S w):(mG s).p S w:=⟨pol_of h.2.2.1,list_of h.2.2.2.1,ops_of h.2.2.2.2.2.1⟩
theorem steps_of{l:Sl fW}(h:((bIn.slicec 96).deep l).p S w):(bDt l).p S w:=by
 obtain⟨⟨⟨a1,a2⟩,a3⟩,a4⟩:=h;exact⟨⟨a1,λp hp=>step_of (a2 p hp)⟩,a4,a3⟩
theorem bHi{l:Sl Int}(h:((bCy.slicec 8).deep l).p S w):(bGb l).p S w:=by
 obtain⟨⟨⟨a1,a2⟩,a3⟩,a4⟩:=h;exact⟨a1,a4,a3⟩
theorem core_of{c:gF}(h:(coreTy.deep c).p S w):(nM c).p S w:=⟨bufs_of h.2.1,steps_of h.2.2.1,bHi h.2.2.2.1⟩
end
end
section
open Go.RowKit Go.ChangeShapes Go.WideShapes Go.Proofs.Tryz
def arrTy:Ty rJ:=⟨arrE,λx=>(((bCy.slicec 8)).deep x.sides).and ((((bCy.slicec 8)).deep x.data).and (bC.true))⟩
theorem opens_arr{H:Type}{enc:TypeId×Value->H}{w:World}:nK enc prog w 75 arrE.cells arrTy.deep:=λfuel cs x h hw=>by
 obtain⟨xs,n,_,rfl,hlen,hxl,hf⟩:=DataW.trod_struct underlying75 h;have hc:prog.cellsOf 75=2:=k8
 rw[hc]at hlen;have hxl':xs.length=2:=hxl
 match cs,hlen with
 |[c0,c1],_=>
  have h0:DataW.trod enc prog w 0 (λ_=>true) true n 27 (([c0,c1].drop 0).take (prog.cellsOf 27))=xs[0]?:=hf 0 _ rfl;have h1:DataW.trod enc prog w 0 (λ_=>true) true n 27 (([c0,c1].drop 1).take (prog.cellsOf 27))=xs[1]?:=hf 1 _ rfl;rw[List.getElem?_eq_getElem k7]at h0;obtain⟨a0,e0,d0⟩:=(jS underlying27 (fD (T:=bCy) (b:=8) underlying27 k8 k8 (fP underlying2))) _ _ _ h0 (cA underlying75 hw (j:=0) rfl (by rw[List.getElem?_map,List.getElem?_eq_getElem k7];rfl))
  have q0:[c0]=[.slice a0.addr a0.list.length a0.cap]:=by
   have hk:prog.cellsOf 27=1:=k8
   rw[hk]at e0;exact e0
  clear e0;simp only[List.cons.injEq,and_true]at q0;rw[List.getElem?_eq_getElem k7]at h1;obtain⟨a1,e1,d1⟩:=(jS underlying27 (fD (T:=bCy) (b:=8) underlying27 k8 k8 (fP underlying2))) _ _ _ h1 (cA underlying75 hw (j:=1) rfl (by rw[List.getElem?_map,List.getElem?_eq_getElem k7];rfl))
  have q1:[c1]=[.slice a1.addr a1.list.length a1.cap]:=by
   have hk:prog.cellsOf 27=1:=k8
   rw[hk]at e1;exact e1
  clear e1;simp only[List.cons.injEq,and_true]at q1;obtain rfl:=q0;obtain rfl:=q1;exact⟨⟨a0,a1⟩,rfl,d0,d1,e8⟩
def insTy:Ty cX:=⟨lO,λx=>(bC.pure ((Lit.int .u8 x.op).wf=true)).and ((bC.pure ((Lit.int .u8 x.a).wf=true)).and ((bC.pure ((Lit.int .u8 x.b).wf=true)).and ((bC.pure ((Lit.int .u8 x.c).wf=true)).and ((bC.pure ((Lit.int .i32 x.imm).wf=true)).and (bC.true)))))⟩
theorem opens_ins{H:Type}{enc:TypeId×Value->H}{w:World}:nK enc prog w 52 lO.cells insTy.deep:=λfuel cs x h hw=>by
 obtain⟨xs,n,_,rfl,hlen,hxl,hf⟩:=DataW.trod_struct underlying52 h;have hc:prog.cellsOf 52=5:=k8
 rw[hc]at hlen;have hxl':xs.length=5:=hxl
 match cs,hlen with
 |[c0,c1,c2,c3,c4],_=>
  have h0:DataW.trod enc prog w 0 (λ_=>true) true n 5 (([c0,c1,c2,c3,c4].drop 0).take (prog.cellsOf 5))=xs[0]?:=hf 0 _ rfl;have h1:DataW.trod enc prog w 0 (λ_=>true) true n 5 (([c0,c1,c2,c3,c4].drop 1).take (prog.cellsOf 5))=xs[1]?:=hf 1 _ rfl;have h2:DataW.trod enc prog w 0 (λ_=>true) true n 5 (([c0,c1,c2,c3,c4].drop 2).take (prog.cellsOf 5))=xs[2]?:=hf 2 _ rfl;have h3:DataW.trod enc prog w 0 (λ_=>true) true n 5 (([c0,c1,c2,c3,c4].drop 3).take (prog.cellsOf 5))=xs[3]?:=hf 3 _ rfl;have h4:DataW.trod enc prog w 0 (λ_=>true) true n 21 (([c0,c1,c2,c3,c4].drop 4).take (prog.cellsOf 21))=xs[4]?:=hf 4 _ rfl;rw[List.getElem?_eq_getElem k7]at h0;obtain⟨a0,e0,d0⟩:=(fP underlying5) _ _ _ h0 (cA underlying52 hw (j:=0) rfl (by rw[List.getElem?_map,List.getElem?_eq_getElem k7];rfl))
  have q0:[c0]=[.int .u8 a0]:=by
   have hk:prog.cellsOf 5=1:=k8
   rw[hk]at e0;exact e0
  clear e0;simp only[List.cons.injEq,and_true]at q0;rw[List.getElem?_eq_getElem k7]at h1;obtain⟨a1,e1,d1⟩:=(fP underlying5) _ _ _ h1 (cA underlying52 hw (j:=1) rfl (by rw[List.getElem?_map,List.getElem?_eq_getElem k7];rfl))
  have q1:[c1]=[.int .u8 a1]:=by
   have hk:prog.cellsOf 5=1:=k8
   rw[hk]at e1;exact e1
  clear e1;simp only[List.cons.injEq,and_true]at q1;rw[List.getElem?_eq_getElem k7]at h2;obtain⟨a2,e2,d2⟩:=(fP underlying5) _ _ _ h2 (cA underlying52 hw (j:=2) rfl (by rw[List.getElem?_map,List.getElem?_eq_getElem k7];rfl))
  have q2:[c2]=[.int .u8 a2]:=by
   have hk:prog.cellsOf 5=1:=k8
   rw[hk]at e2;exact e2
  clear e2;simp only[List.cons.injEq,and_true]at q2;rw[List.getElem?_eq_getElem k7]at h3;obtain⟨a3,e3,d3⟩:=(fP underlying5) _ _ _ h3 (cA underlying52 hw (j:=3) rfl (by rw[List.getElem?_map,List.getElem?_eq_getElem k7];rfl))
  have q3:[c3]=[.int .u8 a3]:=by
   have hk:prog.cellsOf 5=1:=k8
   rw[hk]at e3;exact e3
  clear e3;simp only[List.cons.injEq,and_true]at q3;rw[List.getElem?_eq_getElem k7]at h4;obtain⟨a4,e4,d4⟩:=(fP underlying21) _ _ _ h4 (cA underlying52 hw (j:=4) rfl (by rw[List.getElem?_map,List.getElem?_eq_getElem k7];rfl))
  have q4:[c4]=[.int .i32 a4]:=by
   have hk:prog.cellsOf 21=1:=k8
   rw[hk]at e4;exact e4
  clear e4;simp only[List.cons.injEq,and_true]at q4;obtain rfl:=q0;obtain rfl:=q1;obtain rfl:=q2;obtain rfl:=q3;obtain rfl:=q4;exact⟨⟨a0,a1,a2,a3,a4⟩,rfl,d0,d1,d2,d3,d4,e8⟩
def madeTy:Ty bQw:=⟨madeE,λx=>(((insTy.slicec 8)).deep x.code).and ((bC.pure ((Lit.int .i64 x.mem).wf=true)).and ((((bCy.slicec 8)).deep x.at_).and (bC.true)))⟩
theorem opens_made{H:Type}{enc:TypeId×Value->H}{w:World}:nK enc prog w 31 madeE.cells madeTy.deep:=λfuel cs x h hw=>by
 obtain⟨xs,n,_,rfl,hlen,hxl,hf⟩:=DataW.trod_struct underlying31 h;have hc:prog.cellsOf 31=3:=k8
 rw[hc]at hlen;have hxl':xs.length=3:=hxl
 match cs,hlen with
 |[c0,c1,c2],_=>
  have h0:DataW.trod enc prog w 0 (λ_=>true) true n 29 (([c0,c1,c2].drop 0).take (prog.cellsOf 29))=xs[0]?:=hf 0 _ rfl;have h1:DataW.trod enc prog w 0 (λ_=>true) true n 3 (([c0,c1,c2].drop 1).take (prog.cellsOf 3))=xs[1]?:=hf 1 _ rfl;have h2:DataW.trod enc prog w 0 (λ_=>true) true n 27 (([c0,c1,c2].drop 2).take (prog.cellsOf 27))=xs[2]?:=hf 2 _ rfl;rw[List.getElem?_eq_getElem k7]at h0;obtain⟨a0,e0,d0⟩:=(jS underlying29 (fD (T:=insTy) (b:=8) underlying29 k8 k8 opens_ins)) _ _ _ h0 (cA underlying31 hw (j:=0) rfl (by rw[List.getElem?_map,List.getElem?_eq_getElem k7];rfl))
  have q0:[c0]=[.slice a0.addr a0.list.length a0.cap]:=by
   have hk:prog.cellsOf 29=1:=k8
   rw[hk]at e0;exact e0
  clear e0;simp only[List.cons.injEq,and_true]at q0;rw[List.getElem?_eq_getElem k7]at h1;obtain⟨a1,e1,d1⟩:=(fP underlying3) _ _ _ h1 (cA underlying31 hw (j:=1) rfl (by rw[List.getElem?_map,List.getElem?_eq_getElem k7];rfl))
  have q1:[c1]=[.int .i64 a1]:=by
   have hk:prog.cellsOf 3=1:=k8
   rw[hk]at e1;exact e1
  clear e1;simp only[List.cons.injEq,and_true]at q1;rw[List.getElem?_eq_getElem k7]at h2;obtain⟨a2,e2,d2⟩:=(jS underlying27 (fD (T:=bCy) (b:=8) underlying27 k8 k8 (fP underlying2))) _ _ _ h2 (cA underlying31 hw (j:=2) rfl (by rw[List.getElem?_map,List.getElem?_eq_getElem k7];rfl))
  have q2:[c2]=[.slice a2.addr a2.list.length a2.cap]:=by
   have hk:prog.cellsOf 27=1:=k8
   rw[hk]at e2;exact e2
  clear e2;simp only[List.cons.injEq,and_true]at q2;obtain rfl:=q0;obtain rfl:=q1;obtain rfl:=q2;exact⟨⟨a0,a1,a2⟩,rfl,d0,d1,d2,e8⟩
section
variable {S : Nat -> Prop} {w : World}
theorem arr_of{y:rJ}(h:(arrTy.deep y).p S w):(bLm y).p S w:=⟨bHi h.1,bHi h.2.1⟩
theorem arrs_of{l:Sl rJ}(h:((arrTy.slicec 48).deep l).p S w):(arrE.sl (.slice l.addr l.list.length l.cap) l.list).p S w/\(bC.each l.list bLm).p S w/\l.list.length*48<=140737488355328:=by
 obtain⟨⟨⟨a1,a2⟩,a3⟩,a4⟩:=h;exact⟨a1,λp hp=>arr_of (a2 p hp),a3⟩
theorem made_of{x:bQw}(h:(madeTy.deep x).p S w):(bGb x.at_).p S w:=bHi h.2.2.1
end
end
section
open Go.RowKit Go.Proofs.Tryz
end
section
open Go.RowKit Go.Proofs.Tryz
set_option maxRecDepth 100000
end
section
open Go.RowKit Go.Proofs.Tryz
def bLc (l:List Int)(i:Nat)(n:Int):Prop:=(l.take i).any tI=false/\n=if (l.take i).contains 0=true then 0 else 1
theorem sz1_start(l:List Int):bLc l 0 1:=⟨rfl,rfl⟩
section
variable {l : List Int} {i : Nat} {n x : Int} {r : Int × Int}
theorem sz1_zero(h:bLc l i n)(hx:l[i]?=some x)(h0:x=0):bLc l (i+1) 0:=by
 obtain⟨hi,e⟩:=List.getElem?_eq_some_iff.1 hx;refine⟨?_,?_⟩
 .rw[List.take_succ_eq_append_getElem hi,e,List.any_append,h.1,h0];rfl
 .rw[List.take_succ_eq_append_getElem hi,e,h0,if_pos m9]
theorem sz1_step(h:bLc l i n)(hx:l[i]?=some x)(h1: ¬x<0)(h2: ¬65536<x)(h0:x≠0):bLc l (i+1) n:=by
 obtain⟨hi,e⟩:=List.getElem?_eq_some_iff.1 hx;refine⟨?_,?_⟩
 .rw[List.take_succ_eq_append_getElem hi,e,List.any_append,h.1];simp[tI,h1,h2]
 .rw[h.2,List.take_succ_eq_append_getElem hi,e];have: ¬0=x:=λk=>h0 k.symm;simp[this]
theorem sz1_bad(hx:l[i]?=some x)(h:x<0\/65536<x):jL l=(0,61):=by
 unfold jL;rw[if_pos (.inr (List.any_eq_true.2 ⟨x,List.mem_of_getElem? hx,by unfold tI;rcases h with h|h<;>simp[h]⟩))]
def bMo (l:List Int)(i:Nat)(n:Int)(r:Int×Int):Prop:=(n=0/\r=(0,0))\/(0<n/\n<=65536/\(∀s∈l,0<s/\s<=65536)/\r=mX (l.drop i) n)
theorem sz2_start(h:bLc l i n)(hi:l.length<=i)(hl:l.length<=4)(hR:jL l=r):bMo l 0 n r:=by
 obtain⟨h1,h2⟩:=h;rw[List.take_of_length_le hi]at h1 h2
 have hall: ¬(4<l.length\/l.any tI=true):=by
  rintro(k|k)
  .omega
  .rw[h1]at k;cases k
 unfold jL at hR;rw[if_neg hall]at hR
 by_cases h0:l.contains 0=true
 .rw[if_pos h0]at hR h2;exact .inl ⟨h2,hR.symm⟩
 .rw[if_neg h0]at hR h2;subst h2;refine .inr ⟨m7,m7,λs hs=>?_,hR.symm⟩
  have hb:tI s=false:=by
   cases e:tI s
   .rfl
   .exact absurd (List.any_eq_true.2 ⟨s,hs,e⟩) (by rw[h1];decide)
  have hz:s≠0:=λe=>h0 (by rw[<-e];simpa using hs);simp only[tI,Bool.or_eq_false_iff,decide_eq_false_iff_not]at hb;omega
theorem sz2_wrap(h:bMo l i n r)(hn:0<n)(hx:l[i]?=some x):(∀s∈l,0<s/\s<=65536)/\r=mX (l.drop i) n/\0<w64 (n*x):=by
 rcases h with h|⟨_,h2,h3,h4⟩
 .omega
 .obtain⟨a,b⟩:=h3 x (f5 hx);have p0:=Int.mul_pos hn a;have p1:n*x<=65536*65536:=Int.mul_le_mul h2 b k7 k7;refine⟨h3,h4,?_⟩;have:w64 (n*x)=n*x:=mF k7 k7;omega
theorem sz2_step(h:bMo l i n r)(hn:0<n)(hx:l[i]?=some x)(hb:w64 (n*x)<=65536):bMo l (i+1) (w64 (n*x)) r:=by
 obtain⟨h3,h4,h5⟩:=sz2_wrap h hn hx;exact .inr ⟨h5,hb,h3,bJb h4 hx (Int.not_lt.2 hb)⟩
theorem sz2_big(h:bMo l i n r)(hn:0<n)(hx:l[i]?=some x)(hb:65536<w64 (n*x)):r=(0,61):=by
 obtain⟨h3,h4,h5⟩:=sz2_wrap h hn hx;exact bQc h4 hx hb
theorem sz2_end(h:bMo l i n r)(hi:l.length<=i\/n<=0):r=(n,0):=by
 rcases h with h|⟨h1,_,_,h4⟩
 .rw[h.2,h.1]
 .rcases hi with hi|hi
  .exact bOx h4 hi
  .omega
end
theorem size6_spec(A:Option Addr)(c:Nat)(l:List Int)(hl:l.length<=140737488355328):cE prog 86 [.slice A l.length c] [] [cF.sl (.slice A l.length c) l] (λ(_:Unit)=> .tuple #[.int .i64 (jL l).1,.int .i64 (jL l).2]) (λ_=>[]) (λ_=>[]):=by
 have hT:=cT;generalize hR:jL l=r;refine j2 func86 ntmps86 ?_;intro β hM;refine g14 ?_;refine dH (λhc9=>?_) λhc9=>?_
 .refine g8 ?_;have hr:=hR.symm.trans (bMg (by first|exact .inl k7));subst hr;exact rs2 () trivial
 refine g14 ?_;refine bU (ι:=Nat×Int) [(0,_)] ⟨rfl,e8⟩ (λ⟨i,n⟩=>[(4,.int .i64 n),(5,.int .i64 (i:Nat))]) (λ_=>[]) (λ⟨i,n⟩=>[bC.pure (i<=l.length/\bLc l i n)]) (λ⟨i,n⟩=>l.length-i) (0,1) ⟨rfl,rfl,e8⟩ .nil ⟨e9 (⟨k7,sz1_start l⟩),e8⟩ ?_;rintro⟨i,n⟩;dsimp only;refine bJ d7 λhinv5=>?_;refine g9 ?_;refine dH (λhc13=>?_) λhc13=>?_
 .refine g9 ?_;obtain⟨x1,hx2⟩:=gx l i;refine ss (ixs i) ?_;refine ss (fJ hx2 0) ?_;refine g2 ?_;refine lG (λhg21=>?_) λhg21=>?_
  .refine g22 ?_;have hr:=hR.symm.trans (sz1_bad hx2 q8);subst hr;exact rs2 () trivial
  refine g2 ?_;refine ss (ixs i) ?_;refine ss (fJ hx2 0) ?_;refine g4 ?_;refine dH (λhc27=>?_) λhc27=>?_
  .refine g13 ?_;have hr:=hR.symm.trans (sz1_bad hx2 q8);subst hr;exact rs2 () trivial
  refine g6 ?_;refine ss (ixs i) ?_;refine ss (fJ hx2 0) ?_;refine g3 ?_;refine jN (λhc32=>?_) λhc32=>?_
  .refine g8 ?_;refine inc (i+1) ?_;refine g3 ?_;exact bk2 (i+1,0) ⟨e9 (⟨by dsimp only;omega,sz1_zero hinv5.2 hx2 k7⟩),e8⟩
  refine g6 ?_;refine inc (i+1) ?_;refine g3 ?_;exact bk2 (i+1,n) ⟨e9 (⟨by dsimp only;omega,sz1_step hinv5.2 hx2 k7 k7 k7⟩),e8⟩
 refine g12 ?_;refine bU (ι:=Nat×Int) [(0,_)] ⟨rfl,e8⟩ (λ⟨j,m⟩=>[(4,.int .i64 m),(6,.int .i64 (j:Nat))]) (λ_=>[]) (λ⟨j,m⟩=>[bC.pure (j<=l.length/\bMo l j m r)]) (λ⟨j,m⟩=>l.length-j) (0,n) ⟨rfl,rfl,e8⟩ .nil ⟨e9 (⟨k7,sz2_start hinv5.2 k7 k7 hR⟩),e8⟩ ?_;rintro⟨j,m⟩;dsimp only;refine bJ d7 λhinv12=>?_;refine g8 ?_;refine lG (λhg37=>?_) λhg37=>?_
 .refine g5 ?_;refine dH (λhc40=>?_) λhc40=>?_
  .refine g9 ?_;obtain⟨x3,hx4⟩:=gx l j;refine ss (ixs j) ?_;refine ss (fJ hx4 0) ?_;refine g10 ?_;refine dH (λhc50=>?_) λhc50=>?_
   .refine g12 ?_;have hr:=sz2_big hinv12.2 k7 hx4 k7;subst hr;exact rs2 () trivial
   refine g6 ?_;refine inc (j+1) ?_;refine g3 ?_;exact bk2 (j+1,_) ⟨e9 (⟨by dsimp only;omega,sz2_step hinv12.2 k7 hx4 k7⟩),e8⟩
  refine g13 ?_;have hr:=sz2_end hinv12.2 q8;subst hr;exact rs2 () trivial
 refine g19 ?_;have hr:=sz2_end hinv12.2 q8;subst hr;exact rs2 () trivial
theorem right6_spec(x:rJ)(hl:x.sides.list.length<=140737488355328):cE prog 36 [.agg #[.slice x.sides.addr x.sides.list.length x.sides.cap,.slice x.data.addr x.data.list.length x.data.cap]] [] [cF.sl (.slice x.sides.addr x.sides.list.length x.sides.cap) x.sides.list] (λ(_:Unit)=> .bool (uQ x.arr)) (λ_=>[]) (λ_=>[]):=by
 have hT:=cT;refine j2 func36 ntmps36 ?_;intro β hM;refine g2 ?_;refine j0 λb1=>?_;refine g7 ?_;refine bF func86 (size6_spec _ _ _ k7) rfl rfl .nil ⟨d7,e8⟩ λ_=>?_;refine g12 ?_;refine bNt (λhg13=>?_) λhg13=>?_
 .refine g10 ?_;exact rs1 () e8 (he:=by first|exact bHv ‹_›|exact bHf ‹_›)
 refine g10 ?_;exact rs1 () e8 (he:=by first|exact bHv ‹_›|exact bHf ‹_›)
end
end Go.Proofs.YtnfiadlonjediaaGreatDoor
