/- Texts of one proof, one behind the other: RunKG, RunS19, Laid19, LawG19, TysR, TysGr, GenS, EmP, TysE, TysGc, TysGd, EmQ. -/
import Derived.Test.YtnfiadlonjediaaGreatDoorM6
import Derived.Test.YtnfiadlonjediaaGreatDoorM17
import Derived.Test.YtnfiadlonjediaaGreatDoorRows
import Derived.Test.YtnfiadlonjediaaGreatDoorM4
import Derived.Deep.DeepWitnessRowRef
import Derived.Lib.LaidU8
import Derived.LaidLaws
import Derived.Lib.LaidIn
import Derived.Shelf.Vars
import Derived.Test.YtnfiadlonjediaaGreatDoorM1
import Derived.ProofKit
import Derived.OpenShut
import Derived.Carry
import Derived.SizedLaws
import Derived.Test.YtnfiadlonjediaaGreatDoorM7
import Derived.Test.YtnfiadlonjediaaGreatDoorM11
set_option maxRecDepth 100000
namespace Go.Proofs.YtnfiadlonjediaaGreatDoor
open _root_.Nat renaming beq->B5,eq_of_beq_eq_true->B7,mul_one->eO
open _root_.Bool renaming and_eq_true->G1
open _root_.List renaming mem_cons->C9,mem_cons_self->D5,getElem?_eq_getElem->D7,getElem?_map->I7,mem_cons_of_mem->D1,mem_append->D0,mem_singleton->L1,getElem?_eq_some_iff->D9,getD_eq_getElem?_getD->U5,length_set->P6,append_assoc->aU
open World renaming var?->eP,cell?->j7,settled->eQ
open _root_.Option renaming bind_some->eR
open _root_.Classical renaming not_not->eS
open _root_.Int renaming toNat_natCast->G2
section
open Go.Proofs.Tryz
namespace X
open Go.Proofs.Tryz
noncomputable section
def ka:Bool×Nat:=(true,0)
def kb:Bool×Nat:=(true,1)
def kc:Bool×Nat:=(true,2)
def kd:Bool×Nat:=(true,3)
def ke:Bool×Nat:=(true,5)
def kf:Bool×Nat:=(true,4)
def kg:Bool×Nat:=(true,6)
def kh:Bool×Nat:=(true,7)
def ki:Bool×Nat:=(true,8)
def kl:Bool×Nat:=(true,9)
def km:Bool×Nat:=(true,10)
def ko:Bool×Nat:=(true,11)
def kq:Bool×Nat:=(true,12)
def ku:Bool×Nat:=(true,13)
def kz:Bool×Nat:=(true,14)
def kAA:Bool×Nat:=(true,15)
def kAB:Bool×Nat:=(true,17)
def kAC:Bool×Nat:=(true,16)
def bJw:T (T Plan):= .nd (.nd (.nd (.nd (.nd (.nd (.nd (.nd .lf (some .lf) .lf) none (.nd .lf (some .lf) .lf)) none .lf) none (.nd .lf (some .lf) (.nd (.nd .lf (some .lf) .lf) (some (.nd (.nd (.nd .lf (some (([ka,kb,kc,kd,kf,ke,kg,kh,ki,kl],[]))) .lf) none .lf) none (.nd (.nd (.nd .lf (some (([ka,kb,kc,kd,kf,ke,kg,kh,ki,kl],[]))) .lf) none .lf) none .lf))) .lf))) none (.nd (.nd (.nd .lf none (.nd (.nd .lf (some .lf) .lf) none .lf)) none (.nd .lf (some .lf) (.nd .lf (some .lf) .lf))) (some .lf) (.nd (.nd (.nd .lf (some .lf) .lf) none .lf) (some .lf) (.nd (.nd .lf (some .lf) .lf) (some .lf) (.nd .lf (some .lf) .lf))))) none (.nd (.nd (.nd (.nd .lf (some .lf) (.nd .lf (some .lf) .lf)) none .lf) none (.nd (.nd .lf (some .lf) (.nd .lf (some .lf) .lf)) (some .lf) (.nd (.nd .lf (some .lf) .lf) (some (.nd (.nd (.nd (.nd .lf (some (([ka,kb,kc,kd,kf,ke,(false,6),(false,7)],[8]))) .lf) none .lf) none .lf) none (.nd .lf none (.nd .lf none (.nd (.nd .lf (some (([ka,kb,kc,kd,kf,ke,kg,kh,(false,8)],[9]))) .lf) none .lf))))) .lf))) (some (.nd (.nd .lf none (.nd (.nd (.nd .lf (some (([ka,kb,kc,kd,kf,ke,kg,kh,ki,kl,(false,10),(false,11),kq],[]))) .lf) none .lf) none .lf)) none (.nd .lf none (.nd (.nd .lf none (.nd .lf (some (([ka,kb,kc,kd,kf,ke,kg,kh,ki,kl,km,ko,kq,(false,13)],[]))) .lf)) none .lf)))) (.nd (.nd .lf (some (.nd .lf none (.nd .lf none (.nd .lf (some (([ka,(false,1),kc,kd,kf,ke,kg,kh,ki,kl,km,ko,kq],[13,14,15,16]))) .lf)))) (.nd (.nd (.nd .lf (some (.nd (.nd (.nd .lf none (.nd .lf (some (([ka,kb,kc,kd,kf,ke,kg,ki,(false,7),kl,km,ko,kq,ku,kz,kAA,kAC,kAB,(false,18),(true,19)],[]))) .lf)) none .lf) none .lf)) .lf) none .lf) none (.nd .lf (some (.nd (.nd .lf (some (([ka,kb,kc,kd,kf,ke,kg,kh,ki,kl,(false,10),ko],[]))) .lf) none .lf)) .lf))) none (.nd .lf (some .lf) (.nd (.nd (.nd .lf (some .lf) .lf) (some .lf) .lf) (some .lf) .lf))))) none (.nd (.nd (.nd (.nd (.nd .lf none (.nd .lf (some .lf) .lf)) (some (.nd (.nd (.nd .lf none (.nd (.nd .lf (some (([ka,kb,kc,kd,kf,ke,kg],[7]))) .lf) none .lf)) none .lf) none (.nd (.nd .lf none (.nd .lf (some (([ka,kb,kc,kd,kf,ke,kg,kh,(false,8),(false,9),km,ko],[12]))) .lf)) none .lf))) (.nd .lf none (.nd .lf (some .lf) .lf))) none (.nd (.nd .lf (some (.nd (.nd .lf (some (([ka,kb,kc,kd,kf,ke,(false,6),kh,ki,kl,km,(false,11),kq,ku,kz,kAA,kAC,kAB,(true,18),(true,19),(true,20),(false,21),(true,22),(true,23),(true,24),(true,25),(true,26),(true,27),(true,28),(true,29),(true,30),(true,31),(true,32),(false,33),(true,34),(true,35)],[]))) .lf) none (.nd (.nd .lf none (.nd .lf (some (([ka,kb,kc,kd,kf,ke,kg,kh,ki,(false,9),km,ko],[12]))) .lf)) none .lf))) .lf) (some .lf) (.nd (.nd .lf (some .lf) .lf) (some (.nd .lf none (.nd .lf none (.nd .lf none (.nd (.nd .lf (some (([ka,kb,kc,(false,3),kf,(false,5)],[6,7,8]))) .lf) none .lf))))) .lf))) none (.nd (.nd (.nd (.nd (.nd .lf (some .lf) .lf) none .lf) none (.nd .lf (some .lf) .lf)) (some .lf) (.nd .lf (some (.nd .lf none (.nd (.nd (.nd .lf (some (([ka,kb,kc,kd,kf,ke,kg,kh],[8]))) .lf) (some (([ka,kb,kc,kd,kf,ke,kg,kh,ki,kl,km,ko,kq,ku,kz,kAA,kAC,kAB,(true,18),(false,19),(true,20),(true,21),(true,22),(true,23),(true,24)],[]))) .lf) none .lf))) (.nd .lf (some .lf) .lf))) none (.nd (.nd (.nd .lf (some .lf) .lf) none .lf) (some .lf) (.nd (.nd .lf (some .lf) .lf) none .lf)))) none (.nd (.nd (.nd (.nd .lf none (.nd .lf (some .lf) .lf)) none .lf) (some (.nd (.nd (.nd .lf none (.nd (.nd (.nd .lf (some (([ka,kb,kc,kd,kf,ke,kg,kh,ki,kl,(false,10),(false,11),kq,ku,kz],[15]))) .lf) (some (([ka,kb,kc,kd,kf,ke,kg,kh,ki],[9]))) .lf) none .lf)) none (.nd .lf none (.nd .lf none (.nd .lf (some (([ka,kb,kc,kd,kf,ke,kg,kh,ki,kl,(false,10),ko,kq,ku,kz,kAA],[]))) .lf)))) none (.nd (.nd .lf none (.nd (.nd .lf (some (([ka,kb,kc,kd,kf,ke,kg,kh,kl,(false,8),km,(false,11),(false,12),ku,kz,kAA],[16]))) .lf) none .lf)) none (.nd (.nd (.nd (.nd .lf (some (([ka,kb,kc,kd,kf,ke,kg,kh,ki],[9]))) .lf) none .lf) none .lf) none .lf)))) (.nd (.nd (.nd .lf (some .lf) .lf) none .lf) (some (.nd (.nd .lf none (.nd .lf none (.nd .lf (some (([ka,kb,kc,kd,kf,ke,(false,6),(false,7),ki,kl],[10]))) .lf))) none (.nd .lf (some (([ka,kb,kc,kd,kf,ke,kg,kh,ki,kl,km,ko,kq,ku,kz,kAA,kAC,kAB],[]))) (.nd (.nd .lf none (.nd .lf (some (([ka,kb,kc,kd,kf,ke,(false,6),(false,7),ki,kl],[10]))) .lf)) none .lf)))) (.nd (.nd .lf (some .lf) .lf) (some (.nd .lf none (.nd .lf (some (([ka,kb,kc,kf,ke,kg,kh,ki,(false,3),(false,9),km],[11]))) .lf))) .lf))) (some (.nd .lf none (.nd .lf none (.nd .lf (some (([ka,kb,kc,kd,kf,ke,kg,kh,ki],[]))) .lf)))) (.nd (.nd (.nd (.nd (.nd .lf (some .lf) .lf) none .lf) none .lf) (some .lf) (.nd (.nd (.nd .lf (some (.nd (.nd .lf none (.nd (.nd .lf (some (([ka,kb,kc,(false,3),(false,4)],[5,6,7]))) .lf) none .lf)) none (.nd .lf (some (([ka,kb,kf,ke,kg,kh,ki,kl,km,ko,kq,ku,kz,kAA,kAC,kAB,(false,2),kd,(false,18),(true,19)],[]))) .lf))) .lf) (some .lf) .lf) (some (.nd (.nd .lf (some (([ka,kb,kc,kd,kf,ke,kg,kh,ki,kl],[]))) .lf) none (.nd .lf (some (([ka,kb,kc,kd,kf,ke,kg,kh,ki,kl],[10]))) .lf))) (.nd .lf (some .lf) .lf))) none (.nd (.nd .lf (some .lf) .lf) (some .lf) (.nd (.nd .lf (some .lf) .lf) (some .lf) .lf)))))) none (.nd (.nd (.nd (.nd (.nd (.nd (.nd .lf (some .lf) .lf) (some .lf) .lf) none (.nd .lf none (.nd .lf (some .lf) .lf))) (some .lf) (.nd (.nd .lf (some .lf) (.nd (.nd .lf (some .lf) .lf) none .lf)) (some .lf) (.nd (.nd .lf (some .lf) .lf) (some .lf) .lf))) (some .lf) (.nd (.nd .lf none (.nd .lf (some (.nd (.nd .lf (some (([ka,kb,kc,kd,kf,ke,kg,kh,ki,kl,km,ko,kq],[]))) .lf) none (.nd .lf (some (([ka,kb,kc,kd,kf,ke,kg,kh,ki,kl,km,ko,kq,ku,kz],[]))) .lf))) (.nd .lf (some .lf) .lf))) none (.nd (.nd (.nd .lf (some (.nd (.nd (.nd .lf none (.nd .lf (some (([ka,kb,kc,kd,kf,ke,kg,kh,ki,kl,km,ko,kq,ku,kz,kAA,kAC,kAB,(true,18),(true,19),(true,20),(true,21),(true,22),(true,23),(true,24),(true,25),(true,26),(true,27),(true,28),(true,29),(true,30),(true,31),(true,32),(true,33)],[]))) .lf)) (some (([ka,kb,kc,kd,kf,ke,kg,kh,ki,kl,km,ko],[]))) (.nd (.nd .lf (some (([ka,kb,kc,kd,kf,ke,kg,kh,ki,kl,km,ko,kq,ku],[]))) .lf) none .lf)) none .lf)) .lf) none .lf) (some .lf) (.nd (.nd .lf (some .lf) .lf) (some .lf) .lf)))) none (.nd (.nd (.nd (.nd .lf none (.nd .lf (some .lf) .lf)) none (.nd .lf (some .lf) (.nd .lf (some .lf) .lf))) (some .lf) (.nd (.nd (.nd (.nd .lf (some .lf) .lf) (some .lf) .lf) none (.nd .lf (some .lf) .lf)) (some .lf) (.nd (.nd .lf (some (.nd (.nd .lf (some (([ka,kb,kc,kd,kf,ke,kg,kh,ki,kl],[]))) .lf) none (.nd .lf (some (([ka,kb,kc,kd,kf,ke,kg,kh,ki,kl,km,ko],[]))) .lf))) .lf) (some (.nd (.nd (.nd (.nd .lf none (.nd .lf (some (([ka,kb,kc,kd,kf,ke,kg,kh,ki,kl,km,ko,(false,12),ku,kz,kAA,(false,16),kAB],[]))) .lf)) none .lf) none .lf) none .lf)) (.nd .lf (some .lf) .lf)))) none (.nd (.nd (.nd (.nd (.nd .lf (some .lf) .lf) none .lf) none .lf) none (.nd (.nd (.nd .lf (some .lf) .lf) none .lf) (some .lf) .lf)) none (.nd .lf (some (.nd (.nd (.nd .lf none (.nd .lf (some (([ka,kb,kc,kd,kf,ke,kg,kh,ki,kl,(false,10),(false,11),kq],[]))) .lf)) none (.nd (.nd .lf none (.nd (.nd .lf (some (([ka,kb,kc,kd,(false,4)],[5,6,7]))) .lf) none .lf)) none (.nd (.nd (.nd .lf (some (([ka,kb,kc,kd,kf,ke,kg,kh,(false,8)],[9]))) .lf) none .lf) none (.nd .lf (some (([ka,kb,kc,kd,kf,ke,kg,kh,ki,kl,km,ko,kq,ku],[14,15]))) .lf)))) none (.nd .lf none (.nd .lf none (.nd (.nd (.nd .lf (some (([ka,kb,kc,kd,kf,ke,kg,kh,(false,8),kl,(false,10),(false,11),kq,ku,kz],[15]))) .lf) none .lf) none .lf))))) (.nd .lf (some (.nd .lf none (.nd .lf (some (([ka,kb,kc,kd,ke,kh,(false,4),(false,6),(false,8),(false,9)],[10]))) .lf))) .lf))))) none (.nd (.nd (.nd (.nd (.nd .lf (some .lf) .lf) (some .lf) (.nd .lf (some .lf) .lf)) (some .lf) (.nd (.nd .lf (some .lf) (.nd .lf (some .lf) .lf)) (some (.nd (.nd (.nd .lf (some (([ka,kb,kc,kd,kf,ke,kg,kh,ki,kl,km,(false,11)],[12]))) .lf) (some (([ka,kb,kc,kd,kf,ke,kg,kh,ki,kl,km,ko,kq,ku,kz,kAA,kAC,kAB,(true,18)],[]))) .lf) none (.nd (.nd .lf (some (([ka,kb,kc,kd,kf,ke,kg,kh],[]))) (.nd (.nd .lf (some (([ka,kb,kc,kd,kf,ke,kg,kh,ki,kl,km,ko,kq,ku],[14]))) .lf) none .lf)) none (.nd (.nd (.nd (.nd .lf (some (([ka,kb,kc,kd,kf,ke,kg,kh,ki,kl,km,ko,kq],[]))) .lf) (some (([ka,kb,kc,kd,kf,ke,kg,kh,ki,kl],[10]))) .lf) none .lf) none (.nd .lf none (.nd .lf (some (([ka,kb,kc,kd,kf,ke,kg,kh,ki,kl],[10]))) .lf)))))) (.nd (.nd .lf (some .lf) .lf) (some .lf) .lf))) none (.nd (.nd (.nd .lf none (.nd .lf (some .lf) .lf)) none (.nd .lf (some .lf) (.nd .lf (some .lf) .lf))) none (.nd .lf (some .lf) (.nd (.nd .lf (some .lf) .lf) none .lf)))) none (.nd (.nd (.nd (.nd .lf none (.nd .lf (some (.nd (.nd .lf (some (([ka,kb,kc,kd,ke,kg,kh,(false,36868)],[9,10]))) .lf) none .lf)) .lf)) none (.nd .lf none (.nd .lf (some .lf) .lf))) none (.nd (.nd (.nd .lf (some .lf) .lf) none .lf) (some (.nd (.nd (.nd .lf none (.nd .lf none (.nd .lf (some (([ka,kb,kc,kd,kf,ke,kg,(false,7)],[8,9]))) .lf))) none .lf) none (.nd .lf none (.nd .lf none (.nd .lf none (.nd .lf (some (([ka,kb,kc,kd,kf,ke,kg,kh,ki,kl],[10]))) .lf)))))) (.nd (.nd .lf (some .lf) .lf) (some (.nd .lf (some (([ka,kb,kc,kd,kf,ke,kg,kh,ki,kl,km,ko,kq,ku,kz,kAC,kAB,(false,15),(false,18),(true,19),(false,20),(false,21),(true,22),(true,23),(true,24)],[25]))) .lf)) .lf))) none (.nd (.nd (.nd (.nd (.nd .lf (some (.nd .lf none (.nd .lf none (.nd (.nd (.nd (.nd .lf (some (([ka,kb,kc,kd,kf,ke,kg,(false,7)],[8,9]))) .lf) none .lf) none .lf) none .lf)))) .lf) none .lf) none .lf) none (.nd (.nd (.nd .lf (some (.nd (.nd (.nd .lf (some (([ka,kb,kc,kd,kf,ke,kg,kh],[]))) .lf) none .lf) none .lf)) .lf) none .lf) (some .lf) .lf)) none (.nd .lf none (.nd (.nd (.nd .lf (some .lf) .lf) (some .lf) .lf) (some .lf) .lf))))))
def orcX (f:FuncId):Option Orc:=sel (B5 f 330) (some (escO)) (sel (B5 f 227) (some (parseO)) (sel (B5 f 317) (some (contO)) (sel (B5 f 267) (some (fieldsO 2)) (sel (B5 f 229) (some (idxO)) (sel (B5 f 303) (some (joinO)) (sel (B5 f 314) (some (replO 1)) (sel (B5 f 316) (some (trimO 2)) (sel (B5 f 9) (some (genO 0)) (none)))))))))
def knowG (n:Nat)(o:Obj):Prop:=match n with
 |0=> ∃t z,o= .cells (Lib.asciiSpaceTab.map λz=>Value.int .u8 z).toArray t z
 |1=> ∃m r t z,o= .cells (Value.int .i64 m::r).toArray t z
 |2=> ∃t z,o= .cells #[.int .i64 0,.int .i64 (-1)] t z
 |_=>False
theorem kw_ok: ∀n cs o,sel (B5 n 2) (some [V.i .i64 0,V.i .i64 (-1)]) none=some cs->knowG n o->(∀v∈cs,v.one=true)/\ ∃C t z,o= .cells C t z/\ ∀(i:Nat) (v:V),cs[i]?=some v-> ∃u,C[i]?=some u/\ofV u=some v:=λn cs o h c=>by
 rw[cF]at h;split at h
 .rename_i hn;cases h;rw[B7 hn]at c;obtain⟨t,z,rfl⟩:=c;refine⟨λv b=>by simp at b;rcases b with rfl|rfl<;>rfl,_,t,z,rfl,λi v a=>?_⟩
  match i,a with
  |0,a=>cases a;exact⟨_,rfl,rfl⟩
  |1,a=>cases a;exact⟨_,rfl,rfl⟩
  |i+2,a=>cases a
 .cases h
def methX (t:TypeId)(n:String):Option (FuncId×Option TypeId):=sel (B5 t 284&&n== "Swap") (some (375,some 330)) (sel (B5 t 284&&n== "Push") (some (374,none)) (sel (B5 t 284&&n== "Pop") (some (373,none)) (sel (B5 t 284&&n== "Less") (some (372,some 330)) (sel (B5 t 284&&n== "Len") (some (165,some 330)) (none)))))
theorem meth_ok(t:TypeId)(n:String)(f:FuncId)(h:methX t n=some (f,none))(v:Value)(w:World):(method (prog.types.size+Made.depth) t v n).run prog w= .ok (f,v) w:=by
 unfold methX at h
 by_cases h0:(B5 t 284&&n== "Swap")=true
 .rw[cF,if_pos h0]at h;rw[G1,beq_iff_eq]at h0;rw[B7 h0.1,h0.2];cases h
 rw[cF,if_neg h0]at h
 by_cases h1:(B5 t 284&&n== "Push")=true
 .rw[cF,if_pos h1]at h;rw[G1,beq_iff_eq]at h1;rw[B7 h1.1,h1.2];cases h
  kernel_rfl
 rw[cF,if_neg h1]at h
 by_cases b:(B5 t 284&&n== "Pop")=true
 .rw[cF,if_pos b]at h;rw[G1,beq_iff_eq]at b;rw[B7 b.1,b.2];cases h
  kernel_rfl
 rw[cF,if_neg b]at h
 by_cases a:(B5 t 284&&n== "Less")=true
 .rw[cF,if_pos a]at h;rw[G1,beq_iff_eq]at a;rw[B7 a.1,a.2];cases h
 rw[cF,if_neg a]at h
 by_cases h4:(B5 t 284&&n== "Len")=true
 .rw[cF,if_pos h4]at h;rw[G1,beq_iff_eq]at h4;rw[B7 h4.1,h4.2];cases h
 rw[cF,if_neg h4]at h;cases h
theorem meth_deref(t:TypeId)(n:String)(f:FuncId)(el:TypeId)(h:methX t n=some (f,some el))(b o:Nat)(r:Value)(w:World)(hl:(loadVar el ⟨b,o,none⟩).run prog w= .ok r w):(method (prog.types.size+Made.depth) t (.pointer (some ⟨b,o,none⟩)) n).run prog w= .ok (f,r) w:=by
 unfold methX at h
 by_cases h0:(B5 t 284&&n== "Swap")=true
 .rw[cF,if_pos h0]at h;rw[G1,beq_iff_eq]at h0;rw[B7 h0.1,h0.2];cases h;rw[show(method (prog.types.size+Made.depth) 284 (.pointer (some ⟨b,o,none⟩)) "Swap").run prog w=(do let r<-loadVar 330 ⟨b,o,none⟩;pure (375,r):Sem (FuncId×Value)).run prog w by kernel_rfl,Sem.run_bind,hl];rfl
 rw[cF,if_neg h0]at h
 by_cases h1:(B5 t 284&&n== "Push")=true
 .rw[cF,if_pos h1]at h;rw[G1,beq_iff_eq]at h1;rw[B7 h1.1,h1.2];cases h
 rw[cF,if_neg h1]at h
 by_cases c:(B5 t 284&&n== "Pop")=true
 .rw[cF,if_pos c]at h;rw[G1,beq_iff_eq]at c;rw[B7 c.1,c.2];cases h
 rw[cF,if_neg c]at h
 by_cases a:(B5 t 284&&n== "Less")=true
 .rw[cF,if_pos a]at h;rw[G1,beq_iff_eq]at a;rw[B7 a.1,a.2];cases h;rw[show(method (prog.types.size+Made.depth) 284 (.pointer (some ⟨b,o,none⟩)) "Less").run prog w=(do let r<-loadVar 330 ⟨b,o,none⟩;pure (372,r):Sem (FuncId×Value)).run prog w by kernel_rfl,Sem.run_bind,hl];rfl
 rw[cF,if_neg a]at h
 by_cases h4:(B5 t 284&&n== "Len")=true
 .rw[cF,if_pos h4]at h;rw[G1,beq_iff_eq]at h4;rw[B7 h4.1,h4.2];cases h;rw[show(method (prog.types.size+Made.depth) 284 (.pointer (some ⟨b,o,none⟩)) "Len").run prog w=(do let r<-loadVar 330 ⟨b,o,none⟩;pure (165,r):Sem (FuncId×Value)).run prog w by kernel_rfl,Sem.run_bind,hl];rfl
 rw[cF,if_neg h4]at h;cases h
@[instance_reducible] def lV (o:FuncId->Option Orc):Ctx where
 P:=prog
 gl:=λg=>gd (Nat.blt g 12) (some g)
 orc:=λf=>oc (o f) (orcX f) some
 quiet:=[112]
 known:=λf=>oc (T.get bJw f) false λ_=>true
 n0:=12
 plan:=λf id=>ob (T.get bJw f) λt=>T.get t id
 G:=knowG
 meth:=methX
 kw:=λn=>sel (B5 n 2) (some [.i .i64 0,.i .i64 (-1)]) none
 kwOk:=kw_ok
instance ctx : Ctx := lV λ_ => none
def baseK:List (Nat×Nat):=[(2,0),(1,1),(0,2)]
def T.allP{α:Type}(p:Nat->α->Bool):T α->(Nat->Nat)->Bool
 |.lf,_=>true
 |.nd l x r,f=>oc x true (p (f 0))&&(T.allP p l (λk=>f (2*k+1))&&T.allP p r (λk=>f (2*k+2)))
theorem T.allP_get{α:Type}{p:Nat->α->Bool}: ∀{t:T α} {f:Nat->Nat} {n:Nat} {x:α},T.allP p t f=true->T.get t n=some x->p (f n) x=true
 |.lf,_,_,_,_,h=>by cases h
 |.nd l y r,f,n,x,h,hg=>by
  simp only[T.allP,G1]at h
  cases n with
  |zero=>
   have hg:y=some x:=hg;subst hg;exact h.1
  |succ m=>
   have hg:(Bool.rec (motive:=λ_=>Nat->Option α) (T.get r) (T.get l) (B5 (Nat.mod m 2) 0) (Nat.div m 2))=some x:=hg
   cases hb:B5 (Nat.mod m 2) 0 with
   |true=>
    rw[hb]at hg;have:=T.allP_get h.2.1 hg;have hb:m%2=0:=B7 hb
    have e:2*Nat.div m 2+1=m+1:=by
     show 2*(m/2)+1=m+1;omega
    rw[<-e];exact this
   |false=>
    rw[hb]at hg;have:=T.allP_get h.2.2 hg;have hb:m%2≠0:=λe=>by rw[show Nat.mod m 2=0 from e]at hb;cases hb
    have e:2*Nat.div m 2+2=m+1:=by
     show 2*(m/2)+2=m+1;omega
    rw[<-e];exact this
def validF [Ctx](f:FuncId):Bool:=oc (prog.funcs[f]?) true λfn=>oc fn.body true λc=>mC f c
end
theorem all_validW:(λo:FuncId->Option Orc=>T.allP (λf _=> @validF (lV o) f) bJw id)=λ_=>true:=l4
theorem all_valid(o:FuncId->Option Orc):T.allP (λf _=> @validF (lV o) f) bJw id=true:=congrFun all_validW o
theorem glA:Ctx.gl 2=some 2:=rfl
theorem glM:Ctx.gl 1=some 1:=rfl
theorem spaceIs:bLf:=λ_ h=>h
theorem maxIs:MaxIs:=λ_ h=>h
theorem glN:Ctx.gl 0=some 0:=rfl
theorem noneIs:NoneIs:=λ_ h=>h
theorem pA{α:Type}{c:Bool}{x y:Option α}{b:α}(h:sel c x y=some b):(c=true/\x=some b)\/y=some b:=by
 cases c with
 |true=>exact .inl ⟨rfl,h⟩
 |false=>exact .inr h
theorem sim_conv{o o':FuncId->Option Orc}{α:As}{s:St}{w:World}(h: @Sim (lV o) α s w): @Sim (lV o') α s w:= @Sim.mk (lV o') α s w (@Sim.gl (lV o) α s w h) (@Sim.lt (lV o) α s w h) (@Sim.sc (lV o) α s w h) (λk x hk=>by
 have:= @Sim.is (lV o) α s w h k x hk
 cases x with
 |cells cs t ext ro=>cases ext<;>exact this
 |_=>exact this) (@Sim.ne (lV o) α s w h)
theorem stp_conv{o o':FuncId->Option Orc}{α α':As}{s s':St}{w w':World}(h: @Stp (lV o) α s w α' s' w'): @Stp (lV o') α s w α' s' w':= @Stp.mk (lV o') α s w α' s' w' (@Stp.same (lV o) α s w α' s' w' h) (@Stp.n (lV o) α s w α' s' w' h) (@Stp.c (lV o) α s w α' s' w' h) (sim_conv (@Stp.sim (lV o) α s w α' s' w' h)) (@Stp.fr (lV o) α s w α' s' w' h) (@Stp.new (lV o) α s w α' s' w' h)
theorem orc_conv{o o':FuncId->Option Orc}{f:FuncId}{g:Orc}(h: @uC (lV o) f g): @uC (lV o') f g:=λa s v e hg α w i j=>by
 rcases h a s v e hg α w (sim_conv i) j with ⟨u,d,h1,β,c,b⟩|⟨h1,c⟩
 .exact .inl ⟨u,d,h1,β,c,stp_conv b⟩
 .exact .inr ⟨h1,c.mono λ_ _ ⟨u,b,β,h4,k⟩=>⟨u,b,β,h4,stp_conv k⟩⟩
theorem orcX_ok(f:FuncId)(h:Orc)(ho:orcX f=some h):uC f h:=by
 have ho:sel (B5 f 330) (some (escO)) (sel (B5 f 227) (some (parseO)) (sel (B5 f 317) (some (contO)) (sel (B5 f 267) (some (fieldsO 2)) (sel (B5 f 229) (some (idxO)) (sel (B5 f 303) (some (joinO)) (sel (B5 f 314) (some (replO 1)) (sel (B5 f 316) (some (trimO 2)) (sel (B5 f 9) (some (genO 0)) (none)))))))))=some h:=ho
 rcases pA ho with ⟨a,ho⟩|ho
 .cases ho;rw[B7 a];exact esc_orc rfl
 rcases pA ho with ⟨a,ho⟩|ho
 .cases ho;rw[B7 a];exact parse_orc rfl
 rcases pA ho with ⟨a,ho⟩|ho
 .cases ho;rw[B7 a];exact cont_orc rfl
 rcases pA ho with ⟨a,ho⟩|ho
 .cases ho;rw[B7 a];exact fields_orc rfl glA spaceIs
 rcases pA ho with ⟨a,ho⟩|ho
 .cases ho;rw[B7 a];exact idx_orc rfl
 rcases pA ho with ⟨a,ho⟩|ho
 .cases ho;rw[B7 a];exact join_orc rfl
 rcases pA ho with ⟨a,ho⟩|ho
 .cases ho;rw[B7 a];exact repl_orc rfl glM maxIs
 rcases pA ho with ⟨a,ho⟩|ho
 .cases ho;rw[B7 a];exact trim_orc rfl glA spaceIs
 rcases pA ho with ⟨a,ho⟩|ho
 .cases ho;rw[B7 a];exact gen_orc rfl glN noneIs
 cases ho
theorem goodW{o:FuncId->Option Orc}(hO: ∀f h,o f=some h-> @uC (lV o) f h): @Good (lV o):= @Good.mk (lV o) (@Meths.mk (lV o) meth_ok meth_deref) l4 (λg k h=>by
  obtain⟨h1,e⟩:=bN h;cases e
  exact(show g<12 by simpa using h1)) (λf hk d c a hb=>by
  have hk:oc (T.get bJw f) false (λ_=>true)=true:=hk;rw[rN]at hk
  cases b:T.get bJw f with
  |none=>rw[b]at hk;cases hk
  |some t=>
   have:=T.allP_get (all_valid o) b;have h: @validF (lV o) f=true:=this;unfold validF at h;rw[show prog.funcs[f]?=some d from a]at h;have h:oc d.body true (λc=> @mC (lV o) f c)=true:=h;rw[hb]at h
   exact h) (λf h ho=>by
  have ho:oc (o f) (orcX f) some=some h:=ho;rw[rN]at ho
  cases a:o f with
  |some g=>
   rw[a]at ho;cases ho;exact hO f _ a
  |none=>
   rw[a]at ho
   exact orc_conv (o:=λ_=>none) (orcX_ok f h ho))
instance good : Good := goodW λ_ _ h => by cases h
end X
end
section
open Go.Proofs.Tryz
namespace X
open Go.RowKit Go.Proofs.Tryz
noncomputable section
def o0:FuncId->Option Orc:=λ_=>none
theorem okO0: @Good (lV o0):=good
def isTrue:Option (V×St)->Bool
 |some (.b true,_)=>true
 |_=>false
theorem isTrue_ex{q:Option (V×St)}(h:isTrue q=true): ∃s,q=some (.b true,s):=by
 cases q with
 |none=>cases h
 |some q=>
  obtain⟨v,s⟩:=q
  cases v with
  |b x=>
   cases x with
   |true=>exact⟨s,rfl⟩
   |false=>cases h
  |_=>cases h
theorem shown19R:isTrue (@callF (lV o0) 8 (@bDj (lV o0) 3000) [] (@baseS (lV o0) baseK))=true:=l4
end
def LaidX (w:World):Prop:=Lib.TabIs prog w "strings.asciiSpace" .u8 Lib.asciiSpaceTab/\(∃m,w.cell? ⟨1,0,none⟩=some (.int .i64 m))/\ ∃t z,w.heap[(0:Nat)]?=some (.cells #[.int .i64 0,.int .i64 (-1)] t z)
theorem base_laid{o:FuncId->Option Orc}{w:World}(h:LaidX w): @Sim (lV o) ⟨λk=>k,λ_=>0,λ_=>none⟩ (@baseS (lV o) baseK) w:=by
 obtain⟨h0,⟨m,h1⟩,n,j,f⟩:=h
 have hk: ∀k x,(baseH baseK).get k=some x->(k=2/\x= .know 0)\/(k=1/\x= .know 1)\/(k=0/\x= .know 2):=λk x hx=>by
  obtain⟨m,b,rfl⟩:=bHu hx
  rcases C9.1 b with e|b
  .cases e;exact .inl ⟨rfl,rfl⟩
  .rcases C9.1 b with e|b
   .cases e;exact .inr (.inl ⟨rfl,rfl⟩)
   .rcases C9.1 b with e|b
    .cases e;exact .inr (.inr ⟨rfl,rfl⟩)
    .cases b
 refine @Sim.mk (lV o) _ _ w (λg k hg=>?_) (λk x hx=>?_) (λk x hx=>?_) (λk x hx=>?_) (λk s x q _ _ e=>e)
 .obtain⟨f,p⟩:=bN hg;cases p;exact⟨(show g<12 by simpa using f),rfl⟩
 .rcases hk k x hx with ⟨rfl,rfl⟩|⟨rfl,rfl⟩|⟨rfl,rfl⟩
  .exact(show(2:Nat)<12 by decide)
  .exact(show(1:Nat)<12 by decide)
  .exact(show(0:Nat)<12 by decide)
 .rcases hk k x hx with ⟨rfl,rfl⟩|⟨rfl,rfl⟩|⟨rfl,rfl⟩<;>trivial
 .rcases hk k x hx with ⟨rfl,rfl⟩|⟨rfl,rfl⟩|⟨rfl,rfl⟩
  .unfold Lib.TabIs eP at h0;rw[show prog.globalNamed "strings.asciiSpace" =some 2 by kernel_rfl]at h0;have h0:(match w.heap[2]? with|some (Obj.cells c _ _)=>some c|_=>none)=some (Lib.asciiSpaceTab.map λz=>Value.int .u8 z).toArray:=h0;split at h0
   .rename_i c t z d;cases h0;exact⟨_,d,t,z,rfl⟩
   .cases h0
  .unfold j7 at h1;split at h1
   .rename_i c t z d;have i:c[0]?=some (.int .i64 m):=h1;refine⟨_,d,m,c.toList.tail,t,z,?_⟩
    congr 1
    obtain⟨l⟩:=c
    cases l with
    |nil=>cases i
    |cons a r=>
     have:a= .int .i64 m:=by simpa using i
     rw[this];rfl
   .cases h1
  .exact⟨_,f,n,j,rfl⟩
theorem shown19_true{w:World}(h:LaidX w):(callFunc 8 #[]).run prog w= .ok (.enter 8 #[]) w/\Calls prog 8 #[] w λe w'=>e= .returned (.bool true)/\Below w.heap.size w w':=by
 obtain⟨s,a⟩:=isTrue_ex shown19R;exact @ran_true (lV o0) _ _ okO0 _ _ _ _ a (base_laid h)
end X
end
section
open Go.RowKit Go.ChangeShapes Go.Proofs.Tryz
abbrev bPd:List (String×DataW Unit):=Rows.genRefusesRow.laid
theorem named0:prog.globalNamed "strings.asciiSpace" =some 2:=l4
theorem namedN:prog.globalNamed "windrow/plan.none" =some 0:=l4
def laidF:bE where
 p S w:=(S 2/\S 1/\S 0)/\X.LaidX w
 mono:=λ{S S' w w'} hs ha h=>by
  obtain⟨⟨s0,s4,s9⟩,h0,⟨m,h4⟩,t,z,h9⟩:=h;refine⟨⟨hs _ s0,hs _ s4,hs _ s9⟩,?_,⟨m,?_⟩,t,z,?_⟩
  .unfold Lib.TabIs eP at*;rw[named0]at*;simp only[eR,ha _ s0]at*;exact h0
  .unfold j7 at*;rw[ha _ s4];exact h4
  .rw[ha _ s9];exact h9
theorem none_of{F:List bE}(h:Has F laidF):Has F (bE.cells 0 0 [j5 0,j5 (-1)]):=λS w k=>by
 obtain⟨⟨_,_,a⟩,_,_,t,z,c⟩:=h S w k;refine⟨a,λj u b=>?_⟩;unfold j7;rw[c]
 simpa using b
theorem bMw{P:Program}{W:World}{name:String}{k:IntKind}{zs:List Int}{g:Nat}{t e:TypeId}{n:Nat}
  (hg:P.globalNamed name=some g) (hty:(P.globals[g]?).map (·.type)=some t) (ht:P.underlying t=some (.array n e)) (he:P.underlying e=some (.int k)) (hce:P.cellsOf e=1) (hct:P.cellsOf t=n)
  (h:Lib.VarReads P W name (Lib.tabData k zs)):Lib.TabIs P W name k zs:=by
 obtain⟨f,t',i,d,p,c,b,a,hd⟩:=h;obtain rfl:=Option.some.inj (hg.symm.trans c);obtain rfl:=Option.some.inj (hty.symm.trans b);unfold Lib.TabIs;rw[a,<-Lib.cells_of_tab ht he hce hct hd]
theorem var_lt{P:Program}{W:World}{name:String}{g:Nat}{cs:Array Value}(hg:P.globalNamed name=some g)(h:W.var? P name=some cs):g<W.heap.size:=by
 unfold eP at h;rw[hg]at h;simp only[eR]at h
 cases a:W.heap[g]? with
 |none=>rw[a]at h;cases h
 |some o=>exact(Array.getElem?_eq_some_iff.1 a).1
theorem cell_lt'{W:World}{g i:Nat}{v:Value}(h:W.cell? ⟨g,i,none⟩=some v):g<W.heap.size:=by
 unfold j7 at h
 cases a:W.heap[g]? with
 |none=>rw[a]at h;cases h
 |some o=>exact(Array.getElem?_eq_some_iff.1 a).1
set_option maxRecDepth 1000000 in
theorem globF_of{W:World}(hL:laidMetH prog bPd W)(hsh:W.ShapedOpen prog):laidF.p (λb=>b<W.heap.size) W:=by
 have f:laidMet prog bPd W:=hL;have h0:Lib.TabIs prog W "strings.asciiSpace" .u8 Lib.asciiSpaceTab:=bMw (t:=408) (e:=5) (n:=256) named0 l4 underlying408 underlying5 l4 l4
  (Lib.laidMet.reads f (.tail _ (.tail _ (.tail _ (.tail _ (.tail _ (.tail _ (.tail _ (.head _)))))))))
 obtain⟨m,h4⟩:=cell_of_shapedOpen_int (P:=prog) (g:=1) (t:=3) (zero:= #[.int .i64 0]) hsh (of_decide_eq_true l4) l4 rfl l4 l4 underlying3;obtain⟨K,t',s,r,p,k,j,c,hd⟩:=Lib.laidMet.reads f (n:= "windrow/plan.none") (.tail _ (.tail _ (.tail _ (.tail _ (.tail _ (.tail _ (.tail _ (.tail _ (.head _)))))))));obtain rfl:=Option.some.inj (namedN.symm.trans k);obtain rfl:114=t':=Option.some.inj ((show(prog.globals[0]?).map (·.type)=some 114 by kernel_rfl).symm.trans j);obtain⟨x,w,n,ex,hl,C,B⟩:=trod_struct2 underlying114 hd;have I:prog.cellsOf 114=2:=l4
 have G:prog.cellsOf 3=1:=l4
 rw[I]at hl;have d:Rows.laid_windrow_plan_none=(DataW.agg [x.1,w.1]:DataW Unit):=congrArg Prod.fst ex;injection d with d
 injection d with e0 d
 injection d with e1 _
 obtain⟨l⟩:=s
 match l,hl with
 |[a,b],_=>
  obtain⟨E,i,A,_⟩:=DataW.trod_int underlying3 C;obtain⟨D,h,y,_⟩:=DataW.trod_int underlying3 B;rw[A]at e0;rw[y]at e1;have v:0=E:=by injection e0 with e0;injection e0
  have u: -1=D:=by injection e1 with e1;injection e1
  subst v u;have i:[a]=[.int .i64 0]:=i;have h:[b]=[.int .i64 (-1)]:=h;injection i with ra
  injection h with rb
  subst ra;subst rb;have J:=var_lt namedN c;unfold eP at c;rw[namedN]at c;simp only[eR]at c;refine⟨⟨var_lt named0 h0,cell_lt' h4,J⟩,h0,⟨m,h4⟩,?_⟩
  cases q:W.heap[(0:Nat)]? with
  |none=>rw[q]at c;cases c
  |some o=>
   rw[q]at c
   cases o with
   |cells s t z=>
    simp only[Option.some.injEq]at c;subst c;exact⟨t,z,rfl⟩
   |_=>cases c
theorem shown19_spec:bZ prog 8 [] [] [laidF] (λ_:Unit=> .bool true) (λ_=>[]) (λ_=>[]):=sJ λ_ _ _ k=>(X.shown19_true (k laidF (D5 ..)).2).2
def flat1:DataW Unit->List Value
 |.lit (.int k n)=>[.int k n]
 |_=>[]
def flat2:DataW Unit->List Value
 |.agg l=>l.flatMap flat1
 |d=>flat1 d
def bPk:DataW Unit->Array Value
 |.agg l=>(l.flatMap flat2).toArray
 |_=> #[]
def whiteNums:List Int:=[9,13,1,32,133,101,160,5760,5600,8192,8202,1,8232,8233,1,8239,8287,48,12288,12288,1]
noncomputable def laidWorld (os:Os):World:=
 let N:=(eQ prog os).heap.size
 let w0:=World.holding prog os ⟨#[.cells (whiteNums.map λz=>Value.int .u16 z).toArray 451,.cells #[.slice (some ⟨N,0,none⟩) 7 7,.slice none 0 0,.int .i64 2] 448,
  .cells #[.string ⟨#[118,97,108,117,101,32,111,117,116,32,111,102,32,114,97,110,103,101]⟩] 444,.cells #[.string ⟨#[105,110,118,97,108,105,100,32,115,121,110,116,97,120]⟩] 444],#[],[]⟩
 let put (h:Array Obj) (g:Nat) (cs:Array Value):Array Obj:=h.modify g fun
  |.cells _ t frozen=> .cells cs t frozen
  |o=>o
 let h1:=put w0.heap 9 (bPk Rows.laid_math_bits_deBruijn32tab)
 let h2:=put h1 10 (bPk Rows.laid_math_bits_deBruijn64tab)
 let h3:=put h2 8 (bPk Rows.laid_internal_strconv_uint64pow10)
 let h4:=put h3 7 (bPk Rows.laid_unicode_utf8_acceptRanges)
 let h5:=put h4 4 #[.iface 442 (.pointer (some ⟨N+2,0,none⟩))]
 let h6:=put h5 3 #[.iface 442 (.pointer (some ⟨N+3,0,none⟩))]
 let h7:=put h6 5 #[.pointer (some ⟨N+1,0,none⟩)]
 let h8:=put h7 2 (bPk Rows.laid_strings_asciiSpace)
 let h9:=put h8 6 (bPk Rows.laid_unicode_utf8_first)
 let h10:=put h9 0 (bPk Rows.laid_windrow_plan_none)
 {w0 with heap:=h10}
noncomputable abbrev N0:Nat:=(eQ prog default).heap.size
set_option maxRecDepth 1000000 in
theorem piece0(os:Os)(args:Array Value):LaidIn prog ((laidWorld os).forCall (λ_ _=>0) ⟨#[],args,[]⟩).memory [("math/bits.deBruijn32tab",Rows.laid_math_bits_deBruijn32tab)] [9]:=
 LaidIn.of_run [9] 10 l4 l4 l4 l4
set_option maxRecDepth 1000000 in
theorem piece1(os:Os)(args:Array Value):LaidIn prog ((laidWorld os).forCall (λ_ _=>0) ⟨#[],args,[]⟩).memory [("math/bits.deBruijn64tab",Rows.laid_math_bits_deBruijn64tab)] [10]:=
 LaidIn.of_run [10] 10 l4 l4 l4 l4
set_option maxRecDepth 1000000 in
theorem piece2(os:Os)(args:Array Value):LaidIn prog ((laidWorld os).forCall (λ_ _=>0) ⟨#[],args,[]⟩).memory [("internal/strconv.uint64pow10",Rows.laid_internal_strconv_uint64pow10)] [8]:=
 LaidIn.of_run [8] 10 l4 l4 l4 l4
set_option maxRecDepth 1000000 in
theorem piece3(os:Os)(args:Array Value):LaidIn prog ((laidWorld os).forCall (λ_ _=>0) ⟨#[],args,[]⟩).memory [("unicode/utf8.acceptRanges",Rows.laid_unicode_utf8_acceptRanges)] [7]:=
 LaidIn.of_run [7] 10 l4 l4 l4 l4
set_option maxRecDepth 1000000 in
theorem piece4(os:Os)(args:Array Value):LaidIn prog ((laidWorld os).forCall (λ_ _=>0) ⟨#[],args,[]⟩).memory [("strconv.ErrRange",Rows.laid_strconv_ErrRange)] [4,N0+2]:=
 LaidIn.of_run [4,N0+2] 10 l4 l4 l4 l4
set_option maxRecDepth 1000000 in
theorem piece5(os:Os)(args:Array Value):LaidIn prog ((laidWorld os).forCall (λ_ _=>0) ⟨#[],args,[]⟩).memory [("strconv.ErrSyntax",Rows.laid_strconv_ErrSyntax)] [3,N0+3]:=
 LaidIn.of_run [3,N0+3] 10 l4 l4 l4 l4
set_option maxRecDepth 1000000 in
theorem piece6(os:Os)(args:Array Value):LaidIn prog ((laidWorld os).forCall (λ_ _=>0) ⟨#[],args,[]⟩).memory [("unicode.White_Space",Rows.laid_unicode_White_Space)] [5,N0,N0+1]:=
 LaidIn.of_run [5,N0,N0+1] 10 l4 l4 l4 l4
set_option maxRecDepth 1000000 in
theorem piece7(os:Os)(args:Array Value):LaidIn prog ((laidWorld os).forCall (λ_ _=>0) ⟨#[],args,[]⟩).memory [("strings.asciiSpace",Rows.laid_strings_asciiSpace)] [2]:=
 LaidIn.of_run [2] 10 l4 l4 l4 l4
set_option maxRecDepth 1000000 in
theorem piece8(os:Os)(args:Array Value):LaidIn prog ((laidWorld os).forCall (λ_ _=>0) ⟨#[],args,[]⟩).memory [("unicode/utf8.first",Rows.laid_unicode_utf8_first)] [6]:=
 LaidIn.of_run [6] 10 l4 l4 l4 l4
set_option maxRecDepth 1000000 in
theorem pieceN(os:Os)(args:Array Value):LaidIn prog ((laidWorld os).forCall (λ_ _=>0) ⟨#[],args,[]⟩).memory [("windrow/plan.none",Rows.laid_windrow_plan_none)] [0]:=
 LaidIn.of_run [0] 10 l4 l4 l4 l4
set_option maxRecDepth 1000000 in
theorem laid_met(os:Os)(args:Array Value):laidMet prog bPd ((laidWorld os).forCall (λ_ _=>0) ⟨#[],args,[]⟩).memory:=
 ((((((((((piece0 os args).append (piece1 os args) l4).append (piece2 os args) l4).append (piece3 os args) l4).append (piece4 os args) l4).append (piece5 os args) l4).append (piece6 os args) l4).append (piece7 os args) l4).append (pieceN os args) l4).append (piece8 os args) l4).met
end
section
open Go.RowKit Go.ChangeShapes Go.WideShapes Go.Proofs.Tryz
section
variable {H : Type} {enc : TypeId × Value -> H} {P : Program}
theorem bBr(hl:laidOutB P=true){W W':World}(hb:Below W.heap.size W W'): ∀{ts:List TypeId} {vs:List Value} {ds:List (DataW H)} {ps:List MemPlace},
  (∀t∈ts,P.readableRec t=true/\t<P.types.size)->(∀x∈ps,x.block<W.heap.size)->DataW.TrodAll enc P W 0 (λ_=>true) true ts vs ds ps->
  DataW.TrodAll enc P W' 0 (λb=>decide (b<W.heap.size)) true ts vs ds ps
 |[],_,_,_,_,_,h=>by
  obtain⟨rfl,rfl,rfl⟩:=trodAll_nil h;exact trodAll_mk0
 |t::ts,_,_,_,ht,hlt,h=>by
  obtain⟨v,vs,d,ds,p,q,rfl,rfl,rfl,h1,a⟩:=trodAll_cons h;have hr:=ht t n4;exact trodAll_cons_mk (Below.trod hl hr.1 hr.2 h1 hb (λx hx=>hlt x s8)) (bBr hl hb (λt h=>ht t w8) (λx hx=>hlt x s8) a)
theorem law_post{f:Func}{s:ChangeSpec}{W W':World}{args:Array Value}{ds:List (DataW H)}{before:List MemPlace}{tb:TypeId}
  (hW:DataW.Whole enc P f.params.toList s.vars false W args.toList ds [] before) (hv:s.vars=[]) (hfn:s.fn H (ds++[])={results:=[.lit (.bool true)],args:=ds})
  (hr:f.resultTypes= #[tb]) (hb:P.underlying tb=some .bool) (hl:laidOutB P=true) (hread: ∀t∈f.params.toList,P.readableRec t=true/\t<P.types.size) (h:Below W.heap.size W W'):
  s.post enc P f false true false false W args (.bool true) W':=by
 have hlt: ∀p∈before,p.block<W.heap.size:=λp c=>hW.lt p c;have a:=hW;obtain⟨p,q,d,b,rfl,_,_⟩:=hW;rw[hv]at b;have hq:q=[]:=b;subst hq;refine⟨ds,[],_,[],p,[],a,?_,?_,?_,?_,λh=>by cases h⟩
 .rw[hfn,hr];exact trodAll_mk1 (shut_bool hb true)
 .rw[hfn];exact bBr hl h hread (λx hx=>hlt x s8) d
 .rw[hfn,hv];rfl
 .exact h.frame _
end
theorem bRm{ι:Type}{f:FuncId}{args:List Value}{Pre:List bE}{v:Value}(h:bZ prog f args [] Pre (λ_:ι=>v) (λ_=>[]) (λ_=>[])){w:World}(hp:All Pre (λb=>b<w.heap.size) w):
  Calls prog f args.toArray w λe w'=>e= .returned v/\Below w.heap.size w w':=by
 refine(h (λb=>b<w.heap.size) w ⟨oM.refl _ _,λc a=>by simp at a,λc a=>by simp at a,List.Pairwise.nil,λb hb=>⟨hb,.inl hb⟩⟩ hp).mono ?_;rintro e w' ⟨_,_,rfl,s,_⟩;refine⟨rfl,s.kept.os,s.kept.tape,s.kept.output,s.kept.size,λk hk=>s.kept.block k hk λ⟨c,a,_⟩=>by simp at a⟩
theorem own:ownKnob prog.godebug=none:=l4
theorem laid:laidOutB prog=true:=l4
end
section
open Go.RowKit Go.ChangeShapes Go.WideShapes Go.Proofs.Tryz
section
variable {α H : Type} {enc : TypeId × Value -> H} {P : Program} {w : World} {t e : TypeId}
def Ty.slicec(T:Ty α)(b:Nat):Ty (Sl α):=⟨slE α,λs=>((T.slice b).deep s).and (bE.pure (s.list.length<=s.cap))⟩
theorem lM{deep:Sl α->bE}(hu:P.underlying t=some (.slice e))(he:qW enc P w t (slE α).cells deep):qW enc P w t (slE α).cells (λs=>(deep s).and (bE.pure (s.list.length<=s.cap))):=λb i x h j=>by
 obtain⟨a,g,d⟩:=he b i x h j;refine⟨a,g,d,?_⟩;have f:i=[.slice a.addr a.list.length a.cap]:=g;show a.list.length<=a.cap
 rcases Deep.open_slice hu h with ⟨c,_⟩|⟨k,len,cap,m,n,D,l,c,_,hl,_⟩
 .rw[f]at c;simp only[List.cons.injEq,and_true,Value.slice.injEq]at c;omega
 .rw[f]at c;simp only[List.cons.injEq,and_true,Value.slice.injEq]at c;omega
end
set_option maxRecDepth 100000
section
variable {H : Type} {enc : TypeId × Value -> H} {w : World}
theorem u8_of{n:Int}(h:(Lit.int .u8 n).wf=true): ∃e:UInt8,n=(e.toNat:Int):=by
 have a:0<=n/\n<=255:=bounds_u8 h;refine⟨UInt8.ofNat n.toNat,?_⟩;rw[UInt8.toNat_ofNat'];omega
theorem read_mono{fuel:Nat}{cs:List Value}{x:DataW H×List MemPlace}(h:DataW.trod enc prog w 0 (λ_=>true) true fuel 111 cs=some x): ∃m:Mono,cs=m.cells/\(Lit.int .i64 m.n).wf=true:=by
 obtain⟨f,n,_,_,b,j,z⟩:=DataW.trod_struct underlying111 h;have c:prog.cellsOf 111=7:=l4
 have p:prog.cellsOf 2=1:=l4
 have d:prog.cellsOf 109=6:=l4
 have o:prog.cellsOf 5=1:=l4
 rw[c]at b;have y:f.length=2:=j
 match cs,b with
 |[a,b0,b1,b2,b3,b4,b5],_=>
  have h0:DataW.trod enc prog w 0 (λ_=>true) true n 2 (([a,b0,b1,b2,b3,b4,b5].drop 0).take (prog.cellsOf 2))=f[0]?:=z 0 _ rfl;have h1:DataW.trod enc prog w 0 (λ_=>true) true n 109 (([a,b0,b1,b2,b3,b4,b5].drop 1).take (prog.cellsOf 109))=f[1]?:=z 1 _ rfl;rw[p,D7 k9]at h0;rw[d,D7 k9]at h1;obtain⟨nn,D,_,G⟩:=DataW.trod_int underlying2 h0;obtain⟨K,L,_,_,_,E,hg⟩:=DataW.trod_array underlying109 h1
  have g: ∀i,i<6-> ∃e:UInt8,(([b0,b1,b2,b3,b4,b5]:List Value).drop i).take 1=[.int .u8 (e.toNat:Int)]:=λi I=>by
   have A:=hg i I;rw[o,eO,D7 k9]at A;obtain⟨k,J,_,l⟩:=DataW.trod_int underlying5 A;obtain⟨e,rfl⟩:=u8_of l;exact⟨e,J⟩
  obtain⟨v,C⟩:=g 0 k9;obtain⟨u,B⟩:=g 1 k9;obtain⟨t,g2⟩:=g 2 k9;obtain⟨s,g3⟩:=g 3 k9;obtain⟨r,g4⟩:=g 4 k9;obtain⟨q,g5⟩:=g 5 k9;simp at D C B g2 g3 g4 g5;subst D C B g2 g3 g4 g5;exact⟨⟨nn,v,u,t,s,r,q⟩,rfl,G⟩
end
def oP:Ty Mono:=⟨oI,λm=>bE.pure ((Lit.int .i64 m.n).wf=true)⟩
theorem wF{H:Type}{enc:TypeId×Value->H}{w:World}:qW enc prog w 111 oP.E.cells oP.deep:=λa c x h _=>by
 obtain⟨m,e,b⟩:=read_mono h;exact⟨m,e,b⟩
instance : Inhabited Mono := ⟨⟨0, 0, 0, 0, 0, 0, 0⟩⟩
def opTy:Ty OpV:=⟨opE,λx=>(bE.pure ((Lit.int .i64 x.how).wf=true)).and ((bE.pure ((Lit.int .i64 x.k).wf=true)).and ((bE.pure ((Lit.int .i64 x.n).wf=true)).and ((((oP.slice 16)).deep x.p).and ((bE.pure ((Lit.int .u8 x.fn).wf=true)).and (bE.true)))))⟩
theorem opens_op{H:Type}{enc:TypeId×Value->H}{w:World}:qW enc prog w 172 opE.cells opTy.deep:=λz M x h d=>by
 obtain⟨c,n,_,rfl,a,g,e⟩:=DataW.trod_struct underlying172 h;have E:prog.cellsOf 172=5:=l4
 rw[E]at a;have u:c.length=5:=g
 match M,a with
 |[c0,c1,c2,c3,c4],_=>
  have h0:DataW.trod enc prog w 0 (λ_=>true) true n 3 (([c0,c1,c2,c3,c4].drop 0).take (prog.cellsOf 3))=c[0]?:=e 0 _ rfl;have h1:DataW.trod enc prog w 0 (λ_=>true) true n 3 (([c0,c1,c2,c3,c4].drop 1).take (prog.cellsOf 3))=c[1]?:=e 1 _ rfl;have y:DataW.trod enc prog w 0 (λ_=>true) true n 2 (([c0,c1,c2,c3,c4].drop 2).take (prog.cellsOf 2))=c[2]?:=e 2 _ rfl;have v:DataW.trod enc prog w 0 (λ_=>true) true n 43 (([c0,c1,c2,c3,c4].drop 3).take (prog.cellsOf 43))=c[3]?:=e 3 _ rfl;have h4:DataW.trod enc prog w 0 (λ_=>true) true n 77 (([c0,c1,c2,c3,c4].drop 4).take (prog.cellsOf 77))=c[4]?:=e 4 _ rfl;rw[D7 k9]at h0;obtain⟨D,o,L⟩:=(iP underlying3) _ _ _ h0 (cE underlying172 d (j:=0) rfl (by rw[I7,D7 k9];rfl))
  have t:[c0]=[.int .i64 D]:=by
   have hk:prog.cellsOf 3=1:=l4
   rw[hk]at o;exact o
  clear o;simp only[List.cons.injEq,and_true]at t;rw[D7 k9]at h1;obtain⟨C,m,K⟩:=(iP underlying3) _ _ _ h1 (cE underlying172 d (j:=1) rfl (by rw[I7,D7 k9];rfl))
  have s:[c1]=[.int .i64 C]:=by
   have hk:prog.cellsOf 3=1:=l4
   rw[hk]at m;exact m
  clear m;simp only[List.cons.injEq,and_true]at s;rw[D7 k9]at y;obtain⟨B,l,J⟩:=(iP underlying2) _ _ _ y (cE underlying172 d (j:=2) rfl (by rw[I7,D7 k9];rfl))
  have r:[c2]=[.int .i64 B]:=by
   have hk:prog.cellsOf 2=1:=l4
   rw[hk]at l;exact l
  clear l;simp only[List.cons.injEq,and_true]at r;rw[D7 k9]at v;obtain⟨f,k,I⟩:=(fE (T:=oP) (b:=16) underlying43 l4 l4 wF) _ _ _ v (cE underlying172 d (j:=3) rfl (by rw[I7,D7 k9];rfl))
  have q:[c3]=[.slice f.addr f.list.length f.cap]:=by
   have hk:prog.cellsOf 43=1:=l4
   rw[hk]at k;exact k
  clear k;simp only[List.cons.injEq,and_true]at q;rw[D7 k9]at h4;obtain⟨A,i,G⟩:=(iP underlying77) _ _ _ h4 (cE underlying172 d (j:=4) rfl (by rw[I7,D7 k9];rfl))
  have p:[c4]=[.int .u8 A]:=by
   have hk:prog.cellsOf 77=1:=l4
   rw[hk]at i;exact i
  clear i;simp only[List.cons.injEq,and_true]at p;obtain rfl:=t;obtain rfl:=s;obtain rfl:=r;obtain rfl:=q;obtain rfl:=p;exact⟨⟨D,C,B,f,A⟩,rfl,L,K,J,I,G,e8⟩
def bufTy:Ty lW:=⟨bBb,λx=>((((oP.slice 16).slicec 24)).deep x.sides).and ((bE.pure ((Lit.int .i64 x.input).wf=true)).and (bE.true))⟩
theorem opens_buf{H:Type}{enc:TypeId×Value->H}{w:World}:qW enc prog w 95 bBb.cells bufTy.deep:=λp u x h m=>by
 obtain⟨d,n,_,rfl,a,e,o⟩:=DataW.trod_struct underlying95 h;have r:prog.cellsOf 95=2:=l4
 rw[r]at a;have l:d.length=2:=e
 match u,a with
 |[c0,c1],_=>
  have h0:DataW.trod enc prog w 0 (λ_=>true) true n 42 (([c0,c1].drop 0).take (prog.cellsOf 42))=d[0]?:=o 0 _ rfl;have h1:DataW.trod enc prog w 0 (λ_=>true) true n 3 (([c0,c1].drop 1).take (prog.cellsOf 3))=d[1]?:=o 1 _ rfl;rw[D7 k9]at h0;obtain⟨c,g,t⟩:=(lM underlying42 (fE (T:=(oP.slice 16)) (b:=24) underlying42 l4 l4 (fE (T:=oP) (b:=16) underlying43 l4 l4 wF))) _ _ _ h0 (cE underlying95 m (j:=0) rfl (by rw[I7,D7 k9];rfl))
  have k:[c0]=[.slice c.addr c.list.length c.cap]:=by
   have hk:prog.cellsOf 42=1:=l4
   rw[hk]at g;exact g
  clear g;simp only[List.cons.injEq,and_true]at k;rw[D7 k9]at h1;obtain⟨q,f,s⟩:=(iP underlying3) _ _ _ h1 (cE underlying95 m (j:=1) rfl (by rw[I7,D7 k9];rfl))
  have i:[c1]=[.int .i64 q]:=by
   have hk:prog.cellsOf 3=1:=l4
   rw[hk]at f;exact f
  clear f;simp only[List.cons.injEq,and_true]at i;obtain rfl:=k;obtain rfl:=i;exact⟨⟨c,q⟩,rfl,t,s,e8⟩
def bPl:Ty gV:=⟨sO,λx=>(bE.pure ((Lit.int .i64 x.how).wf=true)).and ((bE.pure ((Lit.int .i64 x.buf).wf=true)).and ((((oP.slice 16)).deep x.at_).and (((((oP.slice 16).slicec 24)).deep x.loops).and ((bE.pure ((Lit.int .u8 x.fn).wf=true)).and ((((opTy.slicec 56)).deep x.ops).and (bE.true))))))⟩
theorem opens_step{H:Type}{enc:TypeId×Value->H}{w:World}:qW enc prog w 80 sO.cells bPl.deep:=λE R x h d=>by
 obtain⟨c,n,_,rfl,a,k,e⟩:=DataW.trod_struct underlying80 h;have K:prog.cellsOf 80=6:=l4
 rw[K]at a;have A:c.length=6:=k
 match R,a with
 |[c0,c1,c2,c3,c4,c5],_=>
  have h0:DataW.trod enc prog w 0 (λ_=>true) true n 3 (([c0,c1,c2,c3,c4,c5].drop 0).take (prog.cellsOf 3))=c[0]?:=e 0 _ rfl;have h1:DataW.trod enc prog w 0 (λ_=>true) true n 3 (([c0,c1,c2,c3,c4,c5].drop 1).take (prog.cellsOf 3))=c[1]?:=e 1 _ rfl;have D:DataW.trod enc prog w 0 (λ_=>true) true n 43 (([c0,c1,c2,c3,c4,c5].drop 2).take (prog.cellsOf 43))=c[2]?:=e 2 _ rfl;have C:DataW.trod enc prog w 0 (λ_=>true) true n 42 (([c0,c1,c2,c3,c4,c5].drop 3).take (prog.cellsOf 42))=c[3]?:=e 3 _ rfl;have h4:DataW.trod enc prog w 0 (λ_=>true) true n 77 (([c0,c1,c2,c3,c4,c5].drop 4).take (prog.cellsOf 77))=c[4]?:=e 4 _ rfl;have B:DataW.trod enc prog w 0 (λ_=>true) true n 78 (([c0,c1,c2,c3,c4,c5].drop 5).take (prog.cellsOf 78))=c[5]?:=e 5 _ rfl;rw[D7 k9]at h0;obtain⟨J,r,Q⟩:=(iP underlying3) _ _ _ h0 (cE underlying80 d (j:=0) rfl (by rw[I7,D7 k9];rfl))
  have z:[c0]=[.int .i64 J]:=by
   have hk:prog.cellsOf 3=1:=l4
   rw[hk]at r;exact r
  clear r;simp only[List.cons.injEq,and_true]at z;rw[D7 k9]at h1;obtain⟨I,q,P⟩:=(iP underlying3) _ _ _ h1 (cE underlying80 d (j:=1) rfl (by rw[I7,D7 k9];rfl))
  have y:[c1]=[.int .i64 I]:=by
   have hk:prog.cellsOf 3=1:=l4
   rw[hk]at q;exact q
  clear q;simp only[List.cons.injEq,and_true]at y;rw[D7 k9]at D;obtain⟨i,p,O⟩:=(fE (T:=oP) (b:=16) underlying43 l4 l4 wF) _ _ _ D (cE underlying80 d (j:=2) rfl (by rw[I7,D7 k9];rfl))
  have v:[c2]=[.slice i.addr i.list.length i.cap]:=by
   have hk:prog.cellsOf 43=1:=l4
   rw[hk]at p;exact p
  clear p;simp only[List.cons.injEq,and_true]at v;rw[D7 k9]at C;obtain⟨g,o,N⟩:=(lM underlying42 (fE (T:=(oP.slice 16)) (b:=24) underlying42 l4 l4 (fE (T:=oP) (b:=16) underlying43 l4 l4 wF))) _ _ _ C (cE underlying80 d (j:=3) rfl (by rw[I7,D7 k9];rfl))
  have u:[c3]=[.slice g.addr g.list.length g.cap]:=by
   have hk:prog.cellsOf 42=1:=l4
   rw[hk]at o;exact o
  clear o;simp only[List.cons.injEq,and_true]at u;rw[D7 k9]at h4;obtain⟨G,m,M⟩:=(iP underlying77) _ _ _ h4 (cE underlying80 d (j:=4) rfl (by rw[I7,D7 k9];rfl))
  have t:[c4]=[.int .u8 G]:=by
   have hk:prog.cellsOf 77=1:=l4
   rw[hk]at m;exact m
  clear m;simp only[List.cons.injEq,and_true]at t;rw[D7 k9]at B;obtain⟨f,l,L⟩:=(lM underlying78 (fE (T:=opTy) (b:=56) underlying78 l4 l4 opens_op)) _ _ _ B (cE underlying80 d (j:=5) rfl (by rw[I7,D7 k9];rfl))
  have s:[c5]=[.slice f.addr f.list.length f.cap]:=by
   have hk:prog.cellsOf 78=1:=l4
   rw[hk]at l;exact l
  clear l;simp only[List.cons.injEq,and_true]at s;obtain rfl:=z;obtain rfl:=y;obtain rfl:=v;obtain rfl:=u;obtain rfl:=t;obtain rfl:=s;exact⟨⟨J,I,i,g,G,f⟩,rfl,Q,P,O,N,M,L,e8⟩
def coreTy:Ty gD:=⟨coreE,λx=>(bE.pure ((Lit.int .i64 x.vars).wf=true)).and ((((bufTy.slicec 32)).deep x.bufs).and ((((bPl.slicec 96)).deep x.steps).and ((((bDz.slicec 8)).deep x.outs).and (bE.true))))⟩
theorem opens_core{H:Type}{enc:TypeId×Value->H}{w:World}:qW enc prog w 26 coreE.cells coreTy.deep:=λz I x h d=>by
 obtain⟨c,n,_,rfl,a,k,e⟩:=DataW.trod_struct underlying26 h;have B:prog.cellsOf 26=4:=l4
 rw[B]at a;have u:c.length=4:=k
 match I,a with
 |[c0,c1,c2,c3],_=>
  have h0:DataW.trod enc prog w 0 (λ_=>true) true n 3 (([c0,c1,c2,c3].drop 0).take (prog.cellsOf 3))=c[0]?:=e 0 _ rfl;have h1:DataW.trod enc prog w 0 (λ_=>true) true n 22 (([c0,c1,c2,c3].drop 1).take (prog.cellsOf 22))=c[1]?:=e 1 _ rfl;have y:DataW.trod enc prog w 0 (λ_=>true) true n 23 (([c0,c1,c2,c3].drop 2).take (prog.cellsOf 23))=c[2]?:=e 2 _ rfl;have v:DataW.trod enc prog w 0 (λ_=>true) true n 24 (([c0,c1,c2,c3].drop 3).take (prog.cellsOf 24))=c[3]?:=e 3 _ rfl;rw[D7 k9]at h0;obtain⟨A,p,G⟩:=(iP underlying3) _ _ _ h0 (cE underlying26 d (j:=0) rfl (by rw[I7,D7 k9];rfl))
  have t:[c0]=[.int .i64 A]:=by
   have hk:prog.cellsOf 3=1:=l4
   rw[hk]at p;exact p
  clear p;simp only[List.cons.injEq,and_true]at t;rw[D7 k9]at h1;obtain⟨i,o,E⟩:=(lM underlying22 (fE (T:=bufTy) (b:=32) underlying22 l4 l4 opens_buf)) _ _ _ h1 (cE underlying26 d (j:=1) rfl (by rw[I7,D7 k9];rfl))
  have s:[c1]=[.slice i.addr i.list.length i.cap]:=by
   have hk:prog.cellsOf 22=1:=l4
   rw[hk]at o;exact o
  clear o;simp only[List.cons.injEq,and_true]at s;rw[D7 k9]at y;obtain⟨g,m,D⟩:=(lM underlying23 (fE (T:=bPl) (b:=96) underlying23 l4 l4 opens_step)) _ _ _ y (cE underlying26 d (j:=2) rfl (by rw[I7,D7 k9];rfl))
  have r:[c2]=[.slice g.addr g.list.length g.cap]:=by
   have hk:prog.cellsOf 23=1:=l4
   rw[hk]at m;exact m
  clear m;simp only[List.cons.injEq,and_true]at r;rw[D7 k9]at v;obtain⟨f,l,C⟩:=(lM underlying24 (fE (T:=bDz) (b:=8) underlying24 l4 l4 (iP underlying3))) _ _ _ v (cE underlying26 d (j:=3) rfl (by rw[I7,D7 k9];rfl))
  have q:[c3]=[.slice f.addr f.list.length f.cap]:=by
   have hk:prog.cellsOf 24=1:=l4
   rw[hk]at l;exact l
  clear l;simp only[List.cons.injEq,and_true]at q;obtain rfl:=t;obtain rfl:=s;obtain rfl:=r;obtain rfl:=q;exact⟨⟨A,i,g,f⟩,rfl,G,E,D,C,e8⟩
section
variable {S : Nat -> Prop} {w : World}
theorem pol_of{p:PolV}(h:((oP.slice 16).deep p).p S w):(fB p).p S w:=by
 obtain⟨⟨c1,c2⟩,c3⟩:=h;have c3:p.list.length*16<=140737488355328:=c3;exact⟨c1,by show p.list.length<=8796093022208;omega⟩
theorem list_of{l:Sl PolV}(h:(((oP.slice 16).slicec 24).deep l).p S w):(tV l).p S w:=by
 obtain⟨⟨⟨e,d⟩,c⟩,b⟩:=h;exact⟨⟨e,λp a=>pol_of (d p a)⟩,b,c⟩
theorem op_of{o:OpV}(h:(opTy.deep o).p S w):(opF o).p S w:=pol_of h.2.2.2.1
theorem ops_of{l:Sl OpV}(h:((opTy.slicec 56).deep l).p S w):(bRl l).p S w:=by
 obtain⟨⟨⟨e,d⟩,c⟩,b⟩:=h;exact⟨⟨e,λp a=>op_of (d p a)⟩,b,c⟩
theorem buf_of{b:lW}(h:(bufTy.deep b).p S w):(bufF b).p S w:=list_of h.1
theorem bufs_of{l:Sl lW}(h:((bufTy.slicec 32).deep l).p S w):(bufsF l).p S w:=by
 obtain⟨⟨⟨e,d⟩,c⟩,b⟩:=h;exact⟨⟨e,λp a=>buf_of (d p a)⟩,b,c⟩
theorem step_of{s:gV}(h:(bPl.deep s).p S w):(oL s).p S w:=⟨pol_of h.2.2.1,list_of h.2.2.2.1,ops_of h.2.2.2.2.2.1⟩
theorem steps_of{l:Sl gV}(h:((bPl.slicec 96).deep l).p S w):(bHj l).p S w:=by
 obtain⟨⟨⟨e,d⟩,c⟩,b⟩:=h;exact⟨⟨e,λp a=>step_of (d p a)⟩,b,c⟩
theorem bLr{l:Sl Int}(h:((bDz.slicec 8).deep l).p S w):(bIx l).p S w:=by
 obtain⟨⟨⟨c,d⟩,b⟩,a⟩:=h;exact⟨c,a,b⟩
theorem core_of{c:gD}(h:(coreTy.deep c).p S w):(oJ c).p S w:=⟨bufs_of h.2.1,steps_of h.2.2.1,bLr h.2.2.2.1⟩
end
end
section
open Go.RowKit Go.ChangeShapes Go.WideShapes Go.Proofs.Tryz
def arrTy:Ty tN:=⟨arrE,λx=>(((bDz.slicec 8)).deep x.sides).and ((((bDz.slicec 8)).deep x.data).and (bE.true))⟩
theorem opens_arr{H:Type}{enc:TypeId×Value->H}{w:World}:qW enc prog w 75 arrE.cells arrTy.deep:=λq u x h o=>by
 obtain⟨e,n,_,rfl,a,f,p⟩:=DataW.trod_struct underlying75 h;have r:prog.cellsOf 75=2:=l4
 rw[r]at a;have m:e.length=2:=f
 match u,a with
 |[c0,c1],_=>
  have h0:DataW.trod enc prog w 0 (λ_=>true) true n 27 (([c0,c1].drop 0).take (prog.cellsOf 27))=e[0]?:=p 0 _ rfl;have h1:DataW.trod enc prog w 0 (λ_=>true) true n 27 (([c0,c1].drop 1).take (prog.cellsOf 27))=e[1]?:=p 1 _ rfl;rw[D7 k9]at h0;obtain⟨d,i,t⟩:=(lM underlying27 (fE (T:=bDz) (b:=8) underlying27 l4 l4 (iP underlying2))) _ _ _ h0 (cE underlying75 o (j:=0) rfl (by rw[I7,D7 k9];rfl))
  have l:[c0]=[.slice d.addr d.list.length d.cap]:=by
   have hk:prog.cellsOf 27=1:=l4
   rw[hk]at i;exact i
  clear i;simp only[List.cons.injEq,and_true]at l;rw[D7 k9]at h1;obtain⟨c,g,s⟩:=(lM underlying27 (fE (T:=bDz) (b:=8) underlying27 l4 l4 (iP underlying2))) _ _ _ h1 (cE underlying75 o (j:=1) rfl (by rw[I7,D7 k9];rfl))
  have k:[c1]=[.slice c.addr c.list.length c.cap]:=by
   have hk:prog.cellsOf 27=1:=l4
   rw[hk]at g;exact g
  clear g;simp only[List.cons.injEq,and_true]at k;obtain rfl:=l;obtain rfl:=k;exact⟨⟨d,c⟩,rfl,t,s,e8⟩
section
variable {S : Nat -> Prop} {w : World}
theorem arr_of{y:tN}(h:(arrTy.deep y).p S w):(bRf y).p S w:=⟨bLr h.1,bLr h.2.1⟩
theorem arrs_of{l:Sl tN}(h:((arrTy.slicec 48).deep l).p S w):(arrE.sl (j0 l) l.list).p S w/\(bE.each l.list bRf).p S w/\l.list.length*48<=140737488355328:=by
 obtain⟨⟨⟨d,c⟩,b⟩,e⟩:=h;exact⟨d,λp a=>arr_of (c p a),b⟩
end
end
section
open Go.RowKit Go.Proofs.Tryz
theorem rightI_imm{i:cA}{k:Int}(hl:xC i=true)(h:gW i=true):gW {i with imm:=k}=true:=by
 obtain⟨op,a,b,c,imm⟩:=i;have hl:op=7\/op=8\/op=9:=of_decide_eq_true hl
 rcases hl with rfl|rfl|rfl<;>simpa[gW,hasN,uR,bDw]using h
theorem rightPc_ins{p:PcV}(h:gS p=true):gW p.ins=true/\(p.to_≠0->xC p.ins=true):=by
 unfold gS at h;split at h
 .cases h
 .rename_i a;refine⟨?_,λh0=>?_⟩
  .cases e:gW p.ins with
   |true=>rfl
   |false=>exact absurd (.inr (.inr e)) a
  .rcases Bool.or_eq_true _ _▸h with h|h
   .exact absurd (of_decide_eq_true h) h0
   .exact(G1 _ _▸h).1
theorem bJd: ∀{l:List PcV} {i:Nat} {m m':mK},marksGo l i m= .ok m'-> ∀p∈l,gS p=true
 |[],_,_,_,_,p,a=>by cases a
 |q::r,i,m,m',h,p,a=>by
  unfold marksGo at h;split at h
  .cases h
  .rename_i hq;split at h
   .cases h
   .rcases C9.1 a with rfl|a
    .simpa using hq
    .exact bJd h p a
theorem yW{m:mK}: ∀{l:List PcV} {i:Nat} {out o:List cA},placeGoL m l i out= .ok o->(∀p∈l,gS p=true)->(∀x∈out,gW x=true)->(∀x∈o,gW x=true)/\o.length=out.length+l.length
 |[],_,out,o,h,_,hx=>by
  cases h;exact⟨hx,n4⟩
 |p::r,i,out,o,h,hl,hx=>by
  have b:=rightPc_ins (hl p (D5 ..));have hr: ∀q∈r,gS q=true:=λq hq=>hl q (D1 _ hq);unfold placeGoL at h;split at h
  .have h1:=yW h hr λx a=>by
    rcases D0.1 a with a|a
    .exact hx x a
    .cases L1.1 a;exact b.1
   refine⟨h1.1,?_⟩;rw[h1.2];simp;omega
  .rename_i h0;split at h
   .cases h
   .have h1:=yW h hr λx a=>by
     rcases D0.1 a with a|a
     .exact hx x a
     .cases L1.1 a;exact rightI_imm (b.2 h0) b.1
    refine⟨h1.1,?_⟩;rw[h1.2];simp;omega
theorem bPx(l:List PcV):(∀x∈mD l,gW x=true)/\(mD l).length<=32768:=by
 have h0:(∀x∈([]:List cA),gW x=true)/\([]:List cA).length<=32768:=⟨λx hx=>(by cases hx),Nat.zero_le _⟩
 unfold mD qY;split
 .rename_i o ho;split at ho
  .cases ho
  .rename_i hl;split at ho
   .cases ho
   .rename_i m a;obtain⟨h1,b⟩:=yW ho (bJd a) h0.1;refine⟨h1,?_⟩;rw[b];simp;omega
 .exact h0
theorem bUy: ∀(l:List bX) (d:Int),0<=d->d<=256->(∀x∈l,x.ops.length<=256)->0<=deepGo l d/\deepGo l d<=256
 |[],d,h0,h1,_=>⟨h0,h1⟩
 |x::r,d,h0,h1,hl=>by
  have hx:=hl x (D5 ..);have hd:=bSo x.ops;unfold deepGo;exact bUy r _ k9 k9 λy a=>hl y (D1 _ a)
theorem refused0{c:dA}{ds:List Int}(h:iB c ds=0):(dX c ds).2=0/\(iK c).2=0:=by
 unfold iB at h;split at h
 .rename_i h1;exact absurd h h1
 .rename_i h1;split at h
  .rename_i a;exact absurd h a
  .rename_i a;exact⟨eS.1 h1,eS.1 a⟩
theorem bOk(c:dA)(ds:List Int):(gF c ds).2=iB c ds:=by
 unfold gF;split
 .rfl
 .rename_i a;exact(eS.1 a).symm
theorem genP_ok{c:dA}{ds:List Int}(h:(gF c ds).2=0):gF c ds=(⟨mD (bNh c ds),(mL c ds).frame+deepGo c.steps 0,(mL c ds).at_⟩,0):=by
 rw[bOk]at h;unfold gF;rw[if_neg (λk=>k h)]
end
section
open Go.RowKit Go.Proofs.Tryz
structure EmS where
 regs:List Int
 mem:List Int
 at_:Int
 end_:Int
 told:Int
 deriving Inhabited
def emReg (s:EmS)(k:Int):Int:=s.regs.getD k.toNat 0
def lT (s:EmS)(k z:Int):EmS:={s with regs:=s.regs.set k.toNat z}
def emDone(how:Int)(s:EmS):EmS×Bool:=({s with end_:=how},false)
def emGo (s:EmS):EmS×Bool:=({s with at_:=s.at_+1},true)
def oA (b:Bool)(i:cA)(s:EmS):EmS×Bool:=if b=true then ({s with at_:=i.imm},true)else emGo s
def emCell(i:cA)(s:EmS):Int:=w64 (emReg s i.b+i.imm)
def uX (i:cA)(s:EmS):Prop:=0<=emCell i s/\emCell i s<(s.mem.length:Nat)
instance (i : cA) (s : EmS) : Decidable (uX i s) := inferInstanceAs (Decidable (_ /\ _))
def bGj (a n:Int):Int:=orW (w64 (a*4294967296)) (n%4294967296)
def emFn (i:cA)(s:EmS):Int×Int:=if 128<=i.op then vJ (i.op-128) (emReg s i.b) (emReg s i.c)else gC (u8m (i.op-64)) (emReg s i.b)
def lN (i:cA)(s:EmS):EmS×Bool:=if (emFn i s).2≠0 then emDone 4 s else emGo (lT s i.a (emFn i s).1)
def emIns (i:cA)(s:EmS):EmS×Bool:=
 if i.op=0 then emDone 1 s
 else if i.op=1 then emDone 2 {s with told:=i.imm}
 else if i.op=2 then emGo (lT s i.a i.imm)
 else if i.op=3 then emGo (lT s i.a (bGj (emReg s i.a) i.imm))
 else if i.op=4 then emGo (lT s i.a (emReg s i.b))
 else if i.op=10 then emGo (lT s i.a (w64 (emReg s i.b+i.imm)))
 else if i.op=5 then (if uX i s then emGo (lT s i.a (s.mem.getD (emCell i s).toNat 0))else emDone 3 s)
 else if i.op=6 then (if uX i s then emGo {s with mem:=s.mem.set (emCell i s).toNat (emReg s i.a)}else emDone 3 s)
 else if i.op=7 then oA true i s
 else if i.op=8 then oA (decide (emReg s i.a<emReg s i.b)) i s
 else if i.op=9 then oA (emReg s i.a==0) i s
 else lN i s
def dH (code:List cA)(s:EmS):EmS×Bool:=
 if s.at_<0\/(code.length:Nat)<=s.at_ then emDone 5 s else emIns (code.getD s.at_.toNat default) s
def emRun (code:List cA):Nat->Nat->EmS->EmS×Nat
 |0,n,s=>({s with end_:=6},n)
 |k+1,n,s=>if (dH code s).2=true then emRun code k (n+1) (dH code s).1 else ((dH code s).1,n+1)
def nU (code:List cA):Nat->EmS->Prop
 |0,_=>False
 |t+1,s=>(dH code s).2=true->nU code t (dH code s).1
section
variable {code : List cA} {s : EmS} {t t' n k : Nat}
theorem ends_le: ∀{t t':Nat} {s:EmS},nU code t s->t<=t'->nU code t' s
 |0,_,_,h,_=>h.elim
 |t+1,0,_,_,hl=>by omega
 |t+1,t'+1,s,h,hl=>λa=>ends_le (h a) k9
theorem ends_one(h:(dH code s).2=false):nU code (t+1) s:=λa=>by rw[h]at a;cases a
def EndQ (r:EmS×Bool):Prop:=r.2=false->r.1.end_≠6
theorem iZ{c:Prop} [Decidable c]{a b:EmS×Bool}(ha:EndQ a)(hb:EndQ b):EndQ (if c then a else b):=by split<;>assumption
theorem sE{h:Int}(e:h≠6):EndQ (emDone h s):=λ_=>e
theorem tT:EndQ (emGo s):=λh=>by cases h
theorem bIr{b:Bool}{i:cA}:EndQ (oA b i s):=by
 unfold oA;exact iZ (λh=>by cases h) tT
theorem ins_end{i:cA}:EndQ (emIns i s):=by
 unfold emIns lN;refine iZ (sE l5) (iZ (sE l5) (iZ tT (iZ tT (iZ tT (iZ tT (iZ (iZ tT (sE l5)) (iZ (iZ tT (sE l5)) (iZ bIr (iZ bIr (iZ bIr (iZ (sE l5) tT)))))))))))
theorem em_step_end(h:(dH code s).2=false):(dH code s).1.end_≠6:=by
 unfold dH at h⊢;split
 .exact(sE (s:=s) (show(5:Int)≠6 by decide)) rfl
 .rename_i a;rw[if_neg a]at h;exact ins_end h
theorem run_ends: ∀{t k n:Nat} {s:EmS},nU code t s->t<=k->(emRun code k n s).1.end_≠6
 |0,_,_,_,h,_=>h.elim
 |t+1,0,_,_,_,hl=>by omega
 |t+1,k+1,n,s,h,hl=>by
  unfold emRun;split
  .rename_i a;exact run_ends (h a) k9
  .rename_i a;exact em_step_end (by simpa using a)
theorem run_most: ∀{k n:Nat} {s:EmS},(emRun code k n s).2<=n+k
 |0,_,_=>by simp[emRun]
 |k+1,n,s=>by
  unfold emRun;split
  .have:= @run_most k (n+1) (dH code s).1;omega
  .show n+1<=_;omega
end
theorem look_set(k z:Int): ∀m:mK,gX k (bIc k z m)=some z
 |[]=>by simp[bIc,gX]
 |p::r=>by
  unfold bIc;split
  .simp[gX]
  .rename_i h;rw[gX,if_neg h,look_set k z r]
theorem bJu{j k z:Int}(h:j≠k): ∀m:mK,gX j (bIc k z m)=gX j m
 |[]=>by simp[bIc,gX,h]
 |p::r=>by
  unfold bIc;split
  .rename_i e;have e:k=p.1:=eq_of_beq e;have h1: ¬(j==k)=true:=by simpa using h
   have a: ¬(j==p.1)=true:=by rw[<-e];exact h1
   rw[gX,gX,if_neg h1,if_neg a]
  .rw[gX,gX,bJu h r]
theorem yH{j k:Int}(h:j≠k): ∀m:mK,gX j (delK k m)=gX j m
 |[]=>rfl
 |p::r=>by
  unfold delK;split
  .rename_i e;have e:k=p.1:=eq_of_beq e;rw[gX,if_neg (by rw[<-e];simpa using h)]
  .rw[gX,gX,yH h r]
theorem bJn: ∀{l:List PcV} {i:Nat} {m m':mK},marksGo l i m= .ok m'->(∀k z,k≠0->gX k m=some z->gX k m'=some z)/\ ∀j p,l[j]?=some p->p.mark≠0->gX p.mark m'=some ((i+j:Nat):Int)
 |[],i,m,m',h=>by
  cases h;exact⟨λ_ _ _ h=>h,λj p a=>by cases a⟩
 |q::r,i,m,m',h=>by
  unfold marksGo at h;split at h
  .cases h
  .split at h
   .cases h
   .rename_i hn;obtain⟨h1,d⟩:=bJn h;refine⟨λk z hk hz=>h1 k z hk ?_,λj p a c=>?_⟩
    .have b:k≠q.mark:=λe=>by rw[e]at hz;rw[hz]at hn;cases hn
     rw[yH hk,bJu b];exact hz
    .cases j with
     |zero=>
      cases a;exact h1 _ _ c (by rw[yH c,look_set];rfl)
     |succ j=>
      have:=d j p a c;rw[this]
      congr 2
      omega
theorem bJb{m:mK}: ∀{l:List PcV} {i:Nat} {out o:List cA},placeGoL m l i out= .ok o->(∀(j:Nat) (x:cA),out[j]?=some x->o[j]?=some x)/\ ∀(j:Nat) (p:PcV),l[j]?=some p->(p.to_=0/\o[out.length+j]?=some p.ins)\/p.to_≠0/\ ∃k,gX p.to_ m=some k/\o[out.length+j]?=some {p.ins with imm:=w32 k}
 |[],_,out,o,h=>by
  cases h;exact⟨λ_ _ h=>h,λj p c=>by cases c⟩
 |p::r,i,out,o,h=>by
  have key: ∀{y:cA} {o:List cA},placeGoL m r (i+1) (out++[y])= .ok o->(∀(j:Nat) (x:cA),out[j]?=some x->o[j]?=some x)/\o[out.length]?=some y/\ ∀(j:Nat) (q:PcV),r[j]?=some q->(q.to_=0/\o[out.length+(j+1)]?=some q.ins)\/q.to_≠0/\ ∃k,gX q.to_ m=some k/\o[out.length+(j+1)]?=some {q.ins with imm:=w32 k}:=λ{y o} h=>by
   obtain⟨h1,a⟩:=bJb h;refine⟨λj x hx=>h1 j x ?_,h1 _ _ n4,λj q hq=>?_⟩
   .rw[List.getElem?_append_left (D9.1 hx).1];exact hx
   .have:=a j q hq;rw[List.length_append,List.length_singleton,show out.length+1+j=out.length+(j+1) by omega]at this;exact this
  unfold placeGoL at h;split at h
  .rename_i h0;obtain⟨h1,a,b⟩:=key h;refine⟨h1,λj q hq=>?_⟩
   cases j with
   |zero=>cases hq;exact .inl ⟨h0,a⟩
   |succ j=>exact b j q hq
  .rename_i h0;split at h
   .cases h
   .rename_i k hk;obtain⟨h1,a,b⟩:=key h;refine⟨h1,λj q hq=>?_⟩
    cases j with
    |zero=>cases hq;exact .inr ⟨h0,k,hk,a⟩
    |succ j=>exact b j q hq
structure bGc (L:List PcV) (code:List cA):Prop where
 len:code.length<=32768
 plain: ∀(j:Nat) (p:PcV),L[j]?=some p->p.to_=0->code[j]?=some p.ins
 lead: ∀(j:Nat) (p:PcV) (i:Nat) (q:PcV),L[j]?=some p->p.to_≠0->L[i]?=some q->q.mark=p.to_->code[j]?=some {p.ins with imm:=(i:Nat)}
theorem link_ok{L:List PcV}:mD L=[]\/bGc L (mD L):=by
 have hl:=(bPx L).2;unfold mD at hl⊢;split
 .rename_i o ho;refine .inr ?_;rw[ho]at hl;have hl:o.length<=32768:=hl;unfold qY at ho;split at ho
  .cases ho
  .rename_i l;split at ho
   .cases ho
   .rename_i m f;obtain⟨_,h1⟩:=bJn f;obtain⟨_,c⟩:=bJb ho;refine⟨hl,λj p b h0=>?_,λj p i q b h0 hq e=>?_⟩
    .rcases c j p b with ⟨_,h⟩|⟨h,_⟩
     .simpa using h
     .exact absurd h0 h
    .rcases c j p b with ⟨h,_⟩|⟨_,k,hk,h⟩
     .exact absurd h h0
     .have a:=h1 i q hq (by rw[e];exact h0);rw[e,hk]at a;injection a with a
      have g:i<L.length:=(D9.1 hq).1;rw[a]at h;have d:w32 ((0+i:Nat):Int)=(i:Nat):=by unfold w32;omega
      rw[d]at h
      simpa using h
 .exact .inl rfl
end
section
open Go.RowKit Go.ChangeShapes Go.WideShapes Go.Proofs.Tryz
def emuT:Tab:=[(3,⟨.int .i64,1⟩),(2,⟨.int .i64,1⟩),(5,⟨.int .u8,1⟩),(4,⟨.bool,1⟩),(77,⟨.int .u8,1⟩),(32,⟨.int .i64,1⟩),(43,⟨.slice 111,1⟩),(42,⟨.slice 43,1⟩),(172,⟨.struct [(3,0),(3,1),(2,2),(43,3),(77,4)],5⟩),(78,⟨.slice 172,1⟩),(95,⟨.struct [(42,0),(3,1)],2⟩),(22,⟨.slice 95,1⟩),(80,⟨.struct [(3,0),(3,1),(43,2),(42,3),(77,4),(78,5)],6⟩),(23,⟨.slice 80,1⟩),(24,⟨.slice 3,1⟩),(99,⟨.slice 4,1⟩),(26,⟨.struct [(3,0),(22,1),(23,2),(24,3)],4⟩),(114,⟨.struct [(3,0),(3,1)],2⟩),(97,⟨.slice 114,1⟩),(201,⟨.struct [(3,0),(3,1),(3,2),(99,3)],4⟩),(27,⟨.slice 2,1⟩),(75,⟨.struct [(27,0),(27,1)],2⟩),(37,⟨.slice 75,1⟩),(21,⟨.int .i32,1⟩),(52,⟨.struct [(5,0),(5,1),(5,2),(5,3),(21,4)],5⟩),(184,⟨.struct [(3,0),(52,1),(3,6)],7⟩),(29,⟨.slice 52,1⟩),(83,⟨.slice 184,1⟩),(85,⟨.struct [(83,0),(3,1),(3,2),(3,3),(2,4),(26,5),(27,9),(27,10),(27,11)],12⟩),(45,⟨.struct [(42,0),(43,1)],2⟩),(31,⟨.struct [(29,0),(3,1),(27,2)],3⟩),(59,⟨.struct [(57,0),(27,16),(3,17),(3,18),(21,19)],20⟩),(125,⟨.struct [(59,0),(29,20)],21⟩),(57,⟨.array 16 2,16⟩),(225,⟨.int .u32,1⟩),(122,⟨.other,1⟩),(50,⟨.other,1⟩)]
theorem tP:dU prog emuT:=tA.ok
 ⟨⟨by rw[underlying3];rfl,l4⟩,
  ⟨by rw[underlying2];rfl,l4⟩,
  ⟨by rw[underlying5];rfl,l4⟩,
  ⟨by rw[underlying4];rfl,l4⟩,
  ⟨by rw[underlying77];rfl,l4⟩,
  ⟨by rw[underlying32];rfl,l4⟩,
  ⟨by rw[underlying43];rfl,l4⟩,
  ⟨by rw[underlying42];rfl,l4⟩,
  ⟨by rw[underlying172];rfl,l4⟩,
  ⟨by rw[underlying78];rfl,l4⟩,
  ⟨by rw[underlying95];rfl,l4⟩,
  ⟨by rw[underlying22];rfl,l4⟩,
  ⟨by rw[underlying80];rfl,l4⟩,
  ⟨by rw[underlying23];rfl,l4⟩,
  ⟨by rw[underlying24];rfl,l4⟩,
  ⟨by rw[underlying99];rfl,l4⟩,
  ⟨by rw[underlying26];rfl,l4⟩,
  ⟨by rw[underlying114];rfl,l4⟩,
  ⟨by rw[underlying97];rfl,l4⟩,
  ⟨by rw[underlying201];rfl,l4⟩,
  ⟨by rw[underlying27];rfl,l4⟩,
  ⟨by rw[underlying75];rfl,l4⟩,
  ⟨by rw[underlying37];rfl,l4⟩,
  ⟨by rw[underlying21];rfl,l4⟩,
  ⟨by rw[underlying52];rfl,l4⟩,
  ⟨by rw[underlying184];rfl,l4⟩,
  ⟨by rw[underlying29];rfl,l4⟩,
  ⟨by rw[underlying83];rfl,l4⟩,
  ⟨by rw[underlying85];rfl,l4⟩,
  ⟨by rw[underlying45];rfl,l4⟩,
  ⟨by rw[underlying31];rfl,l4⟩,
  ⟨by rw[underlying59];rfl,l4⟩,
  ⟨by rw[underlying125];rfl,l4⟩,
  ⟨by rw[underlying57];rfl,l4⟩,
  ⟨by rw[underlying225];rfl,l4⟩,
  ⟨by rw[underlying122];rfl,l4⟩,
  ⟨by rw[underlying50];rfl,l4⟩,e8⟩
def emL (s:EmS)(m:Option Addr×Nat×Nat)(k:Option Addr×Nat×Nat):List Value:=[.int .i64 (s.regs.getD 0 0),.int .i64 (s.regs.getD 1 0),.int .i64 (s.regs.getD 2 0),.int .i64 (s.regs.getD 3 0),.int .i64 (s.regs.getD 4 0),.int .i64 (s.regs.getD 5 0),.int .i64 (s.regs.getD 6 0),.int .i64 (s.regs.getD 7 0),.int .i64 (s.regs.getD 8 0),.int .i64 (s.regs.getD 9 0),.int .i64 (s.regs.getD 10 0),.int .i64 (s.regs.getD 11 0),.int .i64 (s.regs.getD 12 0),.int .i64 (s.regs.getD 13 0),.int .i64 (s.regs.getD 14 0),.int .i64 (s.regs.getD 15 0),.slice m.1 m.2.1 m.2.2,.int .i64 s.at_,.int .i64 s.end_,.int .i32 s.told,.slice k.1 k.2.1 k.2.2]
def emO (mb:Nat)(s:EmS)(m:Option Addr×Nat×Nat)(k:Option Addr×Nat×Nat):bC:= .obj mb (.cells (emL s m k).toArray 125)
def emM (s:EmS)(m:Option Addr×Nat×Nat):bC:=cK.row (.slice m.1 m.2.1 m.2.2) 2 s.mem
section
variable {s : EmS} {m : Option Addr × Nat × Nat} {k : Option Addr × Nat × Nat} {j : Nat} {a z : Int}
theorem sM(h:j<16):((emL s m k).drop (0+j*1))[0]?=some (j5 (s.regs.getD j 0)):=by
 rw[Nat.zero_add,eO]
 match j,h with
 |0,_=>rfl
 |1,_=>rfl
 |2,_=>rfl
 |3,_=>rfl
 |4,_=>rfl
 |5,_=>rfl
 |6,_=>rfl
 |7,_=>rfl
 |8,_=>rfl
 |9,_=>rfl
 |10,_=>rfl
 |11,_=>rfl
 |12,_=>rfl
 |13,_=>rfl
 |14,_=>rfl
 |15,_=>rfl
 |j+16,h=>omega
theorem bCi(hr:s.regs.length=16)(h:j<16)(ha:a.toNat=j):rP (emL s m k) (0+j*1) [j5 z]=some (emL (lT s a z) m k):=by
 obtain⟨regs,mem,at_,c,b⟩:=s;unfold lT;rw[ha,Nat.zero_add,eO]
 match regs,hr with
 |[r0,r1,r2,r3,r4,r5,r6,r7,r8,r9,r10,r11,r12,r13,r14,r15],_=>
  match j,h with
  |0,_=>rfl
  |1,_=>rfl
  |2,_=>rfl
  |3,_=>rfl
  |4,_=>rfl
  |5,_=>rfl
  |6,_=>rfl
  |7,_=>rfl
  |8,_=>rfl
  |9,_=>rfl
  |10,_=>rfl
  |11,_=>rfl
  |12,_=>rfl
  |13,_=>rfl
  |14,_=>rfl
  |15,_=>rfl
  |j+16,h=>omega
end
end
section
open Go.RowKit Go.Proofs.Tryz
structure CasV where
 c:gD
 dims:(Sl Int)
 ins:(Sl tN)
 deriving Inhabited
def casE:Flat CasV where
 size:=6
 cells:=λx=>[.int .i64 x.c.vars,.slice x.c.bufs.addr x.c.bufs.list.length x.c.bufs.cap,.slice x.c.steps.addr x.c.steps.list.length x.c.steps.cap,.slice x.c.outs.addr x.c.outs.list.length x.c.outs.cap,.slice x.dims.addr x.dims.list.length x.dims.cap,.slice x.ins.addr x.ins.list.length x.ins.cap]
 len:=λ_=>rfl
 one:=λx u hu=>by
  simp at hu
  rcases hu with rfl|rfl|rfl|rfl|rfl|rfl<;>rfl
 pos:=l5
def gcT:Tab:=[(3,⟨.int .i64,1⟩),(2,⟨.int .i64,1⟩),(5,⟨.int .u8,1⟩),(4,⟨.bool,1⟩),(77,⟨.int .u8,1⟩),(32,⟨.int .i64,1⟩),(43,⟨.slice 111,1⟩),(42,⟨.slice 43,1⟩),(172,⟨.struct [(3,0),(3,1),(2,2),(43,3),(77,4)],5⟩),(78,⟨.slice 172,1⟩),(95,⟨.struct [(42,0),(3,1)],2⟩),(22,⟨.slice 95,1⟩),(80,⟨.struct [(3,0),(3,1),(43,2),(42,3),(77,4),(78,5)],6⟩),(23,⟨.slice 80,1⟩),(24,⟨.slice 3,1⟩),(99,⟨.slice 4,1⟩),(26,⟨.struct [(3,0),(22,1),(23,2),(24,3)],4⟩),(114,⟨.struct [(3,0),(3,1)],2⟩),(97,⟨.slice 114,1⟩),(201,⟨.struct [(3,0),(3,1),(3,2),(99,3)],4⟩),(27,⟨.slice 2,1⟩),(75,⟨.struct [(27,0),(27,1)],2⟩),(37,⟨.slice 75,1⟩),(21,⟨.int .i32,1⟩),(52,⟨.struct [(5,0),(5,1),(5,2),(5,3),(21,4)],5⟩),(184,⟨.struct [(3,0),(52,1),(3,6)],7⟩),(29,⟨.slice 52,1⟩),(83,⟨.slice 184,1⟩),(85,⟨.struct [(83,0),(3,1),(3,2),(3,3),(2,4),(26,5),(27,9),(27,10),(27,11)],12⟩),(45,⟨.struct [(42,0),(43,1)],2⟩),(31,⟨.struct [(29,0),(3,1),(27,2)],3⟩),(59,⟨.struct [(57,0),(27,16),(3,17),(3,18),(21,19)],20⟩),(125,⟨.struct [(59,0),(29,20)],21⟩),(54,⟨.struct [(26,0),(27,4),(37,5)],6⟩),(57,⟨.array 16 2,16⟩)]
theorem gcT_ok:dU prog gcT:=tA.ok
 ⟨⟨by rw[underlying3];rfl,l4⟩,
  ⟨by rw[underlying2];rfl,l4⟩,
  ⟨by rw[underlying5];rfl,l4⟩,
  ⟨by rw[underlying4];rfl,l4⟩,
  ⟨by rw[underlying77];rfl,l4⟩,
  ⟨by rw[underlying32];rfl,l4⟩,
  ⟨by rw[underlying43];rfl,l4⟩,
  ⟨by rw[underlying42];rfl,l4⟩,
  ⟨by rw[underlying172];rfl,l4⟩,
  ⟨by rw[underlying78];rfl,l4⟩,
  ⟨by rw[underlying95];rfl,l4⟩,
  ⟨by rw[underlying22];rfl,l4⟩,
  ⟨by rw[underlying80];rfl,l4⟩,
  ⟨by rw[underlying23];rfl,l4⟩,
  ⟨by rw[underlying24];rfl,l4⟩,
  ⟨by rw[underlying99];rfl,l4⟩,
  ⟨by rw[underlying26];rfl,l4⟩,
  ⟨by rw[underlying114];rfl,l4⟩,
  ⟨by rw[underlying97];rfl,l4⟩,
  ⟨by rw[underlying201];rfl,l4⟩,
  ⟨by rw[underlying27];rfl,l4⟩,
  ⟨by rw[underlying75];rfl,l4⟩,
  ⟨by rw[underlying37];rfl,l4⟩,
  ⟨by rw[underlying21];rfl,l4⟩,
  ⟨by rw[underlying52];rfl,l4⟩,
  ⟨by rw[underlying184];rfl,l4⟩,
  ⟨by rw[underlying29];rfl,l4⟩,
  ⟨by rw[underlying83];rfl,l4⟩,
  ⟨by rw[underlying85];rfl,l4⟩,
  ⟨by rw[underlying45];rfl,l4⟩,
  ⟨by rw[underlying31];rfl,l4⟩,
  ⟨by rw[underlying59];rfl,l4⟩,
  ⟨by rw[underlying125];rfl,l4⟩,
  ⟨by rw[underlying54];rfl,l4⟩,
  ⟨by rw[underlying57];rfl,l4⟩,e8⟩
end
section
open Go.RowKit Go.ChangeShapes Go.WideShapes Go.Proofs.Tryz
def casTy:Ty CasV:=⟨casE,λx=>(coreTy.deep x.c).and ((((bDz.slicec 8)).deep x.dims).and ((((arrTy.slicec 48)).deep x.ins).and (bE.true)))⟩
theorem opens_cas{H:Type}{enc:TypeId×Value->H}{w:World}:qW enc prog w 54 casE.cells casTy.deep:=λu B x h i=>by
 obtain⟨d,n,_,rfl,c,g,k⟩:=DataW.trod_struct underlying54 h;have v:prog.cellsOf 54=6:=l4
 rw[v]at c;have s:d.length=3:=g
 match B,c with
 |[c0,c1,c2,c3,c4,c5],_=>
  have h0:DataW.trod enc prog w 0 (λ_=>true) true n 26 (([c0,c1,c2,c3,c4,c5].drop 0).take (prog.cellsOf 26))=d[0]?:=k 0 _ rfl;have h1:DataW.trod enc prog w 0 (λ_=>true) true n 27 (([c0,c1,c2,c3,c4,c5].drop 4).take (prog.cellsOf 27))=d[1]?:=k 1 _ rfl;have t:DataW.trod enc prog w 0 (λ_=>true) true n 37 (([c0,c1,c2,c3,c4,c5].drop 5).take (prog.cellsOf 37))=d[2]?:=k 2 _ rfl;rw[D7 k9]at h0;obtain⟨a,o,A⟩:=opens_core _ _ _ h0 (cE underlying54 i (j:=0) rfl (by rw[I7,D7 k9];rfl))
  have r:[c0,c1,c2,c3]=[.int .i64 a.vars,.slice a.bufs.addr a.bufs.list.length a.bufs.cap,.slice a.steps.addr a.steps.list.length a.steps.cap,.slice a.outs.addr a.outs.list.length a.outs.cap]:=by
   have hk:prog.cellsOf 26=4:=l4
   rw[hk]at o;exact o
  clear o;simp only[List.cons.injEq,and_true]at r;rw[D7 k9]at h1;obtain⟨f,m,z⟩:=(lM underlying27 (fE (T:=bDz) (b:=8) underlying27 l4 l4 (iP underlying2))) _ _ _ h1 (cE underlying54 i (j:=1) rfl (by rw[I7,D7 k9];rfl))
  have q:[c4]=[.slice f.addr f.list.length f.cap]:=by
   have hk:prog.cellsOf 27=1:=l4
   rw[hk]at m;exact m
  clear m;simp only[List.cons.injEq,and_true]at q;rw[D7 k9]at t;obtain⟨e,l,y⟩:=(lM underlying37 (fE (T:=arrTy) (b:=48) underlying37 l4 l4 opens_arr)) _ _ _ t (cE underlying54 i (j:=2) rfl (by rw[I7,D7 k9];rfl))
  have p:[c5]=[.slice e.addr e.list.length e.cap]:=by
   have hk:prog.cellsOf 37=1:=l4
   rw[hk]at l;exact l
  clear l;simp only[List.cons.injEq,and_true]at p;obtain⟨rfl,rfl,rfl,rfl⟩:=r;obtain rfl:=q;obtain rfl:=p;exact⟨⟨a,f,e⟩,rfl,A,z,y,e8⟩
section
variable {S : Nat -> Prop} {w : World}
theorem cas_of{x:CasV}(h:(casTy.deep x).p S w):(oJ x.c).p S w/\(bIx x.dims).p S w/\((arrE.sl (j0 x.ins) x.ins.list).p S w/\(bE.each x.ins.list bRf).p S w/\x.ins.list.length*48<=140737488355328):=⟨core_of h.1,bLr h.2.1,arrs_of h.2.2.1⟩
end
end
section
open Go.RowKit Go.Proofs.Tryz
def Ru (code:List cA)(m p:Nat)(v:Nat->Int)(t:Nat):Prop:= ∀s:EmS,s.at_=(p:Nat)->s.regs.length=16->(∀k,1<=k->k<=m->s.regs.getD k 0=v k)->nU code t s
def nY (v:Nat->Int)(k:Nat)(z:Int):Nat->Int:=λj=>if j=k then z else v j
def tI (L:List PcV)(q k:Nat):Prop:= ∃p,L[q]?=some p/\p.mark=(k:Nat)
def sU (L:List PcV)(code:List cA)(f:Nat):Prop:=f≠0/\ ∃q,tI L q f/\ ∀m v,Ru code m q v 1
def dG (L:List PcV)(s:GnS):Prop:=(∃r,L=s.l++r)/\(s.next≠0->tI L s.l.length s.next)
theorem oZ{R:List Int}{a k:Nat}{z:Int}(h:a≠k):(R.set a z).getD k 0=R.getD k 0:=by
 rw[U5,U5,List.getElem?_set_ne h]
theorem uK{R:List Int}{k:Nat}{z:Int}(h:k<R.length):(R.set k z).getD k 0=z:=by
 rw[U5,List.getElem?_set_self h];rfl
section
variable {L : List PcV} {code : List cA} {m p q k t t' f : Nat} {v : Nat -> Int} {s : GnS} {i : cA}
theorem Ru.le(h:Ru code m p v t)(hl:t<=t'):Ru code m p v t':=λs a b c=>ends_le (h s a b c) hl
theorem Ru.less{m':Nat}(h:Ru code m p v t)(hm:m<=m'):Ru code m' p v t:=λs a b c=>h s a b λk h1 d=>c k h1 k9
theorem Ru.congr{v':Nat->Int}(h:Ru code m p v t)(e: ∀k,1<=k->k<=m->v' k=v k):Ru code m p v' t:=λs a b c=>h s a b λk h1 d=>(c k h1 d).trans (e k h1 d)
theorem nl2:(2:Int)≠7/\(2:Int)≠8/\(2:Int)≠9:=l5
theorem nl3:(3:Int)≠7/\(3:Int)≠8/\(3:Int)≠9:=l5
theorem nl4:(4:Int)≠7/\(4:Int)≠8/\(4:Int)≠9:=l5
theorem nl5:(5:Int)≠7/\(5:Int)≠8/\(5:Int)≠9:=l5
theorem nl6:(6:Int)≠7/\(6:Int)≠8/\(6:Int)≠9:=l5
theorem nl10:(10:Int)≠7/\(10:Int)≠8/\(10:Int)≠9:=l5
theorem xG{e:EmS}(hc:code[p]?=some i)(ha:e.at_=(p:Nat)):dH code e=emIns i e:=by
 have a:=(D9.1 hc).1;unfold dH;rw[if_neg k9,ha,G2,U5,hc];rfl
def DatQ (m:Nat)(e:EmS)(r:EmS×Bool):Prop:=r.2=true->r.1.at_=e.at_+1/\r.1.regs.length=e.regs.length/\ ∀k,1<=k->k<=m->r.1.regs.getD k 0=e.regs.getD k 0
theorem lY{e:EmS}{c:Prop} [Decidable c]{a b:EmS×Bool}(ha:DatQ m e a)(hb:DatQ m e b):DatQ m e (if c then a else b):=by split<;>assumption
theorem vS{e x:EmS}{h:Int}:DatQ m e (emDone h x):=λh=>by cases h
theorem vH{e:EmS}{a z:Int}(ha:(m:Int)<a):DatQ m e (emGo (lT e a z)):=λ_=>⟨rfl,by show(e.regs.set _ _).length=_;rw[P6],λk _ b=>oZ k9⟩
theorem bHb{e:EmS}{i:cA}{b:Bool}{c:Prop} [Decidable c]{x:EmS×Bool}(hc: ¬c)(hx:DatQ m e x):DatQ m e (if c then oA b i e else x):=by rw[if_neg hc];exact hx
theorem ins_data{e:EmS}(h:i.op≠7/\i.op≠8/\i.op≠9)(ha:(m:Int)<i.a):DatQ m e (emIns i e):=by
 unfold emIns lN;exact lY vS (lY vS (lY (vH ha) (lY (vH ha) (lY (vH ha) (lY (vH ha) (lY (lY (vH ha) vS) (lY (lY (λ_=>⟨rfl,rfl,λ_ _ _=>rfl⟩) vS) (bHb h.1 (bHb h.2.1 (bHb h.2.2 (lY vS (vH ha))))))))))))
section
variable (hk : bGc L code)
include hk
theorem ru_data{mk:Int}(hp:L[p]?=some ⟨mk,i,0⟩)(h:i.op≠7/\i.op≠8/\i.op≠9)(ha:(m:Int)<i.a)(hn:Ru code m (p+1) v t):Ru code m p v (t+1):=λe h1 l j g=>by
 rw[xG (hk.plain p _ hp rfl) h1]at g⊢;obtain⟨a,b,c⟩:=ins_data h ha g;exact hn _ (by rw[a,h1];rfl) (b.trans l) λk f d=>(c k f d).trans (j k f d)
theorem ru_const{mk:Int}{z:Int}(hp:L[p]?=some ⟨mk,⟨2,(k:Nat),0,0,z⟩,0⟩)(hm:k<16)(hn:Ru code m (p+1) (nY v k z) t):Ru code m p v (t+1):=λe h1 f d g=>by
 rw[xG (hk.plain p _ hp rfl) h1];refine hn (emGo (lT e (k:Nat) z)).1 (by show e.at_+1=_;rw[h1];rfl) (by show(e.regs.set _ _).length=_;rw[P6];exact f) λj c b=>?_;show(e.regs.set ((k:Nat):Int).toNat z).getD j 0=if j=k then z else v j
 rw[G2];split
 .rename_i a;rw[a];exact uK k9
 .rename_i a;rw[oZ (λe=>a e.symm)];exact d j c b
theorem bLm{mk dst:Nat}(hp:L[p]?=some ⟨(mk:Nat),i,(dst:Nat)⟩)(h0:dst≠0)(ho:i.op=7\/i.op=8\/i.op=9)(hq:tI L q dst)(h:Ru code m q v t)(hn:i.op≠7->Ru code m (p+1) v t):Ru code m p v (t+1):=λe h1 f d o=>by
 obtain⟨x,hx,k⟩:=hq;have l:=hk.lead p _ q x hp (by show((dst:Nat):Int)≠0;omega) hx k;rw[xG l h1];obtain⟨op,a,b,c,g⟩:=i
 have key: ∀w:Bool,(w=false->op≠7)->nU code t (oA w ⟨op,a,b,c,(q:Nat)⟩ e).1:=λw j=>by
  unfold oA;split
  .exact h _ rfl f d
  .rename_i n;exact hn (j (by simpa using n)) _ (by show e.at_+1=_;rw[h1];rfl) f d
 rcases ho with rfl|rfl|rfl
 .exact key true λh=>by cases h
 .exact key _ λ_=>by decide
 .exact key _ λ_=>by decide
theorem ru_again{m1 m2 m3:Int}{dst:Nat}{n:Int}(hp1:L[p]?=some ⟨m1,⟨10,(k:Nat),(k:Nat),0,1⟩,0⟩)(hp2:L[p+1]?=some ⟨m2,⟨2,6,0,0,n⟩,0⟩)(hp3:L[p+2]?=some ⟨m3,⟨8,(k:Nat),6,0,0⟩,(dst:Nat)⟩)(h0:dst≠0)(hq:tI L q dst)
  (hk1:1<=k) (hkm:k<=m) (hm:m<=5) (hv:0<=v k/\v k<=100000) (h:v k+1<n->Ru code m q (nY v k (v k+1)) t) (hn: ¬v k+1<n->Ru code m (p+3) (nY v k (v k+1)) t):Ru code m p v (t+3):=λe h1 o l E=>by
 obtain⟨x,hx,f⟩:=hq;have A:=hk.lead (p+2) _ q x hp3 (by show((dst:Nat):Int)≠0;omega) hx f
 have z:w64 (emReg e (k:Nat)+1)=v k+1:=by
  have:emReg e (k:Nat)=v k:=by unfold emReg;rw[G2];exact l k hk1 hkm
  rw[this];exact rn_w64 k9 k9
 rw[xG (hk.plain p _ hp1 rfl) h1];show nU code (t+2) (emGo (lT e (k:Nat) (w64 (emReg e (k:Nat)+1)))).1;rw[z];generalize b:(emGo (lT e (k:Nat) (v k+1))).1=e1;have s:e1.at_=((p+1:Nat):Int):=by rw[<-b];show e.at_+1=_;rw[h1];rfl
 have u:e1.regs=e.regs.set k (v k+1):=by rw[<-b];show e.regs.set ((k:Nat):Int).toNat _=_;rw[G2]
 intro C;rw[xG (hk.plain (p+1) _ hp2 rfl) s];show nU code (t+1) (emGo (lT e1 6 n)).1;generalize a:(emGo (lT e1 6 n)).1=e2;have r:e2.at_=((p+2:Nat):Int):=by rw[<-a];show e1.at_+1=_;rw[s];rfl
 have d:e2.regs=(e.regs.set k (v k+1)).set 6 n:=by rw[<-a];show e1.regs.set (6:Int).toNat n=_;rw[u];rfl
 have i:e2.regs.length=16:=by rw[d,P6,P6];exact o
 have c: ∀j,1<=j->j<=m->e2.regs.getD j 0=nY v k (v k+1) j:=λj y w=>by
  rw[d,oZ k9];show _=if j=k then v k+1 else v j
  split
  .rename_i g;rw[g];exact uK k9
  .rename_i g;rw[oZ (λe=>g e.symm)];exact l j y w
 intro B;rw[xG A r];show nU code t (oA (decide (emReg e2 (k:Nat)<emReg e2 6)) _ e2).1
 have D:emReg e2 (k:Nat)=v k+1:=by
  unfold emReg;rw[G2,c k hk1 hkm];exact if_pos rfl
 have g2:emReg e2 6=n:=by
  unfold emReg;rw[d];exact uK (by rw[P6,o];decide)
 rw[D,g2];unfold oA;split
 .rename_i hb;exact h (of_decide_eq_true hb) _ rfl i c
 .rename_i hb;exact hn (λhlt=>hb (decide_eq_true hlt)) _ (by show e2.at_+1=_;rw[r];rfl) i c
end
theorem lP{dst:Nat}(h:dG L (dL i dst s)):dG L s/\L[s.l.length]?=some ⟨(s.next:Nat),i,(dst:Nat)⟩:=by
 obtain⟨⟨r,hr⟩,_⟩:=h;have hr:L=(s.l++[⟨(s.next:Nat),i,(dst:Nat)⟩])++r:=hr
 have hg:L[s.l.length]?=some ⟨(s.next:Nat),i,(dst:Nat)⟩:=by
  rw[hr,aU,List.getElem?_append_right (Nat.le_refl _)];simp
 exact⟨⟨⟨_,by rw[hr,aU]⟩,λ_=>⟨_,hg,rfl⟩⟩,hg⟩
theorem iW{dst:Nat}:(dL i dst s).l.length=s.l.length+1:=by simp[dL]
theorem bPo(h:s.next=0):hereG k s=xZ k s:=by
 unfold hereG;rw[if_neg k9]
theorem oW(h:dG L (xZ k s))(h0:s.next=0):dG L s:=⟨h.1,λe=>absurd h0 e⟩
theorem ext_here(h:dG L (hereG k s))(h0:k≠0):dG L s/\tI L (hereG k s).l.length k:=by
 refine⟨?_,h.2 h0⟩;unfold hereG at h;split at h
 .exact(lP (oW h rfl)).1
 .exact oW h k9
section
variable (hk : bGc L code)
include hk
theorem sY(hE:dG L (dL i 0 s))(h:i.op≠7/\i.op≠8/\i.op≠9)(ha:(m:Int)<i.a)(hn:Ru code m (dL i 0 s).l.length v t):dG L s/\Ru code m s.l.length v (t+1):=by
 obtain⟨h1,b⟩:=lP hE;rw[iW]at hn;exact⟨h1,ru_data hk b h ha hn⟩
theorem ru_jump(hE:dG L (mJ k s))(h0:k≠0)(hq:tI L q k)(hn:Ru code m q v t):dG L s/\Ru code m s.l.length v (t+1):=by
 obtain⟨h1,a⟩:=lP hE;exact⟨h1,bLm hk a h0 (.inl rfl) hq hn λh=>absurd rfl h⟩
theorem ru_fail(hE:dG L (mJ f s))(hF:sU L code f)(ht:1<=t):dG L s/\Ru code m s.l.length v (t+1):=by
 obtain⟨h0,q,hq,hr⟩:=hF;exact ru_jump hk hE h0 hq ((hr m v).le ht)
theorem ru_lessF{a b:Int}(hE:dG L (pL a b f s))(hF:sU L code f)(ht:1<=t)(hn:Ru code m (pL a b f s).l.length v t):dG L s/\Ru code m s.l.length v (t+1):=by
 obtain⟨h0,q,hq,hr⟩:=hF;obtain⟨h1,c⟩:=lP hE;rw[show(pL a b f s).l.length=s.l.length+1 from iW]at hn;exact⟨h1,bLm hk c h0 (.inr (.inl rfl)) hq ((hr m v).le ht) λ_=>hn⟩
theorem ru_num{a n:Int}(hE:dG L (numG a n s))(ha:(m:Int)<a)(hn:Ru code m (numG a n s).l.length v t):dG L s/\Ru code m s.l.length v (t+2):=by
 unfold numG at hE hn;split at hE
 .rename_i b;rw[if_pos b]at hn;obtain⟨h1,c⟩:=sY hk hE nl2 ha hn;exact⟨h1,c.le k9⟩
 .rename_i b;rw[if_neg b]at hn;obtain⟨h1,c⟩:=sY hk hE nl3 ha hn;exact sY hk h1 nl2 ha c
theorem ru_num1{a n:Int}(hE:dG L (numG a n s))(hs:w32 n=n)(ha:(m:Int)<a)(hn:Ru code m (numG a n s).l.length v t):dG L s/\Ru code m s.l.length v (t+1):=by
 unfold numG at hE hn;rw[if_pos hs]at hE hn;exact sY hk hE nl2 ha hn
theorem ru_get{fr sp:Int}(hE:dG L (kT fr k sp s))(ha:(m:Int)<sp)(hn:Ru code m (kT fr k sp s).l.length v t):dG L s/\Ru code m s.l.length v (t+1):=by
 unfold kT at hE hn;split at hE
 .rename_i a;rw[if_pos a]at hn;exact⟨hE,hn.le k9⟩
 .rename_i a;rw[if_neg a]at hn;exact sY hk hE nl5 ha hn
omit hk in
def IntoR (L:List PcV)(code:List cA)(m:Nat)(I:Int->GnS->GnS)(c:Nat):Prop:= ∀(a:Int) (s:GnS) (v:Nat->Int) (t:Nat),(m:Int)<a->dG L (I a s)->Ru code m (I a s).l.length v t->dG L s/\Ru code m s.l.length v (t+c)
theorem bHt{fr:Int}{I:Int->GnS->GnS}{c:Nat}(hI:IntoR L code m I c)(hm:m<=5)(hE:dG L (jU fr k I s))(hn:Ru code m (jU fr k I s).l.length v t):dG L s/\Ru code m s.l.length v (t+(c+1)):=by
 unfold jU at hE hn;split at hE
 .rename_i a;rw[if_pos a]at hn;obtain⟨h1,b⟩:=hI _ _ _ _ k9 hE hn;exact⟨h1,b.le k9⟩
 .rename_i a;rw[if_neg a]at hn;obtain⟨h1,b⟩:=sY hk hE nl6 (by show(m:Int)<14;omega) hn;obtain⟨d,h4⟩:=hI _ _ _ _ k9 h1 b;exact⟨d,h4.le k9⟩
theorem bUv{a n:Int}(hE:dG L (jS f a n s))(hF:sU L code f)(hs:w32 n=n)(hm:m<=5)(ht:2<=t)(hn:Ru code m (jS f a n s).l.length v t):dG L s/\Ru code m s.l.length v (t+2):=by
 unfold jS at hE hn;rw[bPo (by rfl)]at hE hn;have hM:tI L (mJ f (pL a 6 (s.marks+1) (numG 6 n (markG s)))).l.length (s.marks+1):=hE.2 (by show s.marks+1≠0;omega);have d:=oW hE rfl;obtain⟨c,e⟩:=ru_fail (m:=m) (v:=v) (t:=t-1) hk d hF k9;obtain⟨b,g⟩:=lP c;have hn:Ru code m (mJ f (pL a 6 (s.marks+1) (numG 6 n (markG s)))).l.length v t:=hn
 have h4:Ru code m (numG 6 n (markG s)).l.length v (t+1):=bLm hk g k9 (.inr (.inl rfl)) hM hn λ_=>by
  rw[show(pL a 6 (s.marks+1) (numG 6 n (markG s))).l.length=(numG 6 n (markG s)).l.length+1 from iW]at e;exact e.le k9
 exact ru_num1 hk (s:=markG s) b hs k9 h4
theorem ru_op{M:GnM}{o:OpC}(hE:dG L (opG M o k s))(hF:sU L code M.fail)(hS: ∀z∈M.size,0<=z/\z<=1000000)(hfn:o.how=5\/o.how=6->1<=o.fn/\o.fn<=17)(hm:m<=5)(ht:8<=t)(hn:Ru code m (opG M o k s).l.length v t):dG L s/\Ru code m s.l.length v (t+6):=by
 have c: ∀z:Int,IntoR L code m (λa=>numG a z) 2:=λz a s v t q hE hn=>ru_num hk hE q hn;have b: ∀g:Int->cA,(∀a,(g a).a=a/\(g a).op≠7/\(g a).op≠8/\(g a).op≠9)->IntoR L code m (λa=>dL (g a) 0) 1:=λg hg a s v t q hE hn=>sY hk hE (hg a).2 (by rw[(hg a).1];exact q) hn
 have p: ∀z:Int,IntoR L code m (λa=>rL a z) 1:=λz=>b (λa=>⟨4,a,z,0,0⟩) λ_=>⟨rfl,nl4⟩
 have n: ∀j:Nat,w32 (M.size.getD j 0)=M.size.getD j 0:=λj=>by
  have:0<=M.size.getD j 0/\M.size.getD j 0<=1000000:=by
   rw[U5]
   cases e:M.size[j]? with
   |none=>exact⟨l5,l5⟩
   |some z=>exact hS z (f4 e)
  unfold w32;omega
 unfold opG at hE hn;split at hE
 .rename_i h1;rw[if_pos h1]at hn;obtain⟨e,h⟩:=bHt hk (c _) hm hE hn;exact⟨e,h.le k9⟩
 .rename_i h1;rw[if_neg h1]at hn;split at hE
  .rename_i r;rw[if_pos r]at hn;obtain⟨e,h⟩:=bHt hk (c _) hm hE hn;split at e
   .rename_i d;rw[if_pos d]at h;exact⟨e,h.le k9⟩
   .obtain⟨w,h4⟩:=ru_fail (m:=m) (v:=v) (t:=t) hk e hF k9;exact⟨w,h4.le k9⟩
  .rename_i r;rw[if_neg r]at hn;split at hE
   .rename_i d;rw[if_pos d]at hn;obtain⟨e,h⟩:=bHt hk (p _) hm hE hn;exact⟨e,h.le k9⟩
   .rename_i d;rw[if_neg d]at hn;split at hE
    .rename_i h4;rw[if_pos h4]at hn;obtain⟨e,h⟩:=bHt hk (b (λa=>⟨5,a,_,0,_⟩) λa=>⟨rfl,nl5⟩) hm hE hn;obtain⟨e,h⟩:=bUv hk e hF (n _) hm k9 h;obtain⟨e,h⟩:=ru_lessF hk e hF k9 h;obtain⟨e,h⟩:=ru_get hk e k9 h;exact⟨e,h.le k9⟩
    .rename_i h4;rw[if_neg h4]at hn;split at hE
     .rename_i i;rw[if_pos i]at hn;have u:=hfn (.inl i);have hu:u8m (64+o.fn)=64+o.fn:=by unfold u8m;omega
      obtain⟨e,h⟩:=bHt hk (b (λa=>⟨u8m (64+o.fn),a,_,0,0⟩) λa=>⟨rfl,by show u8m (64+o.fn)≠7/\u8m (64+o.fn)≠8/\u8m (64+o.fn)≠9;rw[hu];omega⟩) hm hE hn;obtain⟨e,h⟩:=ru_get hk e k9 h;exact⟨e,h.le k9⟩
     .rename_i i;rw[if_neg i]at hn;split at hE
      .rename_i f;rw[if_pos f]at hn;have u:=hfn (.inr f);have hu:u8m (128+o.fn)=128+o.fn:=by unfold u8m;omega
       obtain⟨e,h⟩:=bHt hk (b (λa=>⟨u8m (128+o.fn),a,_,_,0⟩) λa=>⟨rfl,by show u8m (128+o.fn)≠7/\u8m (128+o.fn)≠8/\u8m (128+o.fn)≠9;rw[hu];omega⟩) hm hE hn;obtain⟨e,h⟩:=ru_get hk e k9 h;obtain⟨e,h⟩:=ru_get hk e k9 h;exact⟨e,h.le k9⟩
      .rename_i f;rw[if_neg f]at hn;exact⟨hE,hn.le k9⟩
theorem ru_ops{M:GnM}(hF:sU L code M.fail)(hS: ∀z∈M.size,0<=z/\z<=1000000)(hm:m<=5): ∀{l:List OpC} {k t:Nat} {s:GnS},(∀o∈l,o.how=5\/o.how=6->1<=o.fn/\o.fn<=17)->8<=t->dG L (opsG M l k s)->Ru code m (opsG M l k s).l.length v t->dG L s/\Ru code m s.l.length v (t+6*l.length)
 |[],_,_,_,_,_,hE,hn=>⟨hE,hn⟩
 |o::r,k,t,s,hfn,ht,hE,hn=>by
  obtain⟨e,h⟩:=ru_ops hF hS hm (l:=r) (λo ho=>hfn o (D1 _ ho)) ht hE hn;obtain⟨e,h⟩:=ru_op hk e hF hS (hfn o (D5 ..)) hm k9 h;exact⟨e,h.le (by rw[List.length_cons];omega)⟩
theorem ru_fold{fn index:Int}(hE:dG L (foldG fn index s))(hf:1<=fn/\fn<=17)(hm:m<=5)(hn:Ru code m (foldG fn index s).l.length v t):dG L s/\Ru code m s.l.length v (t+3):=by
 have hu:u8m (128+fn)=128+fn:=by unfold u8m;omega
 unfold foldG at hE hn;rw[bPo (s:=rL 7 8 _) (by rfl)]at hE hn;rw[bPo (s:=mJ _ _) (by rfl)]at hE hn;have b:=hE.2 (by show s.marks+2≠0;omega);have h:=oW hE rfl;obtain⟨a,k⟩:=sY (m:=m) (v:=v) (t:=t) hk h nl4 (by show(m:Int)<7;omega) hn;have c:=a.2 (by show s.marks+1≠0;omega);have g:=oW a rfl;obtain⟨f,h4⟩:=ru_jump (m:=m) (v:=v) (t:=t) hk g k9 b hn;obtain⟨e,i⟩:=sY (m:=m) (v:=v) hk f (by show u8m (128+fn)≠7/\u8m (128+fn)≠8/\u8m (128+fn)≠9;rw[hu];omega) (by show(m:Int)<7;omega) h4;obtain⟨d,j⟩:=lP e;rw[iW]at i;exact⟨d,bLm hk j k9 (.inr (.inr rfl)) c (Ru.le k k9) λ_=>i⟩
end
end
end
end Go.Proofs.YtnfiadlonjediaaGreatDoor
