/- Texts of one proof, one behind the other: ConcA, Lanes, PrimA, PrimB, PrimC. -/
import Derived.Test.YtbgdphbebhjpiaaGreatDoorM11
import Derived.Lib.AppendZeros
namespace Go.Proofs.YtbgdphbebhjpiaaGreatDoor
open Go.RowKit
section
variable {P : Program} {β : fV} {n : Nat} {Γ : Env} {H : List cA} {F : List Fact} {o : Oper} {x : Operand} {t e : TypeId}
theorem sti_cap{A:Option Addr}{l c:Nat}(ht:P.underlying t=some (.slice e))(ho:o.op= .call ⟨.builtin .cap,#[x],#[t]⟩)(hx:Γ.ev x=some (.slice A l c)):Sti P β n Γ H F o (.int .i64 (c:Nat)):=fun a w S f s k=>by
 unfold execOp;simp [ho,resolve,invoke,builtin,Builtin.cap_,f.ev hx,run_underlying ht,goInt]
end
theorem wC(w:World)(o:Obj){k:Nat}(h:k<w.heap.size):(w.alloc o).heap[k]?=w.heap[k]?:=(yG w o).block k h fun e=>e
end Go.Proofs.YtbgdphbebhjpiaaGreatDoor
