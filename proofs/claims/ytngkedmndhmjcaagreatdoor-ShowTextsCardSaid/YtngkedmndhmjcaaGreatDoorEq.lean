/- Equality of structs of numbers and texts; an interface against nil. (Printed by wip/gen/ty_eq.py.) -/
import Derived.Test.YtngkedmndhmjcaaGreatDoorTys
import Derived.ChangeKeysEq
namespace Go.Proofs.YtngkedmndhmjcaaGreatDoor
open Go.RowKit

theorem run_equalIn_bs {P : Program} (w : World) (d : Nat) (t : TypeId) (a b : Bs) (ht : P.underlying t = some .string) : (Op.equalIn (d + 1) t (.string (bs a)) (.string (bs b))).run P w = .ok (a == b) w := by
  rw [run_equalIn_string w d t _ _ ht]
  simp [bs]
section
variable {P : Program} {β : Base} {n : Nat} {Γ : Env} {H : List Chunk} {F : List Fact} {o : Oper} {x : Operand} {t tt : TypeId}
theorem run_eqIf {ms : Array (String × TypeId)} (ht : P.underlying t = some (.interface ms)) (w : World) (u : TypeId) (v : Value) : (Op.equal t (.iface u v) .nilIface).run P w = .ok false w ∧ (Op.equal t .nilIface .nilIface).run P w = .ok true w := by
  have h1 : ∀ d, (Op.equalIn (d + 1) t (.iface u v) .nilIface).run P w = .ok false w := fun d => by simp [Op.equalIn, run_underlying ht]
  have h2 : ∀ d, (Op.equalIn (d + 1) t .nilIface .nilIface).run P w = .ok true w := fun d => by simp [Op.equalIn, run_underlying ht]
  exact ⟨h1 9999, h2 9999⟩
/-- err != nil -/
theorem sti_err {ms : Array (String × TypeId)} (ht : P.underlying t = some (.interface ms)) {u : TypeId} {v : Value} (ho : o.op = .binOp .neq t x (.const .nilIface) tt) (hx : Γ.ev x = some (.iface u v)) : Sti P β n Γ H F o (.bool true) := fun c w S f s k => by
  unfold execOp
  have e : c.eval (.const .nilIface) = .nilIface := rfl
  simp only [ho, f.ev hx, e]
  have hb : (binOp .neq t (.iface u v) .nilIface).run P w = .ok (.bool true) w := by
    simp only [binOp]
    rw [Sem.run_bind, (run_eqIf ht w u v).1]
    rfl
  rw [Sem.run_bind, Sem.run_bind]
  have hg : (eqGuard .neq t x (.const .nilIface) (.iface u v) .nilIface).run P w = .ok () w := rfl
  rw [hg, Result.andThen_ok, hb]
  rfl
theorem sti_noerr {ms : Array (String × TypeId)} (ht : P.underlying t = some (.interface ms)) (ho : o.op = .binOp .neq t x (.const .nilIface) tt) (hx : Γ.ev x = some .nilIface) : Sti P β n Γ H F o (.bool false) := fun c w S f s k => by
  unfold execOp
  have e : c.eval (.const .nilIface) = .nilIface := rfl
  simp only [ho, f.ev hx, e]
  have hb : (binOp .neq t .nilIface .nilIface).run P w = .ok (.bool false) w := by
    simp only [binOp]
    rw [Sem.run_bind, (run_eqIf ht w 0 .nilIface).2]
    rfl
  rw [Sem.run_bind, Sem.run_bind]
  have hg : (eqGuard .neq t x (.const .nilIface) .nilIface .nilIface).run P w = .ok () w := by
    unfold eqGuard
    simp
  rw [hg, Result.andThen_ok, hb]
  rfl
end

def fltEq (x y : FltV) : Bool := ((x.at_ == y.at_) && (x.code == y.code))
theorem run_equalIn_flt (d : Nat) (x y : FltV) (w : World) : (Op.equalIn (d + 2) 32 (.agg #[.int .i64 x.at_, .int .i64 x.code]) (.agg #[.int .i64 y.at_, .int .i64 y.code])).run Tryz.prog w = .ok (fltEq x y) w := by
  have hp : Tryz.prog.stoodInHeld 32 = false := by kernel_rfl
  have p0 : ∀ x : FltV, (part 3 #[.int .i64 x.at_, .int .i64 x.code] 0).run Tryz.prog w = .ok (.int .i64 x.at_) w := fun x => by kernel_rfl
  have p1 : ∀ x : FltV, (part 28 #[.int .i64 x.at_, .int .i64 x.code] 1).run Tryz.prog w = .ok (.int .i64 x.code) w := fun x => by kernel_rfl
  have hS : Tryz.prog.underlying 32 = some (.struct (Tryz.prog.fieldsOf 32)) := by kernel_rfl
  rw [run_equalIn_agg w (d + 1) 32 _ _ hS hp]
  unfold Program.fieldsOf
  rw [Tryz.underlying32]
  simp only [Op.eqFields, Sem.run_bind, Sem.run_ite, Sem.run_pure, p0, p1, Result.andThen_ok, run_equalIn_int w d 3 .i64 .i64 _ _ Tryz.underlying3, run_equalIn_int w d 28 .i64 .i64 _ _ Tryz.underlying28]
  unfold fltEq
  cases x.at_ == y.at_ <;> cases x.code == y.code <;> rfl
theorem sti_neq_flt {β : Base} {n : Nat} {Γ : Env} {H : List Chunk} {F : List Fact} {o : Oper} {a b : Operand} {tt : TypeId} (x y : FltV) (ho : o.op = .binOp .neq 32 a b tt) (hx : Γ.ev a = some (.agg #[.int .i64 x.at_, .int .i64 x.code])) (hy : Γ.ev b = some (.agg #[.int .i64 y.at_, .int .i64 y.code])) : Sti Tryz.prog β n Γ H F o (.bool (!fltEq x y)) := fun c w S f s k => by
  have hq : Tryz.prog.eqGuardType Tryz.prog.depth 32 = false := by kernel_rfl
  have hg : (eqGuard .neq 32 a b (.agg #[.int .i64 x.at_, .int .i64 x.code]) (.agg #[.int .i64 y.at_, .int .i64 y.code])).run Tryz.prog w = .ok () w := by
    unfold eqGuard
    have hp : (program : Sem Program).run Tryz.prog w = .ok Tryz.prog w := rfl
    simp [hp, hq]
  have hb : (binOp .neq 32 (.agg #[.int .i64 x.at_, .int .i64 x.code]) (.agg #[.int .i64 y.at_, .int .i64 y.code])).run Tryz.prog w = .ok (.bool (!fltEq x y)) w := by
    rw [run_neq_struct, run_equalIn_flt 9998 x y w]
    rfl
  unfold execOp
  simp only [ho, f.ev hx, f.ev hy]
  rw [Sem.run_bind, Sem.run_bind, hg, Result.andThen_ok, hb]
  rfl
theorem sti_eql_flt {β : Base} {n : Nat} {Γ : Env} {H : List Chunk} {F : List Fact} {o : Oper} {a b : Operand} {tt : TypeId} (x y : FltV) (ho : o.op = .binOp .eql 32 a b tt) (hx : Γ.ev a = some (.agg #[.int .i64 x.at_, .int .i64 x.code])) (hy : Γ.ev b = some (.agg #[.int .i64 y.at_, .int .i64 y.code])) : Sti Tryz.prog β n Γ H F o (.bool (fltEq x y)) := fun c w S f s k => by
  have hq : Tryz.prog.eqGuardType Tryz.prog.depth 32 = false := by kernel_rfl
  have hg : (eqGuard .eql 32 a b (.agg #[.int .i64 x.at_, .int .i64 x.code]) (.agg #[.int .i64 y.at_, .int .i64 y.code])).run Tryz.prog w = .ok () w := by
    unfold eqGuard
    have hp : (program : Sem Program).run Tryz.prog w = .ok Tryz.prog w := rfl
    simp [hp, hq]
  have hb : (binOp .eql 32 (.agg #[.int .i64 x.at_, .int .i64 x.code]) (.agg #[.int .i64 y.at_, .int .i64 y.code])).run Tryz.prog w = .ok (.bool (fltEq x y)) w := by
    rw [run_eql_struct, run_equalIn_flt 9998 x y w]
    rfl
  unfold execOp
  simp only [ho, f.ev hx, f.ev hy]
  rw [Sem.run_bind, Sem.run_bind, hg, Result.andThen_ok, hb]
  rfl
def tokEq (x y : TokV) : Bool := ((x.kind == y.kind) && ((x.at_ == y.at_) && ((x.word == y.word) && (x.n == y.n))))
theorem run_equalIn_tok (d : Nat) (x y : TokV) (w : World) : (Op.equalIn (d + 2) 54 (.agg #[.int .i64 x.kind, .int .i64 x.at_, .string (bs x.word), .int .i64 x.n]) (.agg #[.int .i64 y.kind, .int .i64 y.at_, .string (bs y.word), .int .i64 y.n])).run Tryz.prog w = .ok (tokEq x y) w := by
  have hp : Tryz.prog.stoodInHeld 54 = false := by kernel_rfl
  have p0 : ∀ x : TokV, (part 3 #[.int .i64 x.kind, .int .i64 x.at_, .string (bs x.word), .int .i64 x.n] 0).run Tryz.prog w = .ok (.int .i64 x.kind) w := fun x => by kernel_rfl
  have p1 : ∀ x : TokV, (part 3 #[.int .i64 x.kind, .int .i64 x.at_, .string (bs x.word), .int .i64 x.n] 1).run Tryz.prog w = .ok (.int .i64 x.at_) w := fun x => by kernel_rfl
  have p2 : ∀ x : TokV, (part 9 #[.int .i64 x.kind, .int .i64 x.at_, .string (bs x.word), .int .i64 x.n] 2).run Tryz.prog w = .ok (.string (bs x.word)) w := fun x => by kernel_rfl
  have p3 : ∀ x : TokV, (part 2 #[.int .i64 x.kind, .int .i64 x.at_, .string (bs x.word), .int .i64 x.n] 3).run Tryz.prog w = .ok (.int .i64 x.n) w := fun x => by kernel_rfl
  have hS : Tryz.prog.underlying 54 = some (.struct (Tryz.prog.fieldsOf 54)) := by kernel_rfl
  rw [run_equalIn_agg w (d + 1) 54 _ _ hS hp]
  unfold Program.fieldsOf
  rw [Tryz.underlying54]
  simp only [Op.eqFields, Sem.run_bind, Sem.run_ite, Sem.run_pure, p0, p1, p2, p3, Result.andThen_ok, run_equalIn_int w d 3 .i64 .i64 _ _ Tryz.underlying3, run_equalIn_bs w d 9 _ _ Tryz.underlying9, run_equalIn_int w d 2 .i64 .i64 _ _ Tryz.underlying2]
  unfold tokEq
  cases x.kind == y.kind <;> cases x.at_ == y.at_ <;> cases x.word == y.word <;> cases x.n == y.n <;> rfl
theorem sti_neq_tok {β : Base} {n : Nat} {Γ : Env} {H : List Chunk} {F : List Fact} {o : Oper} {a b : Operand} {tt : TypeId} (x y : TokV) (ho : o.op = .binOp .neq 54 a b tt) (hx : Γ.ev a = some (.agg #[.int .i64 x.kind, .int .i64 x.at_, .string (bs x.word), .int .i64 x.n])) (hy : Γ.ev b = some (.agg #[.int .i64 y.kind, .int .i64 y.at_, .string (bs y.word), .int .i64 y.n])) : Sti Tryz.prog β n Γ H F o (.bool (!tokEq x y)) := fun c w S f s k => by
  have hq : Tryz.prog.eqGuardType Tryz.prog.depth 54 = false := by kernel_rfl
  have hg : (eqGuard .neq 54 a b (.agg #[.int .i64 x.kind, .int .i64 x.at_, .string (bs x.word), .int .i64 x.n]) (.agg #[.int .i64 y.kind, .int .i64 y.at_, .string (bs y.word), .int .i64 y.n])).run Tryz.prog w = .ok () w := by
    unfold eqGuard
    have hp : (program : Sem Program).run Tryz.prog w = .ok Tryz.prog w := rfl
    simp [hp, hq]
  have hb : (binOp .neq 54 (.agg #[.int .i64 x.kind, .int .i64 x.at_, .string (bs x.word), .int .i64 x.n]) (.agg #[.int .i64 y.kind, .int .i64 y.at_, .string (bs y.word), .int .i64 y.n])).run Tryz.prog w = .ok (.bool (!tokEq x y)) w := by
    rw [run_neq_struct, run_equalIn_tok 9998 x y w]
    rfl
  unfold execOp
  simp only [ho, f.ev hx, f.ev hy]
  rw [Sem.run_bind, Sem.run_bind, hg, Result.andThen_ok, hb]
  rfl
theorem sti_eql_tok {β : Base} {n : Nat} {Γ : Env} {H : List Chunk} {F : List Fact} {o : Oper} {a b : Operand} {tt : TypeId} (x y : TokV) (ho : o.op = .binOp .eql 54 a b tt) (hx : Γ.ev a = some (.agg #[.int .i64 x.kind, .int .i64 x.at_, .string (bs x.word), .int .i64 x.n])) (hy : Γ.ev b = some (.agg #[.int .i64 y.kind, .int .i64 y.at_, .string (bs y.word), .int .i64 y.n])) : Sti Tryz.prog β n Γ H F o (.bool (tokEq x y)) := fun c w S f s k => by
  have hq : Tryz.prog.eqGuardType Tryz.prog.depth 54 = false := by kernel_rfl
  have hg : (eqGuard .eql 54 a b (.agg #[.int .i64 x.kind, .int .i64 x.at_, .string (bs x.word), .int .i64 x.n]) (.agg #[.int .i64 y.kind, .int .i64 y.at_, .string (bs y.word), .int .i64 y.n])).run Tryz.prog w = .ok () w := by
    unfold eqGuard
    have hp : (program : Sem Program).run Tryz.prog w = .ok Tryz.prog w := rfl
    simp [hp, hq]
  have hb : (binOp .eql 54 (.agg #[.int .i64 x.kind, .int .i64 x.at_, .string (bs x.word), .int .i64 x.n]) (.agg #[.int .i64 y.kind, .int .i64 y.at_, .string (bs y.word), .int .i64 y.n])).run Tryz.prog w = .ok (.bool (tokEq x y)) w := by
    rw [run_eql_struct, run_equalIn_tok 9998 x y w]
    rfl
  unfold execOp
  simp only [ho, f.ev hx, f.ev hy]
  rw [Sem.run_bind, Sem.run_bind, hg, Result.andThen_ok, hb]
  rfl
def sideEq (x y : SideV) : Bool := ((x.name == y.name) && (x.n == y.n))
theorem run_equalIn_side (d : Nat) (x y : SideV) (w : World) : (Op.equalIn (d + 2) 61 (.agg #[.string (bs x.name), .int .i64 x.n]) (.agg #[.string (bs y.name), .int .i64 y.n])).run Tryz.prog w = .ok (sideEq x y) w := by
  have hp : Tryz.prog.stoodInHeld 61 = false := by kernel_rfl
  have p0 : ∀ x : SideV, (part 9 #[.string (bs x.name), .int .i64 x.n] 0).run Tryz.prog w = .ok (.string (bs x.name)) w := fun x => by kernel_rfl
  have p1 : ∀ x : SideV, (part 2 #[.string (bs x.name), .int .i64 x.n] 1).run Tryz.prog w = .ok (.int .i64 x.n) w := fun x => by kernel_rfl
  have hS : Tryz.prog.underlying 61 = some (.struct (Tryz.prog.fieldsOf 61)) := by kernel_rfl
  rw [run_equalIn_agg w (d + 1) 61 _ _ hS hp]
  unfold Program.fieldsOf
  rw [Tryz.underlying61]
  simp only [Op.eqFields, Sem.run_bind, Sem.run_ite, Sem.run_pure, p0, p1, Result.andThen_ok, run_equalIn_bs w d 9 _ _ Tryz.underlying9, run_equalIn_int w d 2 .i64 .i64 _ _ Tryz.underlying2]
  unfold sideEq
  cases x.name == y.name <;> cases x.n == y.n <;> rfl
theorem sti_neq_side {β : Base} {n : Nat} {Γ : Env} {H : List Chunk} {F : List Fact} {o : Oper} {a b : Operand} {tt : TypeId} (x y : SideV) (ho : o.op = .binOp .neq 61 a b tt) (hx : Γ.ev a = some (.agg #[.string (bs x.name), .int .i64 x.n])) (hy : Γ.ev b = some (.agg #[.string (bs y.name), .int .i64 y.n])) : Sti Tryz.prog β n Γ H F o (.bool (!sideEq x y)) := fun c w S f s k => by
  have hq : Tryz.prog.eqGuardType Tryz.prog.depth 61 = false := by kernel_rfl
  have hg : (eqGuard .neq 61 a b (.agg #[.string (bs x.name), .int .i64 x.n]) (.agg #[.string (bs y.name), .int .i64 y.n])).run Tryz.prog w = .ok () w := by
    unfold eqGuard
    have hp : (program : Sem Program).run Tryz.prog w = .ok Tryz.prog w := rfl
    simp [hp, hq]
  have hb : (binOp .neq 61 (.agg #[.string (bs x.name), .int .i64 x.n]) (.agg #[.string (bs y.name), .int .i64 y.n])).run Tryz.prog w = .ok (.bool (!sideEq x y)) w := by
    rw [run_neq_struct, run_equalIn_side 9998 x y w]
    rfl
  unfold execOp
  simp only [ho, f.ev hx, f.ev hy]
  rw [Sem.run_bind, Sem.run_bind, hg, Result.andThen_ok, hb]
  rfl
theorem sti_eql_side {β : Base} {n : Nat} {Γ : Env} {H : List Chunk} {F : List Fact} {o : Oper} {a b : Operand} {tt : TypeId} (x y : SideV) (ho : o.op = .binOp .eql 61 a b tt) (hx : Γ.ev a = some (.agg #[.string (bs x.name), .int .i64 x.n])) (hy : Γ.ev b = some (.agg #[.string (bs y.name), .int .i64 y.n])) : Sti Tryz.prog β n Γ H F o (.bool (sideEq x y)) := fun c w S f s k => by
  have hq : Tryz.prog.eqGuardType Tryz.prog.depth 61 = false := by kernel_rfl
  have hg : (eqGuard .eql 61 a b (.agg #[.string (bs x.name), .int .i64 x.n]) (.agg #[.string (bs y.name), .int .i64 y.n])).run Tryz.prog w = .ok () w := by
    unfold eqGuard
    have hp : (program : Sem Program).run Tryz.prog w = .ok Tryz.prog w := rfl
    simp [hp, hq]
  have hb : (binOp .eql 61 (.agg #[.string (bs x.name), .int .i64 x.n]) (.agg #[.string (bs y.name), .int .i64 y.n])).run Tryz.prog w = .ok (.bool (sideEq x y)) w := by
    rw [run_eql_struct, run_equalIn_side 9998 x y w]
    rfl
  unfold execOp
  simp only [ho, f.ev hx, f.ev hy]
  rw [Sem.run_bind, Sem.run_bind, hg, Result.andThen_ok, hb]
  rfl
end Go.Proofs.YtngkedmndhmjcaaGreatDoor
