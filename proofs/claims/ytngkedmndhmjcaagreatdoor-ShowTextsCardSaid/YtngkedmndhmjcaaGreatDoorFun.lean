/- The engine: scopes, values of functions called, results that lie in memory. -/
import Derived.Test.YtngkedmndhmjcaaGreatDoorStr
import Derived.Scope
namespace Go.Proofs.YtngkedmndhmjcaaGreatDoor
open Go.RowKit

section
variable {P : Program} {β : Base} {n : Nat} {Γ : Env} {H : List Chunk} {F : List Fact} {Q : Exit → Act → World → Prop} {K : Act → World → Prop} {T : Tab} {α : Type} {E : Flat α}

theorem at_scope {c : Code} (h : At β n Γ H F (c.wp P (Exit.noGoto Q))) : At β n Γ H F ((Code.scope c).wp P Q) := fun a w S f s k => wp_scope_straight (h a w S f s k)
theorem at_label {l : Nat} (h : At β n Γ H F (Q .normal)) : At β n Γ H F ((Code.label l).wp P Q) := fun a w S f s k => wp_label (h a w S f s k)
theorem n_scope (h : At β n Γ H F (Q .normal)) : At β n Γ H F (Exit.noGoto Q .normal) := h
theorem r_scope (h : At β n Γ H F (Q .ret)) : At β n Γ H F (Exit.noGoto Q .ret) := h
theorem x_scope {i : Nat} (h : At β n Γ H F (Q (.exit i))) : At β n Γ H F (Exit.noGoto Q (.exit i)) := h

theorem run_callv {o : Oper} {f : FuncId} {x : Operand} {first cap : Array Value} {ars : Array Operand} {ts : Array TypeId} {vs : List Value} {a : Act} (hcf : ∀ (args : Array Value) (w : World), (callFunc f args).run P w = .ok (.enter f args) w) (ho : o.op = .call ⟨.value x, ars, ts⟩) (fi : Fits n Γ a)
    (hx : Γ.ev x = some (.func (.func f) first cap)) (hv : Γ.evs ars.toList = some vs) (w : World) : (execOp a.eval o).run P w = .ok (.enter f (first ++ vs.toArray ++ cap)) w := by
  have hm : ars.map a.eval = vs.toArray := by
    apply Array.ext'
    simpa using fi.evs hv
  unfold execOp
  simp only [ho, resolve, fi.ev hx, Deferred.ofValue, Sem.run_bind, Sem.run_pure, Result.andThen_ok, invoke]
  simp [hm, hcf]
/-- a call of a function's value -/
theorem at_callv {ι : Type} {ops : Array Oper} {rest : List Oper} {o : Oper} {d : Nat} {f : FuncId} {x : Operand} {first cap : Array Value} {ars : Array Operand} {ts : Array TypeId} {vs all : List Value} {Hin H2 : List Chunk} {Pre : List Fact} {val : ι → Value} {Hout : ι → List Chunk} {post : ι → List Fact}
    (hcf : ∀ (args : Array Value) (w : World), (callFunc f args).run P w = .ok (.enter f args) w) (hs : Spec P f all Hin Pre val Hout post) (hw : want ops Γ o = some true) (ho : o.op = .call ⟨.value x, ars, ts⟩) (hx : Γ.ev x = some (.func (.func f) first cap)) (hd : o.dst = some d) (hn : Nat.blt d n = true)
    (hv : Γ.evs ars.toList = some vs) (hall : first.toList ++ vs ++ cap.toList = all) (hH : Split H Hin H2) (hF : HasAll F Pre) (k : ∀ x, At β n ((d, val x) :: Γ) (Hout x ++ H2) (post x ++ F) (wpList P ops Q rest)) : At β n Γ H F (wpList P ops Q (o :: rest)) :=
  at_step hw fun a w S f s hk => by
    unfold Oper.wp
    rw [run_callv hcf ho f hx hv w, Oper.upon_enter]
    have e : first ++ vs.toArray ++ cap = all.toArray := by
      rw [← hall]
      apply Array.ext'
      simp
    rw [e]
    have s1 := s.perm hH.perm
    refine (hs S w s1.enter (hF.all S w hk)).mono ?_
    rintro e w' ⟨x, S', rfl, s', k'⟩
    show wpList P ops Q rest (a.put o.dst (val x)) w'
    rw [hd]
    exact k x _ _ _ (f.put (by simpa [Nat.blt_eq] using hn) _) (s1.leave s') ((All.mono (fun _ h => .inr h) (fun _ _ => rfl) k').append (All.leave s1 s' hk))

/-! ### results -/
def resVal (a : Act) : ResultVar → Sem Value
  | .tmp t => pure (a.tmps.getD t undef)
  | .cell ad t => do loadVar t (← asAddr (a.tmps.getD ad undef))
/-- what a result reads as -/
def RV (P : Program) (β : Base) (n : Nat) (Γ : Env) (H : List Chunk) (F : List Fact) (r : ResultVar) (v : Value) : Prop := ∀ a w S, Fits n Γ a → St β H S w → All F S w → (resVal a r).run P w = .ok v w
theorem rv_tmp {t : Nat} {v : Value} (h : Γ.get t = some v) : RV P β n Γ H F (.tmp t) v := fun a w S f _ _ => by
  have := f.get t v h
  simp [resVal, Array.getD_eq_getD_getElem?, this]
theorem rv_cell (hT : TabOk P T) {t ty b q : Nat} {i : TI} {cs l : List Value} (hk : Knows β H F b q cs) (h : Γ.get t = some (.pointer (some ⟨b, q, none⟩))) (ht : T.get ty = some i) (ha : aggD i.desc = true) (hv : cut cs 0 i.size = some l) : RV P β n Γ H F (.cell t ty) (.agg l.toArray) := fun a w S f s k => by
  have := f.get t _ h
  obtain ⟨h1, h2, h3⟩ := cut_spec hv
  have hl := run_loadCells_list (P := P) w ⟨b, q, none⟩ l (fun j u hj => by rw [Addr.add_mid]; exact hk w S s k j u (by simpa using h3 j u hj))
  rw [h2] at hl
  unfold resVal
  simp only [Array.getD_eq_getD_getElem?, this, Option.getD_some, asAddr, Sem.run_bind, Sem.run_pure, Result.andThen_ok, loadVar, hT.agg ht, ha, if_true, hT.size ht, hl]
theorem rv_cell1 (hT : TabOk P T) {t ty b q : Nat} {i : TI} {cs : List Value} {v : Value} (hk : Knows β H F b q cs) (h : Γ.get t = some (.pointer (some ⟨b, q, none⟩))) (ht : T.get ty = some i) (ha : aggD i.desc = false) (hv : cs[0]? = some v) : RV P β n Γ H F (.cell t ty) v := fun a w S f s k => by
  have := f.get t _ h
  have hc := hk w S s k 0 v hv
  rw [Nat.add_zero] at hc
  unfold resVal
  simp only [Array.getD_eq_getD_getElem?, this, Option.getD_some, asAddr, Sem.run_bind, Sem.run_pure, Result.andThen_ok, loadVar, hT.agg ht, ha, Bool.false_eq_true, if_false, run_load, hc]
theorem results_eq (fn : Func) (a : Act) : results fn a.tmps = (do let vs ← fn.results.mapM (resVal a); pure (if h : vs.size = 1 then vs[0] else .tuple vs)) := by
  have e : (fun x : ResultVar => (match x with | .tmp t => pure (a.tmps.getD t undef) | .cell ad t => do loadVar t (← asAddr (a.tmps.getD ad undef)) : Sem Value)) = resVal a := by
    funext x
    cases x <;> rfl
  unfold results
  rw [← e]
  rfl
section
variable {ι : Type} {fn : Func} {val : ι → Value} {Hout : ι → List Chunk} {post : ι → List Fact} {r1 r2 r3 : ResultVar} {v1 v2 v3 : Value}
theorem at_res0 (x : ι) (hr : fn.results = #[]) (hH : Sel H (Hout x)) (hF : HasAll F (post x)) (he : .tuple #[] = val x) : At β n Γ H F (bodyPost P fn (Done β val Hout post) .ret) := fun a w S f s k => by
  refine ⟨f.defers, .tuple #[], ?_, x, S, by rw [he], s.sel hH, hF.all S w k⟩
  rw [results_eq, hr]
  simp
theorem at_off0 (x : ι) (hr : fn.results = #[]) (hH : Sel H (Hout x)) (hF : HasAll F (post x)) (he : .tuple #[] = val x) : At β n Γ H F (bodyPost P fn (Done β val Hout post) .normal) := fun a w S f s k => by
  refine ⟨f.defers, .tuple #[], ?_, x, S, by rw [he], s.sel hH, hF.all S w k⟩
  rw [results_eq, hr]
  simp
theorem at_res1 (x : ι) (hr : fn.results = #[r1]) (h1 : RV P β n Γ H F r1 v1) (hH : Sel H (Hout x)) (hF : HasAll F (post x)) (he : v1 = val x) : At β n Γ H F (bodyPost P fn (Done β val Hout post) .ret) := fun a w S f s k => by
  refine ⟨f.defers, v1, ?_, x, S, by rw [he], s.sel hH, hF.all S w k⟩
  rw [results_eq, hr]
  simp [h1 a w S f s k]
theorem at_res2 (x : ι) (hr : fn.results = #[r1, r2]) (h1 : RV P β n Γ H F r1 v1) (h2 : RV P β n Γ H F r2 v2) (hH : Sel H (Hout x)) (hF : HasAll F (post x)) (he : .tuple #[v1, v2] = val x) : At β n Γ H F (bodyPost P fn (Done β val Hout post) .ret) := fun a w S f s k => by
  refine ⟨f.defers, .tuple #[v1, v2], ?_, x, S, by rw [he], s.sel hH, hF.all S w k⟩
  rw [results_eq, hr]
  simp [h1 a w S f s k, h2 a w S f s k]
theorem at_res3 (x : ι) (hr : fn.results = #[r1, r2, r3]) (h1 : RV P β n Γ H F r1 v1) (h2 : RV P β n Γ H F r2 v2) (h3 : RV P β n Γ H F r3 v3) (hH : Sel H (Hout x)) (hF : HasAll F (post x)) (he : .tuple #[v1, v2, v3] = val x) : At β n Γ H F (bodyPost P fn (Done β val Hout post) .ret) := fun a w S f s k => by
  refine ⟨f.defers, .tuple #[v1, v2, v3], ?_, x, S, by rw [he], s.sel hH, hF.all S w k⟩
  rw [results_eq, hr]
  simp [h1 a w S f s k, h2 a w S f s k, h3 a w S f s k]
end
end
theorem or_u8 (a b : UInt8) : IntKind.u8.wrap (((BitVec.ofInt IntKind.u8.bits (a.toNat : Int) ||| BitVec.ofInt IntKind.u8.bits (b.toNat : Int)).toNat : Nat) : Int) = (((a ||| b).toNat : Nat) : Int) := by
  show IntKind.u8.wrap (((BitVec.ofInt 8 (a.toNat : Int) ||| BitVec.ofInt 8 (b.toNat : Int)).toNat : Nat) : Int) = _
  have h1 : ∀ c : UInt8, BitVec.ofInt 8 (c.toNat : Int) = c.toBitVec := fun c => by
    apply BitVec.eq_of_toNat_eq
    simp
  rw [h1, h1]
  have h2 : (a.toBitVec ||| b.toBitVec).toNat = (a ||| b).toNat := rfl
  have h3 := (a ||| b).toNat_lt
  rw [h2]
  generalize (a ||| b).toNat = c at *
  simp only [IntKind.wrap, IntKind.signed, IntKind.bits]
  simp
  omega
theorem opens_str {H : Type} {enc : TypeId × Value → H} {P : Program} {w : World} {t : TypeId} (hu : P.underlying t = some .string) : Opens enc P w t (fun s : Bs => [.string (bs s)]) (fun s => Fact.pure (s.length ≤ 140737488355328)) := fun fuel cs x h hw => by
  obtain ⟨s, e, hs⟩ := opens_string hu fuel cs x h hw
  exact ⟨s.data.toList, e, hs⟩
end Go.Proofs.YtngkedmndhmjcaaGreatDoor
