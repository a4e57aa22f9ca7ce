/- The engine: more rules: addresses of rows, slices of given elements. -/
import Derived.Test.YtndjaogjkchpaaaLend
import Derived.Great.BuildSlice
namespace Go.Proofs.Ytndjaogjkchpaaa
open Go.RowKit

theorem HasAll.sub {F : List Fact} : ∀ {G : List Fact}, (∀ g ∈ G, g ∈ F) → HasAll F G
  | [], _ => trivial
  | g :: _, h => ⟨Has.of (h g (List.mem_cons_self ..)), HasAll.sub fun x hx => h x (List.mem_cons_of_mem _ hx)⟩
theorem HasAll.self {F : List Fact} : HasAll F F := HasAll.sub fun _ h => h
theorem not_t {b : Bool} (h : (!b) = true) : b = false := by cases b <;> simp_all
theorem not_f {b : Bool} (h : (!b) = false) : b = true := by cases b <;> simp_all
section
variable {P : Program} {β : Base} {n : Nat} {Γ : Env} {H : List Chunk} {F : List Fact} {Q : Exit → Act → World → Prop} {K : Act → World → Prop} {T : Tab} {α : Type} {E : Flat α}

theorem at_rounds {c : Code} (k : Nat) (h : At β n Γ H F (Code.rounds P c Q k)) : At β n Γ H F ((Code.loop c).wp P Q) := fun a w S f s hF => wp_loop_rounds k (h a w S f s hF)
theorem at_round {c : Code} {k : Nat} (h : At β n Γ H F (c.wp P (Exit.then (Code.rounds P c Q k) Q))) : At β n Γ H F (Code.rounds P c Q (k + 1)) := fun a w S f s hF => by
  rw [rounds_succ]
  exact h a w S f s hF
/-- where a row lies that is not empty -/
theorem at_rowg {A : Option Addr} {t : TypeId} {m cap : Nat} {xs : List α} {H' : List Chunk} (hH : Take H (E.row (.slice A m cap) t xs) H') (hm : 0 < xs.length) (h : ∀ g, A = some ⟨g, 0, none⟩ → At β n Γ H F K) : At β n Γ H F K := at_row hH fun _ ⟨A', cap', e, hA⟩ => by
  injection e with e1 e2 e3
  obtain ⟨g, hg⟩ := hA hm
  exact h g (e1.trans hg)
/-- a place in a slice whose address is known -/
theorem sti_index_at (hT : TabOk P T) {o : Oper} {t e b off l c k : Nat} {x i : Operand} {kk : IntKind} {z : Int} {sz : Nat} {ei : TI} (ho : o.op = .indexAddr t x i) (hx : Γ.ev x = some (.slice (some ⟨b, off, none⟩) l c)) (hi : Γ.ev i = some (.int kk z))
    (ht : T.get t = some ⟨.slice e, sz⟩) (he : T.get e = some ei) (hz : z = (k : Nat)) (hk : k < l) : Sti P β n Γ H F o (.pointer (some ⟨b, off + k * ei.size, none⟩)) := fun a w S f s _ => by
  subst hz
  have ha : (⟨b, off, none⟩ : Addr).add (k * ei.size) = ⟨b, off + k * ei.size, none⟩ := Addr.add_mid _ _ _
  have h0 : (0 : Int) ≤ (k : Int) ∧ (k : Int) < (l : Int) := ⟨by omega, by omega⟩
  unfold execOp
  simp only [ho, f.ev hx, f.ev hi, Instr.indexAt, asIntOf, Sem.run_bind, Sem.run_pure, Result.andThen_ok, hT.slice ht w, h0, and_self, if_true, hT.size he, Int.toNat_natCast, ha]
/-- a slice of one element -/
theorem at_build1 {ops : Array Oper} {rest : List Oper} {o : Oper} {d : Nat} {t e : TypeId} {x : Operand} {v : Value} {ie : TypeInfo} {z : Value} {cs : List Value} (hw : want ops Γ o = some true) (ho : o.op = .buildSlice t 1 #[(0, x)]) (hd : o.dst = some d) (hn : Nat.blt d n = true)
    (hx : Γ.ev x = some v) (hu : P.underlying t = some (.slice e)) (hie : P.info? e = some ie) (hz : ie.zero = some z) (hs : ie.size ≤ 16777216) (hp : 0 < ie.size) (hf : Instr.fill (fun i => some (i * ie.size, ie.size)) ((Array.range (1 * ie.size)).map (z.cells[· % z.cells.size]!)) [(0, v)] = some cs.toArray)
    (k : ∀ b, At β n ((d, .slice (some ⟨b, 0, none⟩) 1 1) :: Γ) (.obj b (.cells cs.toArray e) :: H) F (wpList P ops Q rest)) : At β n Γ H F (wpList P ops Q (o :: rest)) :=
  at_build (m := 1) (parts := #[(0, x)]) (e := e) (cs := cs) hw ho hd hn (fun a w f => by
    have := run_buildSlice (P := P) w t e 1 #[(0, a.eval x)] cs.toArray ie z hu hie hz (by omega) (by omega) (by rw [f.ev hx]; exact hf)
    simpa using this) k
end

end Go.Proofs.Ytndjaogjkchpaaa
