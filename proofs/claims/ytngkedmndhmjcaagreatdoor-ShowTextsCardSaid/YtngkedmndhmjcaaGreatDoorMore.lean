/- The engine: more rules: addresses of rows, slices of given elements. -/
import Derived.Test.YtngkedmndhmjcaaGreatDoorLend
import Derived.Great.BuildSlice
namespace Go.Proofs.YtngkedmndhmjcaaGreatDoor
open Go.RowKit

theorem HasAll.sub {F : List Fact} : ∀ {G : List Fact}, (∀ g ∈ G, g ∈ F) → HasAll F G
  | [], _ => trivial
  | g :: _, h => ⟨Has.of (h g (List.mem_cons_self ..)), HasAll.sub fun x hx => h x (List.mem_cons_of_mem _ hx)⟩
theorem HasAll.self {F : List Fact} : HasAll F F := HasAll.sub fun _ h => h
theorem not_t {b : Bool} (h : (!b) = true) : b = false := by cases b <;> simp_all
theorem not_f {b : Bool} (h : (!b) = false) : b = true := by cases b <;> simp_all
section
variable {P : Program} {β : Base} {n : Nat} {Γ : Env} {H : List Chunk} {F : List Fact} {Q : Exit → Act → World → Prop} {K : Act → World → Prop} {T : Tab} {α : Type} {E : Flat α}

theorem at_rounds {c : Code} (k : Nat) (h : At β n Γ H F (Code.rounds P c Q k)) : At β n Γ H F ((Code.loop c).wp P Q) := fun a w S f s hF => wp_loop_rounds k (h a w S f s hF)
theorem at_round {c : Code} {k : Nat} (h : At β n Γ H F (c.wp P (Exit.then (Code.rounds P c Q k) Q))) : At β n Γ H F (Code.rounds P c Q (k + 1)) := fun a w S f s hF => by
  rw [rounds_succ]
  exact h a w S f s hF
/-- where a row lies that is not empty -/
theorem at_rowg {A : Option Addr} {t : TypeId} {m cap : Nat} {xs : List α} {H' : List Chunk} (hH : Take H (E.row (.slice A m cap) t xs) H') (hm : 0 < xs.length) (h : ∀ g, A = some ⟨g, 0, none⟩ → At β n Γ H F K) : At β n Γ H F K := at_row hH fun _ ⟨A', cap', e, hA⟩ => by
  injection e with e1 e2 e3
  obtain ⟨g, hg⟩ := hA hm
  exact h g (e1.trans hg)
/-- a place in a slice whose address is known -/
theorem sti_index_at (hT : TabOk P T) {o : Oper} {t e b off l c k : Nat} {x i : Operand} {kk : IntKind} {z : Int} {sz : Nat} {ei : TI} (ho : o.op = .indexAddr t x i) (hx : Γ.ev x = some (.slice (some ⟨b, off, none⟩) l c)) (hi : Γ.ev i = some (.int kk z))
    (ht : T.get t = some ⟨.slice e, sz⟩) (he : T.get e = some ei) (hz : z = (k : Nat)) (hk : k < l) : Sti P β n Γ H F o (.pointer (some ⟨b, off + k * ei.size, none⟩)) := fun a w S f s _ => by
  subst hz
  have ha : (⟨b, off, none⟩ : Addr).add (k * ei.size) = ⟨b, off + k * ei.size, none⟩ := Addr.add_mid _ _ _
  have h0 : (0 : Int) ≤ (k : Int) ∧ (k : Int) < (l : Int) := ⟨by omega, by omega⟩
  unfold execOp
  simp only [ho, f.ev hx, f.ev hi, Instr.indexAt, asIntOf, Sem.run_bind, Sem.run_pure, Result.andThen_ok, hT.slice ht w, h0, and_self, if_true, hT.size he, Int.toNat_natCast, ha]
/-- a slice of one element -/
theorem at_build1 {ops : Array Oper} {rest : List Oper} {o : Oper} {d : Nat} {t e : TypeId} {x : Operand} {v : Value} {ie : TypeInfo} {z : Value} {cs : List Value} (hw : want ops Γ o = some true) (ho : o.op = .buildSlice t 1 #[(0, x)]) (hd : o.dst = some d) (hn : Nat.blt d n = true)
    (hx : Γ.ev x = some v) (hu : P.underlying t = some (.slice e)) (hie : P.info? e = some ie) (hz : ie.zero = some z) (hs : ie.size ≤ 16777216) (hp : 0 < ie.size) (hf : Instr.fill (fun i => some (i * ie.size, ie.size)) ((Array.range (1 * ie.size)).map (z.cells[· % z.cells.size]!)) [(0, v)] = some cs.toArray)
    (k : ∀ b, At β n ((d, .slice (some ⟨b, 0, none⟩) 1 1) :: Γ) (.obj b (.cells cs.toArray e) :: H) F (wpList P ops Q rest)) : At β n Γ H F (wpList P ops Q (o :: rest)) :=
  at_build (m := 1) (parts := #[(0, x)]) (e := e) (cs := cs) hw ho hd hn (fun a w f => by
    have := run_buildSlice (P := P) w t e 1 #[(0, a.eval x)] cs.toArray ie z hu hie hz (by omega) (by omega) (by rw [f.ev hx]; exact hf)
    simpa using this) k
end

/-! ### short names for frequent steps (gen/tight.py writes them) -/
section
variable {P : Program} {β : Base} {n : Nat} {Γ : Env} {H : List Chunk} {F : List Fact} {Q : Exit → Act → World → Prop} {K : Act → World → Prop} {T : Tab} {ops : Array Oper} {rest : List Oper} {o : Oper} {d : Nat} {v : Value}
theorem sp (hT : TabOk P T) (k : At β n ((d, v) :: Γ) H F (wpList P ops Q rest)) (hw : want ops Γ o = some true := by exact rfl) (hd : o.dst = some d := by exact rfl) (hn : Nat.blt d n = true := by exact rfl) (h : pureOp T Γ o.op = some v := by exact rfl) :
    At β n Γ H F (wpList P ops Q (o :: rest)) := at_sti hw hd hn (sti_pure hT h) k
theorem ss (h : Sti P β n Γ H F o v) (k : At β n ((d, v) :: Γ) H F (wpList P ops Q rest)) (hw : want ops Γ o = some true := by exact rfl) (hd : o.dst = some d := by exact rfl) (hn : Nat.blt d n = true := by exact rfl) :
    At β n Γ H F (wpList P ops Q (o :: rest)) := at_sti hw hd hn h k
theorem sk (k : At β n ((d, undef) :: Γ) H F (wpList P ops Q rest)) (hw : want ops Γ o = some false := by exact rfl) (hd : o.dst = some d := by exact rfl) (hn : Nat.blt d n = true := by exact rfl) :
    At β n Γ H F (wpList P ops Q (o :: rest)) := at_skipped hw hd hn k
theorem sp2 (hT : TabOk P T) {o2 : Oper} {d2 : Nat} {v2 : Value} (k : At β n ((d2, v2) :: (d, v) :: Γ) H F (wpList P ops Q rest)) (w0 : want ops (Γ) o = some true := by exact rfl) (e0 : o.dst = some d := by exact rfl) (l0 : Nat.blt d n = true := by exact rfl) (p0 : pureOp T (Γ) o.op = some v := by exact rfl) (w1 : want ops ((d, v) :: Γ) o2 = some true := by exact rfl) (e1 : o2.dst = some d2 := by exact rfl) (l1 : Nat.blt d2 n = true := by exact rfl) (p1 : pureOp T ((d, v) :: Γ) o2.op = some v2 := by exact rfl) :
    At β n Γ H F (wpList P ops Q (o :: o2 :: rest)) := sp hT (sp hT (k) w1 e1 l1 p1) w0 e0 l0 p0
theorem sk2 {o2 : Oper} {d2 : Nat} (k : At β n ((d2, undef) :: (d, undef) :: Γ) H F (wpList P ops Q rest)) (w0 : want ops (Γ) o = some false := by exact rfl) (e0 : o.dst = some d := by exact rfl) (l0 : Nat.blt d n = true := by exact rfl) (w1 : want ops ((d, undef) :: Γ) o2 = some false := by exact rfl) (e1 : o2.dst = some d2 := by exact rfl) (l1 : Nat.blt d2 n = true := by exact rfl) :
    At β n Γ H F (wpList P ops Q (o :: o2 :: rest)) := sk (sk (k) w1 e1 l1) w0 e0 l0
theorem sp3 (hT : TabOk P T) {o2 o3 : Oper} {d2 d3 : Nat} {v2 v3 : Value} (k : At β n ((d3, v3) :: (d2, v2) :: (d, v) :: Γ) H F (wpList P ops Q rest)) (w0 : want ops (Γ) o = some true := by exact rfl) (e0 : o.dst = some d := by exact rfl) (l0 : Nat.blt d n = true := by exact rfl) (p0 : pureOp T (Γ) o.op = some v := by exact rfl) (w1 : want ops ((d, v) :: Γ) o2 = some true := by exact rfl) (e1 : o2.dst = some d2 := by exact rfl) (l1 : Nat.blt d2 n = true := by exact rfl) (p1 : pureOp T ((d, v) :: Γ) o2.op = some v2 := by exact rfl) (w2 : want ops ((d2, v2) :: (d, v) :: Γ) o3 = some true := by exact rfl) (e2 : o3.dst = some d3 := by exact rfl) (l2 : Nat.blt d3 n = true := by exact rfl) (p2 : pureOp T ((d2, v2) :: (d, v) :: Γ) o3.op = some v3 := by exact rfl) :
    At β n Γ H F (wpList P ops Q (o :: o2 :: o3 :: rest)) := sp hT (sp hT (sp hT (k) w2 e2 l2 p2) w1 e1 l1 p1) w0 e0 l0 p0
theorem sk3 {o2 o3 : Oper} {d2 d3 : Nat} (k : At β n ((d3, undef) :: (d2, undef) :: (d, undef) :: Γ) H F (wpList P ops Q rest)) (w0 : want ops (Γ) o = some false := by exact rfl) (e0 : o.dst = some d := by exact rfl) (l0 : Nat.blt d n = true := by exact rfl) (w1 : want ops ((d, undef) :: Γ) o2 = some false := by exact rfl) (e1 : o2.dst = some d2 := by exact rfl) (l1 : Nat.blt d2 n = true := by exact rfl) (w2 : want ops ((d2, undef) :: (d, undef) :: Γ) o3 = some false := by exact rfl) (e2 : o3.dst = some d3 := by exact rfl) (l2 : Nat.blt d3 n = true := by exact rfl) :
    At β n Γ H F (wpList P ops Q (o :: o2 :: o3 :: rest)) := sk (sk (sk (k) w2 e2 l2) w1 e1 l1) w0 e0 l0
theorem sp4 (hT : TabOk P T) {o2 o3 o4 : Oper} {d2 d3 d4 : Nat} {v2 v3 v4 : Value} (k : At β n ((d4, v4) :: (d3, v3) :: (d2, v2) :: (d, v) :: Γ) H F (wpList P ops Q rest)) (w0 : want ops (Γ) o = some true := by exact rfl) (e0 : o.dst = some d := by exact rfl) (l0 : Nat.blt d n = true := by exact rfl) (p0 : pureOp T (Γ) o.op = some v := by exact rfl) (w1 : want ops ((d, v) :: Γ) o2 = some true := by exact rfl) (e1 : o2.dst = some d2 := by exact rfl) (l1 : Nat.blt d2 n = true := by exact rfl) (p1 : pureOp T ((d, v) :: Γ) o2.op = some v2 := by exact rfl) (w2 : want ops ((d2, v2) :: (d, v) :: Γ) o3 = some true := by exact rfl) (e2 : o3.dst = some d3 := by exact rfl) (l2 : Nat.blt d3 n = true := by exact rfl) (p2 : pureOp T ((d2, v2) :: (d, v) :: Γ) o3.op = some v3 := by exact rfl) (w3 : want ops ((d3, v3) :: (d2, v2) :: (d, v) :: Γ) o4 = some true := by exact rfl) (e3 : o4.dst = some d4 := by exact rfl) (l3 : Nat.blt d4 n = true := by exact rfl) (p3 : pureOp T ((d3, v3) :: (d2, v2) :: (d, v) :: Γ) o4.op = some v4 := by exact rfl) :
    At β n Γ H F (wpList P ops Q (o :: o2 :: o3 :: o4 :: rest)) := sp hT (sp hT (sp hT (sp hT (k) w3 e3 l3 p3) w2 e2 l2 p2) w1 e1 l1 p1) w0 e0 l0 p0
theorem sk4 {o2 o3 o4 : Oper} {d2 d3 d4 : Nat} (k : At β n ((d4, undef) :: (d3, undef) :: (d2, undef) :: (d, undef) :: Γ) H F (wpList P ops Q rest)) (w0 : want ops (Γ) o = some false := by exact rfl) (e0 : o.dst = some d := by exact rfl) (l0 : Nat.blt d n = true := by exact rfl) (w1 : want ops ((d, undef) :: Γ) o2 = some false := by exact rfl) (e1 : o2.dst = some d2 := by exact rfl) (l1 : Nat.blt d2 n = true := by exact rfl) (w2 : want ops ((d2, undef) :: (d, undef) :: Γ) o3 = some false := by exact rfl) (e2 : o3.dst = some d3 := by exact rfl) (l2 : Nat.blt d3 n = true := by exact rfl) (w3 : want ops ((d3, undef) :: (d2, undef) :: (d, undef) :: Γ) o4 = some false := by exact rfl) (e3 : o4.dst = some d4 := by exact rfl) (l3 : Nat.blt d4 n = true := by exact rfl) :
    At β n Γ H F (wpList P ops Q (o :: o2 :: o3 :: o4 :: rest)) := sk (sk (sk (sk (k) w3 e3 l3) w2 e2 l2) w1 e1 l1) w0 e0 l0
theorem kT1 {c0 c1 : Chunk} {l : List Chunk} : Take (c0 :: c1 :: l) c1 (c0 :: l) := Take.tail (Take.head)
theorem kT2 {c0 c1 c2 : Chunk} {l : List Chunk} : Take (c0 :: c1 :: c2 :: l) c2 (c0 :: c1 :: l) := Take.tail (Take.tail (Take.head))
theorem kT3 {c0 c1 c2 c3 : Chunk} {l : List Chunk} : Take (c0 :: c1 :: c2 :: c3 :: l) c3 (c0 :: c1 :: c2 :: l) := Take.tail (Take.tail (Take.tail (Take.head)))
theorem kT4 {c0 c1 c2 c3 c4 : Chunk} {l : List Chunk} : Take (c0 :: c1 :: c2 :: c3 :: c4 :: l) c4 (c0 :: c1 :: c2 :: c3 :: l) := Take.tail (Take.tail (Take.tail (Take.tail (Take.head))))
theorem kT5 {c0 c1 c2 c3 c4 c5 : Chunk} {l : List Chunk} : Take (c0 :: c1 :: c2 :: c3 :: c4 :: c5 :: l) c5 (c0 :: c1 :: c2 :: c3 :: c4 :: l) := Take.tail (Take.tail (Take.tail (Take.tail (Take.tail (Take.head)))))
theorem kT6 {c0 c1 c2 c3 c4 c5 c6 : Chunk} {l : List Chunk} : Take (c0 :: c1 :: c2 :: c3 :: c4 :: c5 :: c6 :: l) c6 (c0 :: c1 :: c2 :: c3 :: c4 :: c5 :: l) := Take.tail (Take.tail (Take.tail (Take.tail (Take.tail (Take.tail (Take.head))))))
theorem kT7 {c0 c1 c2 c3 c4 c5 c6 c7 : Chunk} {l : List Chunk} : Take (c0 :: c1 :: c2 :: c3 :: c4 :: c5 :: c6 :: c7 :: l) c7 (c0 :: c1 :: c2 :: c3 :: c4 :: c5 :: c6 :: l) := Take.tail (Take.tail (Take.tail (Take.tail (Take.tail (Take.tail (Take.tail (Take.head)))))))
theorem kT8 {c0 c1 c2 c3 c4 c5 c6 c7 c8 : Chunk} {l : List Chunk} : Take (c0 :: c1 :: c2 :: c3 :: c4 :: c5 :: c6 :: c7 :: c8 :: l) c8 (c0 :: c1 :: c2 :: c3 :: c4 :: c5 :: c6 :: c7 :: l) := Take.tail (Take.tail (Take.tail (Take.tail (Take.tail (Take.tail (Take.tail (Take.tail (Take.head))))))))
theorem kT9 {c0 c1 c2 c3 c4 c5 c6 c7 c8 c9 : Chunk} {l : List Chunk} : Take (c0 :: c1 :: c2 :: c3 :: c4 :: c5 :: c6 :: c7 :: c8 :: c9 :: l) c9 (c0 :: c1 :: c2 :: c3 :: c4 :: c5 :: c6 :: c7 :: c8 :: l) := Take.tail (Take.tail (Take.tail (Take.tail (Take.tail (Take.tail (Take.tail (Take.tail (Take.tail (Take.head)))))))))
theorem kT10 {c0 c1 c2 c3 c4 c5 c6 c7 c8 c9 c10 : Chunk} {l : List Chunk} : Take (c0 :: c1 :: c2 :: c3 :: c4 :: c5 :: c6 :: c7 :: c8 :: c9 :: c10 :: l) c10 (c0 :: c1 :: c2 :: c3 :: c4 :: c5 :: c6 :: c7 :: c8 :: c9 :: l) := Take.tail (Take.tail (Take.tail (Take.tail (Take.tail (Take.tail (Take.tail (Take.tail (Take.tail (Take.tail (Take.head))))))))))
theorem kT11 {c0 c1 c2 c3 c4 c5 c6 c7 c8 c9 c10 c11 : Chunk} {l : List Chunk} : Take (c0 :: c1 :: c2 :: c3 :: c4 :: c5 :: c6 :: c7 :: c8 :: c9 :: c10 :: c11 :: l) c11 (c0 :: c1 :: c2 :: c3 :: c4 :: c5 :: c6 :: c7 :: c8 :: c9 :: c10 :: l) := Take.tail (Take.tail (Take.tail (Take.tail (Take.tail (Take.tail (Take.tail (Take.tail (Take.tail (Take.tail (Take.tail (Take.head)))))))))))
theorem kT12 {c0 c1 c2 c3 c4 c5 c6 c7 c8 c9 c10 c11 c12 : Chunk} {l : List Chunk} : Take (c0 :: c1 :: c2 :: c3 :: c4 :: c5 :: c6 :: c7 :: c8 :: c9 :: c10 :: c11 :: c12 :: l) c12 (c0 :: c1 :: c2 :: c3 :: c4 :: c5 :: c6 :: c7 :: c8 :: c9 :: c10 :: c11 :: l) := Take.tail (Take.tail (Take.tail (Take.tail (Take.tail (Take.tail (Take.tail (Take.tail (Take.tail (Take.tail (Take.tail (Take.tail (Take.head))))))))))))
theorem kT13 {c0 c1 c2 c3 c4 c5 c6 c7 c8 c9 c10 c11 c12 c13 : Chunk} {l : List Chunk} : Take (c0 :: c1 :: c2 :: c3 :: c4 :: c5 :: c6 :: c7 :: c8 :: c9 :: c10 :: c11 :: c12 :: c13 :: l) c13 (c0 :: c1 :: c2 :: c3 :: c4 :: c5 :: c6 :: c7 :: c8 :: c9 :: c10 :: c11 :: c12 :: l) := Take.tail (Take.tail (Take.tail (Take.tail (Take.tail (Take.tail (Take.tail (Take.tail (Take.tail (Take.tail (Take.tail (Take.tail (Take.tail (Take.head)))))))))))))
theorem mT0 {α : Type} {a0 : α} {l : List α} : a0 ∈ a0 :: l := .head _
theorem mT1 {α : Type} {a0 a1 : α} {l : List α} : a1 ∈ a0 :: a1 :: l := .tail _ (.head _)
theorem mT2 {α : Type} {a0 a1 a2 : α} {l : List α} : a2 ∈ a0 :: a1 :: a2 :: l := .tail _ (.tail _ (.head _))
theorem mT3 {α : Type} {a0 a1 a2 a3 : α} {l : List α} : a3 ∈ a0 :: a1 :: a2 :: a3 :: l := .tail _ (.tail _ (.tail _ (.head _)))
theorem mT4 {α : Type} {a0 a1 a2 a3 a4 : α} {l : List α} : a4 ∈ a0 :: a1 :: a2 :: a3 :: a4 :: l := .tail _ (.tail _ (.tail _ (.tail _ (.head _))))
theorem mT5 {α : Type} {a0 a1 a2 a3 a4 a5 : α} {l : List α} : a5 ∈ a0 :: a1 :: a2 :: a3 :: a4 :: a5 :: l := .tail _ (.tail _ (.tail _ (.tail _ (.tail _ (.head _)))))
theorem mT6 {α : Type} {a0 a1 a2 a3 a4 a5 a6 : α} {l : List α} : a6 ∈ a0 :: a1 :: a2 :: a3 :: a4 :: a5 :: a6 :: l := .tail _ (.tail _ (.tail _ (.tail _ (.tail _ (.tail _ (.head _))))))
theorem mT7 {α : Type} {a0 a1 a2 a3 a4 a5 a6 a7 : α} {l : List α} : a7 ∈ a0 :: a1 :: a2 :: a3 :: a4 :: a5 :: a6 :: a7 :: l := .tail _ (.tail _ (.tail _ (.tail _ (.tail _ (.tail _ (.tail _ (.head _)))))))
theorem mT8 {α : Type} {a0 a1 a2 a3 a4 a5 a6 a7 a8 : α} {l : List α} : a8 ∈ a0 :: a1 :: a2 :: a3 :: a4 :: a5 :: a6 :: a7 :: a8 :: l := .tail _ (.tail _ (.tail _ (.tail _ (.tail _ (.tail _ (.tail _ (.tail _ (.head _))))))))
theorem mT9 {α : Type} {a0 a1 a2 a3 a4 a5 a6 a7 a8 a9 : α} {l : List α} : a9 ∈ a0 :: a1 :: a2 :: a3 :: a4 :: a5 :: a6 :: a7 :: a8 :: a9 :: l := .tail _ (.tail _ (.tail _ (.tail _ (.tail _ (.tail _ (.tail _ (.tail _ (.tail _ (.head _)))))))))
theorem mT10 {α : Type} {a0 a1 a2 a3 a4 a5 a6 a7 a8 a9 a10 : α} {l : List α} : a10 ∈ a0 :: a1 :: a2 :: a3 :: a4 :: a5 :: a6 :: a7 :: a8 :: a9 :: a10 :: l := .tail _ (.tail _ (.tail _ (.tail _ (.tail _ (.tail _ (.tail _ (.tail _ (.tail _ (.tail _ (.head _))))))))))
theorem mT11 {α : Type} {a0 a1 a2 a3 a4 a5 a6 a7 a8 a9 a10 a11 : α} {l : List α} : a11 ∈ a0 :: a1 :: a2 :: a3 :: a4 :: a5 :: a6 :: a7 :: a8 :: a9 :: a10 :: a11 :: l := .tail _ (.tail _ (.tail _ (.tail _ (.tail _ (.tail _ (.tail _ (.tail _ (.tail _ (.tail _ (.tail _ (.head _)))))))))))
theorem mT12 {α : Type} {a0 a1 a2 a3 a4 a5 a6 a7 a8 a9 a10 a11 a12 : α} {l : List α} : a12 ∈ a0 :: a1 :: a2 :: a3 :: a4 :: a5 :: a6 :: a7 :: a8 :: a9 :: a10 :: a11 :: a12 :: l := .tail _ (.tail _ (.tail _ (.tail _ (.tail _ (.tail _ (.tail _ (.tail _ (.tail _ (.tail _ (.tail _ (.tail _ (.head _))))))))))))
theorem mT13 {α : Type} {a0 a1 a2 a3 a4 a5 a6 a7 a8 a9 a10 a11 a12 a13 : α} {l : List α} : a13 ∈ a0 :: a1 :: a2 :: a3 :: a4 :: a5 :: a6 :: a7 :: a8 :: a9 :: a10 :: a11 :: a12 :: a13 :: l := .tail _ (.tail _ (.tail _ (.tail _ (.tail _ (.tail _ (.tail _ (.tail _ (.tail _ (.tail _ (.tail _ (.tail _ (.tail _ (.head _)))))))))))))
theorem mT14 {α : Type} {a0 a1 a2 a3 a4 a5 a6 a7 a8 a9 a10 a11 a12 a13 a14 : α} {l : List α} : a14 ∈ a0 :: a1 :: a2 :: a3 :: a4 :: a5 :: a6 :: a7 :: a8 :: a9 :: a10 :: a11 :: a12 :: a13 :: a14 :: l := .tail _ (.tail _ (.tail _ (.tail _ (.tail _ (.tail _ (.tail _ (.tail _ (.tail _ (.tail _ (.tail _ (.tail _ (.tail _ (.tail _ (.head _))))))))))))))
theorem mT15 {α : Type} {a0 a1 a2 a3 a4 a5 a6 a7 a8 a9 a10 a11 a12 a13 a14 a15 : α} {l : List α} : a15 ∈ a0 :: a1 :: a2 :: a3 :: a4 :: a5 :: a6 :: a7 :: a8 :: a9 :: a10 :: a11 :: a12 :: a13 :: a14 :: a15 :: l := .tail _ (.tail _ (.tail _ (.tail _ (.tail _ (.tail _ (.tail _ (.tail _ (.tail _ (.tail _ (.tail _ (.tail _ (.tail _ (.tail _ (.tail _ (.head _)))))))))))))))
theorem ldO (hT : TabOk P T) {t b q : Nat} {p : Operand} {cs : List Value} {i : TI} (hk : Knows β H F b q cs) (ho : o.op = .load t p := by exact rfl) (hp : Γ.ev p = some (.pointer (some ⟨b, q, none⟩)) := by exact rfl) (ht : T.get t = some i := by exact rfl) (ha : aggD i.desc = false := by exact rfl)
    (hv : cs[0]? = some v := by exact rfl) : Sti P β n Γ H F o v := sti_load1 hT hk ho hp ht ha hv
theorem ldN (hT : TabOk P T) {t b q : Nat} {p : Operand} {cs l : List Value} {i : TI} (hk : Knows β H F b q cs) (ho : o.op = .load t p := by exact rfl) (hp : Γ.ev p = some (.pointer (some ⟨b, q, none⟩)) := by exact rfl) (ht : T.get t = some i := by exact rfl) (ha : aggD i.desc = true := by exact rfl)
    (hv : cut cs 0 i.size = some l := by exact rfl) : Sti P β n Γ H F o (.agg l.toArray) := sti_loadN hT hk ho hp ht ha hv
theorem sto (hT : TabOk P T) {t t' b off : Nat} {p x : Operand} {vs cs cs' : List Value} {i : TI} {H' : List Chunk} (hH : Take H (.obj b (.cells cs.toArray t')) H') (k : At β n Γ (.obj b (.cells cs'.toArray t') :: H') F (wpList P ops Q rest)) (hw : want ops Γ o = some true := by exact rfl) (ho : o.op = .store t p x := by exact rfl) (hd : o.dst = none := by exact rfl)
    (hp : Γ.ev p = some (.pointer (some ⟨b, off, none⟩)) := by exact rfl) (hx : Γ.ev x = some v := by exact rfl) (ht : T.get t = some i := by exact rfl) (hc : v.cells = vs.toArray := by exact rfl) (hs : Nat.beq vs.length i.size = true := by exact rfl)
    (h1 : vs.all (·.oneCell') = true := by exact rfl) (hput : paste cs off vs = some cs' := by exact rfl) : At β n Γ H F (wpList P ops Q (o :: rest)) := at_store hT hw ho hd hp hx hH ht hc hs h1 hput k
theorem sr {id : Nat} {l : List Oper} {y : Code} (h : At β n Γ H F (wpList P l.toArray (Exit.then (y.wp P Q) Q) l)) : At β n Γ H F ((Code.seq (Code.region id l.toArray false) y).wp P Q) := at_seq (at_region h)
theorem nn (h : At β n Γ H F K) : At β n Γ H F (wpList P ops (Exit.then K Q) []) := at_nil (n_then h)
end
end Go.Proofs.YtngkedmndhmjcaaGreatDoor
