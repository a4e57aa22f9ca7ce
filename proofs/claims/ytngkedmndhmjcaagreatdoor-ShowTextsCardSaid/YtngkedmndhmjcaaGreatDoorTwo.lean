/- The engine, second part: loops with a frame (what the loop does not change stays as it is), new slices, numbers as elements. -/
import Derived.Test.YtngkedmndhmjcaaGreatDoorMore
import Derived.Laws.MakeOwn
namespace Go.Proofs.YtngkedmndhmjcaaGreatDoor
open Go.RowKit

section
variable {P : Program} {β : Base} {n : Nat} {Γ : Env} {H : List Chunk} {F : List Fact} {Q : Exit → Act → World → Prop} {K : Act → World → Prop} {T : Tab} {α : Type} {E : Flat α}

theorem Env.Sub.append {Γ : Env} : ∀ {Δ Δ' : Env}, Γ.Sub Δ → Γ.Sub Δ' → Γ.Sub (Δ ++ Δ')
  | [], _, _, h => h
  | _ :: _, _, h, k => ⟨h.1, Env.Sub.append h.2 k⟩
theorem HasAll.append {F : List Fact} : ∀ {G G' : List Fact}, HasAll F G → HasAll F G' → HasAll F (G ++ G')
  | [], _, _, h => h
  | _ :: _, _, h, k => ⟨h.1, HasAll.append h.2 k⟩
theorem HasAll.drop (k : Nat) {F : List Fact} : HasAll F (F.drop k) := HasAll.sub fun _ h => List.mem_of_mem_drop h
theorem Sel.self : ∀ {H : List Chunk}, Sel H H
  | [] => .nil
  | _ :: _ => .cons .head Sel.self
theorem Split.sel {H R H2 : List Chunk} (h : Split H R H2) : Sel H (R ++ H2) := by
  induction h with
  | nil => exact Sel.self
  | cons h _ ih => exact .cons h ih

/-- a loop: Δ are the slots that stay, G those that turn; Hr the chunks that stay, HH those that turn; all facts stay -/
theorem at_loop2 {ι : Type} {c : Code} (Δ : Env) (hΔ : Γ.Sub Δ) (G : ι → Env) (HH : ι → List Chunk) {Hr : List Chunk} (FF : ι → List Fact) (μ : ι → Nat) (x0 : ι) (hG : Γ.Sub (G x0)) (hH : Split H (HH x0) Hr) (hF : HasAll F (FF x0))
    (round : ∀ x, At β n (G x ++ Δ) (HH x ++ Hr) (FF x ++ F) (c.wp P (Exit.then (Back β n (fun x => G x ++ Δ) (fun x => HH x ++ Hr) (fun x => FF x ++ F) μ (μ x)) Q))) : At β n Γ H F ((Code.loop c).wp P Q) :=
  at_loop (fun x => G x ++ Δ) (fun x => HH x ++ Hr) (fun x => FF x ++ F) μ x0 (hG.append hΔ) hH.sel (hF.append HasAll.self) round
theorem at_back2 {ι : Type} {G : ι → Env} {Δ : Env} {HH : ι → List Chunk} {Hr : List Chunk} {FF : ι → List Fact} {F0 : List Fact} {μ : ι → Nat} {m : Nat} (x : ι) (hμ : μ x < m) (hG : Γ.Sub (G x)) (hΔ : Γ.Sub Δ) (hH : Sel H (HH x ++ Hr)) (hF : HasAll F (FF x)) (hF0 : HasAll F F0) :
    At β n Γ H F (Back β n (fun x => G x ++ Δ) (fun x => HH x ++ Hr) (fun x => FF x ++ F0) μ m) :=
  at_back (G := fun x => G x ++ Δ) (HH := fun x => HH x ++ Hr) (FF := fun x => FF x ++ F0) x hμ (hG.append hΔ) hH (hF.append hF0)

/-- a new slice of zeros, the call's own -/
theorem at_make {ops : Array Oper} {rest : List Oper} {o : Oper} {d m : Nat} {t e : TypeId} {x y : Operand} {kx ky : IntKind} {i : TypeInfo} {z : Value} {xs : List α} (hw : want ops Γ o = some true) (ho : o.op = .makeSlice t x y) (hd : o.dst = some d) (hn : Nat.blt d n = true)
    (hx : Γ.ev x = some (.int kx (m : Nat))) (hy : Γ.ev y = some (.int ky (m : Nat))) (hu : P.underlying t = some (.slice e)) (hi : P.info? e = some i) (hz : i.zero = some z) (hsize : i.size = E.size) (hb : i.bytes * m ≤ 281474976710656) (hm : m ≤ maxLen)
    (hxs : (madeCells z.cells (m * E.size)).toList = E.all xs) (hl : xs.length = m) (k : ∀ b, At β n ((d, .slice (some ⟨b, 0, none⟩) m m) :: Γ) (E.row (.slice (some ⟨b, 0, none⟩) m m) e xs :: H) F (wpList P ops Q rest)) : At β n Γ H F (wpList P ops Q (o :: rest)) :=
  at_step hw fun a w S f s hk => by
    subst hl
    have hm' : (xs.length : Int) ≤ 9223372036854775807 := by simp [maxLen] at hm; omega
    have hb' : (i.bytes : Int) * (xs.length : Int) ≤ 281474976710656 := by
      have h : ((i.bytes * xs.length : Nat) : Int) ≤ 281474976710656 := by omega
      rwa [Int.natCast_mul] at h
    have hr := run_make (P := P) w t e i z hu hi hz kx ky xs.length xs.length (by omega) (Int.le_refl _) hb' hm'
    simp only [Int.toNat_natCast] at hr
    have hr' : (execOp a.eval o).run P w = .ok (.value (.slice (some ⟨w.heap.size, 0, none⟩) xs.length xs.length)) (w.alloc (.cells (madeCells z.cells (xs.length * i.size)) e)) := by
      unfold execOp
      simp only [ho, f.ev hx, f.ev hy]
      rw [Sem.run_bind, hr]
      rfl
    unfold Oper.wp
    rw [hr', Oper.upon_value, hd]
    have hown := World.ownsRow_lit w (base := 0) (e := e) (size := i.size) (madeCells z.cells (xs.length * i.size)) xs.length (Nat.zero_le _) hm (size_madeCells _ _)
    have s2 := s.alloc (.cells (madeCells z.cells (xs.length * i.size)) e)
    refine k w.heap.size _ _ S (f.put (by simpa [Nat.blt_eq] using hn) _) ⟨s2.kept, fun c hc => ?_, fun c hc b hb => ?_, ?_, s2.zone⟩ (All.alloc s hk _)
    · rcases List.mem_cons.1 hc with rfl | hc
      · show World.ownsRow _ _ _ _ _ _ _
        rw [← hxs, ← hsize]
        exact hown
      · exact s2.ok c (List.mem_cons_of_mem _ hc)
    · rcases List.mem_cons.1 hc with rfl | hc
      · exact s2.own (.obj w.heap.size (.cells (madeCells z.cells (xs.length * i.size)) e)) (List.mem_cons_self ..) b hb
      · exact s2.own c (List.mem_cons_of_mem _ hc) b hb
    · have hp := List.pairwise_cons.1 s2.sep
      exact List.pairwise_cons.2 ⟨fun d hd b hb => hp.1 d hd b hb, hp.2⟩
end

def intE : Flat Int where
  size := 1
  cells := fun z => [.int .i64 z]
  len := fun _ => rfl
  one := fun x u hu => by simp at hu; subst hu; rfl
  pos := by decide
theorem madeInts (m : Nat) : (madeCells (Value.int .i64 0).cells (m * 1)).toList = intE.all (List.replicate m 0) := by
  unfold madeCells Flat.all
  rw [Nat.mul_one]
  apply List.ext_getElem?
  intro i
  have e : (List.replicate m (0 : Int)).flatMap intE.cells = List.replicate m (Value.int .i64 0) := by
    show (List.replicate m (0 : Int)).flatMap (fun z => [Value.int .i64 z]) = _
    induction m with
    | zero => rfl
    | succ m ih => simp [List.replicate_succ, ih]
  rw [e]
  simp [List.getElem?_replicate, Value.cells]
  by_cases h : i < m <;> simp [h, Nat.mod_one]
end Go.Proofs.YtngkedmndhmjcaaGreatDoor
