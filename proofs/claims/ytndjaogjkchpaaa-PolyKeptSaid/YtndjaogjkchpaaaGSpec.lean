/- The contracts of poly.Grows, poly.Covers, poly.Eval in the engine's form. -/
import Derived.Test.YtndjaogjkchpaaaPLaw
import Derived.Test.YtndjaogjkchpaaaTwo
import Derived.Test.YtndjaogjkchpaaaGrow
import Derived.Test.YtndjaogjkchpaaaOpen
import Derived.Test.YtndjaogjkchpaaaLaw
namespace Go.Proofs.Ytndjaogjkchpaaa
open Go.RowKit

theorem ints_of {S : Zone} {w : World} {A : Option Addr} {k c : Nat} {l : List Int} (hS : ∀ b, S b → b < w.heap.size) (h : (intE.sl (.slice A k c) l).p S w) : Ints w A l ∧ k = l.length := by
  obtain ⟨A', cap, e, h⟩ := h
  injection e with e1 e2 e3
  subst e1 e2
  refine ⟨fun k m hk => ?_, rfl⟩
  obtain ⟨b, o, cs, e1, e2, e3, e4⟩ := h k m hk
  have e4 : cs = [.int .i64 m] := e4
  subst e4
  have := e3 0 _ rfl
  exact ⟨b, o, e1, hS b e2, by simpa [Enc.flat, intE] using this⟩
theorem sl_ints {w : World} {A : Option Addr} {c : Nat} {l : List Int} (h : Ints w A l) : (intE.sl (.slice A l.length c) l).p (fun b => b < w.heap.size) w := by
  refine ⟨A, c, rfl, fun k m hk => ?_⟩
  obtain ⟨b, o, e, hb, h0⟩ := h k m hk
  refine ⟨b, o, [.int .i64 m], e, hb, fun j u hj => ?_, rfl⟩
  have hlt := (List.getElem?_eq_some_iff.1 hj).1
  match j, hlt with
  | 0, _ => simp at hj; subst hj; simpa [Enc.flat, intE] using h0
section
variable (A B : Option Addr) (c d : Nat) (p : List Mono) (ds : List Int)
theorem grows_spec (hp : p.length ≤ 140737488355328) : Spec Try.prog 19 [.slice A p.length c] [] [monoE.sl (.slice A p.length c) p] (fun _ : Unit => .bool (growsB p)) (fun _ => []) (fun _ => []) :=
  spec_below fun _ w hS h => grows_any A c p w (monos_of hS (h _ (.head _))).1 hp
theorem covers_spec (n : Int) (hp : p.length ≤ 140737488355328) : Spec Try.prog 20 [.slice A p.length c, .int .i64 n] [] [monoE.sl (.slice A p.length c) p] (fun _ : Unit => .bool (coversB p n)) (fun _ => []) (fun _ => []) :=
  spec_below fun _ w hS h => covers_any A c p n w (monos_of hS (h _ (.head _))).1 hp
theorem eval_spec (m : Nat) (hp : p.length ≤ 140737488355328) (hd : ds.length ≤ 140737488355328) : Spec Try.prog 16 [.slice A p.length c, .slice B m d] [] [monoE.sl (.slice A p.length c) p, intE.sl (.slice B m d) ds] (fun _ : Unit => .tuple #[.int .i64 (evalP p ds).1, .int .i64 (evalP p ds).2]) (fun _ => []) (fun _ => []) :=
  spec_below fun _ w hS h => by
    obtain ⟨hi, rfl⟩ := ints_of hS (h _ (.tail _ (.head _)))
    exact eval_any A B c d p ds w (monos_of hS (h _ (.head _))).1 hi hp hd
end
theorem i64Info : ∃ i : TypeInfo, Try.prog.info? 2 = some i ∧ i.zero = some (.int .i64 0) ∧ i.size = 1 ∧ i.bytes = 8 := by
  have h : (Try.prog.info? 2).map (fun i => (i.zero, i.size, i.bytes)) = some (some (.int .i64 0), 1, 8) := by kernel_rfl
  cases hi : Try.prog.info? 2 with
  | none => simp [hi] at h
  | some i => simp [hi] at h; exact ⟨i, rfl, h.1, h.2.1, h.2.2⟩
/-- make([]int64, m) -/
theorem at_makeInts {β : Base} {n : Nat} {Γ : Env} {H : List Chunk} {F : List Fact} {Q : Exit → Act → World → Prop} {ops : Array Oper} {rest : List Oper} {o : Oper} {d m : Nat} {x y : Operand} (hw : want ops Γ o = some true) (ho : o.op = .makeSlice 28 x y) (hd : o.dst = some d) (hn : Nat.blt d n = true)
    (hx : Γ.ev x = some (.int .i64 (m : Nat))) (hy : Γ.ev y = some (.int .i64 (m : Nat))) (hm : m ≤ 35184372088832)
    (k : ∀ b, At β n ((d, .slice (some ⟨b, 0, none⟩) m m) :: Γ) (intE.row (.slice (some ⟨b, 0, none⟩) m m) 2 (List.replicate m 0) :: H) F (wpList Try.prog ops Q rest)) : At β n Γ H F (wpList Try.prog ops Q (o :: rest)) := by
  obtain ⟨i, hi, hz, hs, hb⟩ := i64Info
  exact at_make (E := intE) hw ho hd hn hx hy Try.underlying28 hi hz hs (by rw [hb]; omega) (by simp [maxLen]; omega) (madeInts m) (by simp) k
def monoTy : Ty Mono := ⟨monoE, fun m => Fact.pure ((Lit.int .i64 m.n).wf = true)⟩
theorem opens_mono {H : Type} {enc : TypeId × Value → H} {w : World} : Opens enc Try.prog w 39 monoTy.E.cells monoTy.deep := fun fuel cs x h _ => by
  obtain ⟨m, e, hw⟩ := read_mono h
  exact ⟨m, e, hw⟩
def sidesT : Tab := (35, ⟨.struct [(28, 0), (28, 1)], 2⟩) :: polyT
theorem sidesT_ok : TabOk Try.prog sidesT := fun t i h => by
  unfold sidesT Tab.get at h
  cases hb : Nat.beq 35 t with
  | true =>
    have := Nat.eq_of_beq_eq_true hb
    subst this
    simp at h
    subst h
    exact ⟨by rw [Try.underlying35]; rfl, by kernel_rfl⟩
  | false =>
    simp [hb] at h
    exact polyT_ok t i h
instance : Inhabited Mono := ⟨⟨0, 0, 0, 0, 0, 0, 0⟩⟩
end Go.Proofs.Ytndjaogjkchpaaa
