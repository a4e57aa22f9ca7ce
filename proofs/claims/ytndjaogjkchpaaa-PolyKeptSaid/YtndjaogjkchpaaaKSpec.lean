/- Sums and products as contracts that hand over a row of the caller's own (held); what PolyKept writes into them. -/
import Derived.Test.YtndjaogjkchpaaaPLaw
import Derived.Test.YtndjaogjkchpaaaHeld
namespace Go.Proofs.Ytndjaogjkchpaaa
open Go.RowKit Go.Sort

theorem row_held {B : Nat} {w : World} {A : Option Addr} {c : Nat} {l : List Mono} (h : Res B w (.slice A l.length c) l) : (monoE.held (.slice A l.length c) l).ok w ∧ ∀ b, (monoE.held (.slice A l.length c) l).blk = some b → B ≤ b ∧ b < w.heap.size := by
  obtain ⟨A', c', e, hr⟩ := h
  injection e with e1 e2 e3
  subst e1 e3
  cases l with
  | nil => exact ⟨⟨A, c, rfl, .inl rfl⟩, fun b hb => by cases hb⟩
  | cons m r =>
    rcases hr with hr | ⟨g, rfl, hg, hr⟩
    · cases hr
    · have hlt : g < w.heap.size := hr.lt (by simp)
      refine ⟨⟨_, c, rfl, .inr ?_⟩, fun b hb => by injection hb with hb; subst hb; exact ⟨hg, hlt⟩⟩
      have h0 := hr 0 (by simp)
      have hc0 := h0.1
      rw [Nat.zero_add] at hc0
      unfold World.cell? at hc0
      cases ho : w.heap[g]? with
      | none => simp [ho] at hc0
      | some o =>
        cases o with
        | cells cs t fz =>
          refine ⟨g, 0, cs, t, fz, rfl, ho, fun j u hj => ?_⟩
          have hlen : j < (m :: r).length * 7 := by
            have := (List.getElem?_eq_some_iff.1 hj).1
            rw [Flat.all_length] at this
            exact this
          obtain ⟨q1, q2⟩ := hr j (by simpa using hlen)
          have hm := hr.monos (j / 7) ((m :: r)[j / 7]'(by omega)) (List.getElem?_eq_getElem (by omega))
          constructor
          · have hg2 := flat_get (m :: r) (j / 7) (j % 7) _ (List.getElem?_eq_getElem (by omega)) (Nat.mod_lt _ (by omega))
            have e : j / 7 * 7 + j % 7 = j := by omega
            rw [e] at hg2
            have hj2 : (flat (m :: r))[j]? = some u := hj
            rw [hj2] at hg2
            rw [get_flatK _ _ _ _ (by simpa using hlen)] at q1
            have e2 : (m :: r).toArray[j / 7]! = (m :: r)[j / 7]'(by omega) := by
              rw [getElem!_pos _ _ (by simp; simp at hlen; omega)]
              simp
            rw [e2] at q1
            have hjl : j % 7 < (((m :: r)[j / 7]'(by omega)).cells).length := by rw [Mono.cells_length]; exact Nat.mod_lt _ (by omega)
            rw [getElem!_pos (((m :: r)[j / 7]'(by omega)).cells) (j % 7) hjl] at q1
            rw [List.getElem?_eq_getElem hjl] at hg2
            injection hg2 with hg2
            rw [hg2]
            unfold World.cell? at q1
            rw [ho] at q1
            simpa using q1
          · unfold World.frozen? at q2
            rw [ho] at q2
            simpa using q2
        | _ => simp [ho] at hc0
theorem spec_gives_held {f : FuncId} {args : List Value} {Pre : List Fact} {r : List Mono × Int} (h : ∀ S w, (∀ b, S b → b < w.heap.size) → All Pre S w → Calls Try.prog f args.toArray w (Gives w r)) :
    Spec Try.prog f args [] Pre (fun x : Option Addr × Nat => .tuple #[.slice x.1 r.1.length x.2, .int .i64 r.2]) (fun x => [monoE.held (.slice x.1 r.1.length x.2) r.1]) (fun _ => []) := fun S w s k => by
  refine (h S w (fun b hb => (s.zone b hb).1) k).mono ?_
  intro e w' hg
  obtain ⟨v, rfl, hb, hr⟩ := hg
  obtain ⟨A, c, rfl, hr'⟩ := id hr
  obtain ⟨hok, hbl⟩ := row_held hr
  refine ⟨(A, c), S, rfl, ⟨Kept.of_below _ hb, fun c hc => ?_, fun c hc b hcb => ?_, List.pairwise_singleton .., fun b hb' => ⟨Nat.lt_of_lt_of_le (s.zone b hb').1 hb.size, .inl hb'⟩⟩, fun g hg => by simp at hg⟩
  · rw [List.mem_singleton.1 hc]; exact hok
  · rw [List.mem_singleton.1 hc] at hcb
    obtain ⟨q1, q2⟩ := hbl b hcb
    exact ⟨q2, .inr q1, fun h => absurd (s.zone b h).1 (by omega)⟩
section
variable (A B : Option Addr) (c d m n : Nat) (p q : List Mono)
theorem addH_spec (hp : p.length ≤ 140737488355328) (hq : q.length ≤ 140737488355328) : Spec Try.prog 24 [.slice A m c, .slice B n d] [] [monoE.sl (.slice A m c) p, monoE.sl (.slice B n d) q] (fun x : Option Addr × Nat => .tuple #[.slice x.1 (bothP p q 1).1.length x.2, .int .i64 (bothP p q 1).2]) (fun x => [monoE.held (.slice x.1 (bothP p q 1).1.length x.2) (bothP p q 1).1]) (fun _ => []) :=
  spec_gives_held fun _ w hS h => by
    obtain ⟨h1, rfl⟩ := monos_of hS (h _ (.head _))
    obtain ⟨h2, rfl⟩ := monos_of hS (h _ (.tail _ (.head _)))
    exact add_any A B c d p q w h1 h2 hp hq
theorem mulH_spec (hp : p.length ≤ 140737488355328) (hq : q.length ≤ 140737488355328) : Spec Try.prog 13 [.slice A m c, .slice B n d] [] [monoE.sl (.slice A m c) p, monoE.sl (.slice B n d) q] (fun x : Option Addr × Nat => .tuple #[.slice x.1 (mulP p q).1.length x.2, .int .i64 (mulP p q).2]) (fun x => [monoE.held (.slice x.1 (mulP p q).1.length x.2) (mulP p q).1]) (fun _ => []) :=
  spec_gives_held fun _ w hS h => by
    obtain ⟨h1, rfl⟩ := monos_of hS (h _ (.head _))
    obtain ⟨h2, rfl⟩ := monos_of hS (h _ (.tail _ (.head _)))
    exact mul_any A B c d p q w h1 h2 hp hq
end
section
variable {β : Base} {n : Nat} {Γ : Env} {H : List Chunk} {F : List Fact} {Q : Exit → Act → World → Prop}
/-- append(v, list...) where v is the call's own -/
theorem at_appAll {ops : Array Oper} {rest : List Oper} {o : Oper} {d : Nat} {x y : Operand} {c q : Nat} {v : Value} {A : Option Addr} {xs ys : List Mono} {H' : List Chunk} (hH : Take H (monoE.row v 39 xs) H') (hr : Reads β H F monoE A ys) (hg : o.guard = none)
    (ho : o.op = .call { callee := .builtin .append, args := #[x, y], argTypes := #[22, 22] }) (hd : o.dst = some d) (hn : Nat.blt d n = true)
    (hx : Γ.ev x = some v) (hy : Γ.ev y = some (.slice A q c)) (hq : q = ys.length) (hl : xs.length + ys.length ≤ 8796093022208)
    (k : ∀ A' cap', At β n ((d, .slice A' (xs ++ ys).length cap') :: Γ) (monoE.row (.slice A' (xs ++ ys).length cap') 39 (xs ++ ys) :: H') F (wpList Try.prog ops Q rest)) : At β n Γ H F (wpList Try.prog ops Q (o :: rest)) := by
  obtain ⟨i, hi, hz, hs, hb⟩ := monoInfo
  exact at_append_all hH hr hg ho hd hn Try.underlying22 hi hz hs hb rfl hx hy hq (by omega) (by decide) k
theorem at_none {ops : Array Oper} {rest : List Oper} {o : Oper} {d : Nat} (hw : want ops Γ o = some true) (ho : o.op = .buildSlice 22 0 #[]) (hd : o.dst = some d) (hn : Nat.blt d n = true)
    (k : ∀ b, At β n ((d, .slice (some ⟨b, 0, none⟩) 0 0) :: Γ) (monoE.row (.slice (some ⟨b, 0, none⟩) 0 0) 39 [] :: H) F (wpList Try.prog ops Q rest)) : At β n Γ H F (wpList Try.prog ops Q (o :: rest)) := by
  obtain ⟨i, hi, _⟩ := monoInfo
  exact at_build0 monoE hw ho hd hn Try.underlying22 hi k
end
/-- all factors turned into z -/
def Mono.withN (z : Int) (m : Mono) : Mono := ⟨z, m.e0, m.e1, m.e2, m.e3, m.e4, m.e5⟩
theorem put_start (z : Int) (l : List Mono) : l = (l.take 0).map (Mono.withN z) ++ l.drop 0 := by simp
theorem put_step {z : Int} {l cur : List Mono} {k : Nat} {x y : Mono} (h : cur = (l.take k).map (Mono.withN z) ++ l.drop k) (hx : cur[k]? = some x) (hk : k < l.length) (hy : y = Mono.withN z x) : cur.set k y = (l.take (k + 1)).map (Mono.withN z) ++ l.drop (k + 1) := by
  have hl : ((l.take k).map (Mono.withN z)).length = k := by simp; omega
  have hx' : l[k]? = some x := by
    rw [h, List.getElem?_append_right (by omega), hl, Nat.sub_self] at hx
    simpa using hx
  have hd : l.drop k = x :: l.drop (k + 1) := by rw [List.drop_eq_getElem_cons hk, (List.getElem?_eq_some_iff.1 hx').2]
  rw [h, hy, List.set_append_right _ _ (by omega), hl, Nat.sub_self, List.take_add_one, hx', List.map_append, Option.toList_some, List.map_singleton, hd]
  simp
theorem put_end {z : Int} {l cur : List Mono} {k : Nat} (h : cur = (l.take k).map (Mono.withN z) ++ l.drop k) (hk : l.length ≤ k) : cur = l.map (Mono.withN z) := by
  rw [h, List.take_of_length_le hk, List.drop_of_length_le hk]
  simp
theorem withN_at {z : Int} {l : List Mono} {k : Nat} {x y : Mono} (hx : (l.map (Mono.withN z))[k]? = some x) (hy : l[k]? = some y) : x = Mono.withN z y := by
  simp [hy] at hx
  exact hx.symm
theorem withN_n {z : Int} {l : List Mono} {k : Nat} {x : Mono} (hx : (l.map (Mono.withN z))[k]? = some x) : x.n = z := by
  rw [List.getElem?_map] at hx
  cases h : l[k]? with
  | none => simp [h] at hx
  | some y => simp [h] at hx; rw [← hx]; rfl
theorem withN_E {z : Int} {l : List Mono} {k : Nat} {x y : Mono} (hx : (l.map (Mono.withN z))[k]? = some x) (hy : l[k]? = some y) : (!x.sameE y) = false := by
  rw [withN_at hx hy]
  simp [Mono.sameE, Mono.withN]
theorem mul_fail {p q : List Mono} (h : (mulP p q).2 ≠ 0) : (mulP p q).1 = [] := by
  unfold mulP listedP at *
  split
  · split
    · rename_i h1 h2
      simp [h1, h2] at h
    · rfl
  · rfl
theorem run_neq_E (a b : Mono) (w : World) : (binOp .neq 37 (.agg #[.int .u8 a.e0.toNat, .int .u8 a.e1.toNat, .int .u8 a.e2.toNat, .int .u8 a.e3.toNat, .int .u8 a.e4.toNat, .int .u8 a.e5.toNat]) (.agg #[.int .u8 b.e0.toNat, .int .u8 b.e1.toNat, .int .u8 b.e2.toNat, .int .u8 b.e3.toNat, .int .u8 b.e4.toNat, .int .u8 b.e5.toNat])).run Try.prog w = .ok (.bool (!a.sameE b)) w := by
  rw [run_neq_struct, run_equalIn_E 9998 a b w]
  rfl
theorem noGuard_E : Try.prog.eqGuardType Try.prog.depth 37 = false := by kernel_rfl
theorem sti_neqE {β : Base} {n : Nat} {Γ : Env} {H : List Chunk} {F : List Fact} {o : Oper} {x y : Operand} {tt : TypeId} {a b : Mono} (ho : o.op = .binOp .neq 37 x y tt) (hx : Γ.ev x = some (.agg #[.int .u8 a.e0.toNat, .int .u8 a.e1.toNat, .int .u8 a.e2.toNat, .int .u8 a.e3.toNat, .int .u8 a.e4.toNat, .int .u8 a.e5.toNat])) (hy : Γ.ev y = some (.agg #[.int .u8 b.e0.toNat, .int .u8 b.e1.toNat, .int .u8 b.e2.toNat, .int .u8 b.e3.toNat, .int .u8 b.e4.toNat, .int .u8 b.e5.toNat])) : Sti Try.prog β n Γ H F o (.bool (!a.sameE b)) := fun c w S f s k => by
  have hg : (eqGuard .neq 37 x y (.agg #[.int .u8 a.e0.toNat, .int .u8 a.e1.toNat, .int .u8 a.e2.toNat, .int .u8 a.e3.toNat, .int .u8 a.e4.toNat, .int .u8 a.e5.toNat]) (.agg #[.int .u8 b.e0.toNat, .int .u8 b.e1.toNat, .int .u8 b.e2.toNat, .int .u8 b.e3.toNat, .int .u8 b.e4.toNat, .int .u8 b.e5.toNat])).run Try.prog w = .ok () w := by
    unfold eqGuard
    rfl
  unfold execOp
  simp only [ho, f.ev hx, f.ev hy]
  rw [Sem.run_bind, Sem.run_bind, hg, Result.andThen_ok, run_neq_E]
  rfl
end Go.Proofs.Ytndjaogjkchpaaa
