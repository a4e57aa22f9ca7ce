/- The engine's rules for memory: the operations of Pure are sound; blocks of the call's own; memory that stays; slices; calls. -/
import Derived.Test.YtngkedmndhmjcaaGreatDoorPure
namespace Go.Proofs.YtngkedmndhmjcaaGreatDoor
open Go.RowKit

section
variable {P : Program} {β : Base} {n : Nat} {Γ : Env} {H : List Chunk} {F : List Fact} {Q : Exit → Act → World → Prop} {K : Act → World → Prop} {T : Tab}

theorem run_part_agg (hT : TabOk P T) {t : Nat} {i : TI} (ht : T.get t = some i) (ha : aggD i.desc = true) (cs : Array Value) (off : Nat) {l : List Value} (h : cut cs.toList off i.size = some l) (w : World) : (part t cs off).run P w = .ok (.agg l.toArray) w := by
  unfold part
  rw [Sem.run_bind, hT.agg ht, Result.andThen_ok, ha]
  simp only [if_true, Sem.run_bind, hT.size ht, Result.andThen_ok, Sem.run_pure]
  obtain ⟨h1, _, _⟩ := cut_spec h
  rw [h1]
  congr 2
  apply Array.ext'
  simp [Array.toList_extract, List.extract_eq_take_drop]
theorem run_part_one (hT : TabOk P T) {t : Nat} {i : TI} (ht : T.get t = some i) (ha : aggD i.desc = false) (cs : Array Value) (off : Nat) {v : Value} (h : cs.toList[off]? = some v) (w : World) : (part t cs off).run P w = .ok v w := by
  unfold part
  rw [Sem.run_bind, hT.agg ht, Result.andThen_ok, ha]
  have : cs[off]? = some v := by simpa using h
  simp [this]

theorem binV_run (hT : TabOk P T) {op : BinOp} {xt : TypeId} {x y : Operand} {a b v : Value} (h : binV T op xt a b = some v) (w : World) :
    ((do eqGuard op xt x y a b; binOp op xt a b : Sem Value)).run P w = .ok v w := by
  unfold binV at h
  split at h
  · rename_i a b
    split at h
    · rename_i sz ht
      simp at h
      subst h
      obtain ⟨d, hu, hd⟩ := hT.any ht
      cases d <;> simp [TD.of] at hd
      have he : ∀ d, (Op.equalIn (d + 1) xt (.bool a) (.bool b)).run P w = .ok (a == b) w := fun d => by simp [Op.equalIn, run_underlying hu]
      have hb : (binOp .eql xt (.bool a) (.bool b)).run P w = .ok (.bool (a == b)) w := by
        simp only [binOp]
        rw [Sem.run_bind, show Op.equal xt (.bool a) (.bool b) = Op.equalIn 10000 xt (.bool a) (.bool b) from rfl, he 9999]
        rfl
      have hg : (eqGuard .eql xt x y (.bool a) (.bool b)).run P w = .ok () w := rfl
      rw [Sem.run_bind, hg, Result.andThen_ok, hb]
    · rename_i sz ht
      simp at h
      subst h
      obtain ⟨d, hu, hd⟩ := hT.any ht
      cases d <;> simp [TD.of] at hd
      have he : ∀ d, (Op.equalIn (d + 1) xt (.bool a) (.bool b)).run P w = .ok (a == b) w := fun d => by simp [Op.equalIn, run_underlying hu]
      have hb : (binOp .neq xt (.bool a) (.bool b)).run P w = .ok (.bool (a != b)) w := by
        simp only [binOp]
        rw [Sem.run_bind, show Op.equal xt (.bool a) (.bool b) = Op.equalIn 10000 xt (.bool a) (.bool b) from rfl, he 9999]
        rfl
      have hg : (eqGuard .neq xt x y (.bool a) (.bool b)).run P w = .ok () w := rfl
      rw [Sem.run_bind, hg, Result.andThen_ok, hb]
    · cases h
  · exact pureBin_run h w
theorem pureOp_run (hT : TabOk P T) {o : Oper} {v : Value} {a : Act} (f : Fits n Γ a) (h : pureOp T Γ o.op = some v) (w : World) : (execOp a.eval o).run P w = .ok (.value v) w := by
  unfold execOp
  unfold pureOp at h
  split at h
  · rename_i x ho; simp [ho, f.ev h]
  · rename_i x ho; simp [ho, f.ev h]
  · rename_i c x y ho
    split at h
    · rename_i hc; simp [ho, f.ev hc, f.ev h, asBool]
    · rename_i hc; simp [ho, f.ev hc, f.ev h, asBool]
    · cases h
  · rename_i op xt x y yt ho
    split at h
    · rename_i u hu
      split at h
      · rename_i v' hv
        have := binV_run hT (x := x) (y := y) h w
        simp only [ho, f.ev hu, f.ev hv]
        rw [Sem.run_bind, this]
        rfl
      · cases h
    · cases h
  · rename_i op xt x ho
    split at h
    · rename_i b hb; simp at h; subst h; simp [ho, f.ev hb, Op.unary]
    · rename_i k b hb; simp at h; subst h; simp [ho, f.ev hb, Op.unary, Op.intArith]
    · cases h
  · rename_i s d x ho
    split at h
    · rename_i is k sz kk b hs hd hx
      simp at h
      subst h
      obtain ⟨ds, hds, _⟩ := hT.any hs
      simp only [ho, f.ev hx, convert, Sem.run_bind, run_underlying hds, hT.int hd, Result.andThen_ok, Conv.intToInt, Sem.run_pure]
    · cases h
  · rename_i x i ho
    split at h
    · rename_i vs hx
      have : vs[i]? = some v := by simpa using h
      simp [ho, f.ev hx, Instr.extract, this]
    · cases h
  · rename_i s x fi ho
    split at h
    · rename_i fs sz b off hs hx
      obtain ⟨gs, hgs, hmap⟩ := hT.struct hs
      split at h
      · rename_i ft fo hfd
        obtain ⟨g, hg, rfl, rfl⟩ := field_at hmap hfd
        split at h
        · rename_i de k hft
          simp at h
          subst h
          simp only [ho, f.ev hx, Instr.fieldAt, Sem.run_bind, hgs, Result.andThen_ok, hg, Instr.sureAddr, Sem.run_pure, fieldPlace, hT.size hft, addr_add]
          rfl
        · cases h
      · cases h
    · cases h
  · rename_i s x fi ho
    split at h
    · rename_i fs sz cs hs hx
      obtain ⟨gs, hgs, hmap⟩ := hT.struct hs
      split at h
      · rename_i ft fo hfd
        obtain ⟨g, hg, rfl, rfl⟩ := field_at hmap hfd
        split at h
        · rename_i ti hft
          cases hagg : aggD ti.desc with
          | true =>
            simp only [hagg, cond_true] at h
            split at h
            · rename_i l hl
              simp at h
              subst h
              have hp := run_part_agg hT hft hagg cs g.offset hl w
              simp only [ho, f.ev hx, Instr.field, Sem.run_bind, hgs, Result.andThen_ok, hg, asAgg, Sem.run_pure, hp]
            · cases h
          | false =>
            simp only [hagg, cond_false] at h
            have hp := run_part_one hT hft hagg cs g.offset h w
            simp only [ho, f.ev hx, Instr.field, Sem.run_bind, hgs, Result.andThen_ok, hg, asAgg, Sem.run_pure, hp]
        · cases h
      · cases h
    · cases h
  · rename_i x ho
    split at h
    · rename_i ad hx; simp at h; subst h; simp [ho, f.ev hx]
    · cases h
  · rename_i fn first cap ho
    split at h
    · rename_i a1 h1
      split at h
      · rename_i b1 h2
        simp at h
        subst h
        have e1 : first.map a.eval = a1.toArray := by apply Array.ext'; simpa using f.evs h1
        have e2 : cap.map a.eval = b1.toArray := by apply Array.ext'; simpa using f.evs h2
        simp only [ho, e1, e2, Instr.makeFunc]
        rfl
      · cases h
    · cases h
  · rename_i args ts ho
    split at h
    · rename_i x t hxa hta
      have ha : args = #[x] := by apply Array.ext'; simpa using hxa
      have hb : ts = #[t] := by apply Array.ext'; simpa using hta
      subst ha hb
      split at h
      · rename_i e sz A k c ht hx; simp at h; subst h
        simp [ho, resolve, invoke, builtin, Builtin.len_, f.ev hx, hT.slice ht, goInt]
      · rename_i sz s ht hx; simp at h; subst h
        simp [ho, resolve, invoke, builtin, Builtin.len_, f.ev hx, hT.string ht, goInt]
      · rename_i k e sz u ht hx; simp at h; subst h
        simp [ho, resolve, invoke, builtin, Builtin.len_, hT.array ht, goInt]
      · cases h
    · cases h
  · rename_i args ts ho
    split at h
    · rename_i x y hxa
      have ha : args = #[x, y] := by apply Array.ext'; simpa using hxa
      subst ha
      split at h
      · rename_i k a' kk b hx hy; simp at h; subst h
        simp [ho, resolve, invoke, builtin, Builtin.max_, Builtin.max2, f.ev hx, f.ev hy]
      · cases h
    · cases h
  · rename_i args ts ho
    split at h
    · rename_i x y hxa
      have ha : args = #[x, y] := by apply Array.ext'; simpa using hxa
      subst ha
      split at h
      · rename_i k a' kk b hx hy; simp at h; subst h
        simp [ho, resolve, invoke, builtin, Builtin.min_, Builtin.min2, f.ev hx, f.ev hy]
      · cases h
    · cases h
  · cases h

theorem det_pure (hT : TabOk P T) {o : Oper} {v : Value} (h : pureOp T Γ o.op = some v) : Det P β n Γ H F o v := det_of fun _ w _ f _ _ => pureOp_run hT f h w
end

end Go.Proofs.YtngkedmndhmjcaaGreatDoor
