/- The engine: strings as lists of bytes: joining, bytes by their place, parts; values of functions called; variables of functions. -/
import Derived.Test.YtngkedmndhmjcaaGreatDoorOpen
import Derived.Test.YtngkedmndhmjcaaGreatDoorHeld
namespace Go.Proofs.YtngkedmndhmjcaaGreatDoor
open Go.RowKit

abbrev Bs := List UInt8
/-- a text as a value's bytes -/
def bs (l : Bs) : ByteArray := ⟨l.toArray⟩
theorem bs_size (l : Bs) : (bs l).size = l.length := rfl
theorem bs_data (l : Bs) : (bs l).data.toList = l := rfl
theorem bs_eq (s : ByteArray) : bs s.data.toList = s := rfl
theorem bs_inj {a b : Bs} (h : bs a = bs b) : a = b := congrArg (fun s : ByteArray => s.data.toList) h

section
variable {P : Program} {β : Base} {n : Nat} {Γ : Env} {H : List Chunk} {F : List Fact} {Q : Exit → Act → World → Prop} {K : Act → World → Prop} {T : Tab} {α : Type} {E : Flat α}

theorem sti_cat {o : Oper} {t tt : TypeId} {x y : Operand} {a b : Bs} (ho : o.op = .binOp .add t x y tt) (hx : Γ.ev x = some (.string (bs a))) (hy : Γ.ev y = some (.string (bs b))) (hl : a.length + b.length ≤ 9223372036854775807) : Sti P β n Γ H F o (.string (bs (a ++ b))) := fun c w S f s k => by
  have hl' : ¬ (((bs a).size + (bs b).size : Nat) : Int) > IntKind.i64.max := by
    rw [bs_size, bs_size]
    simp [IntKind.max, IntKind.signed, IntKind.bits]
    omega
  have e : bs a ++ bs b = bs (a ++ b) := by
    apply ByteArray.ext
    simp [bs]
  unfold execOp
  simp only [ho, f.ev hx, f.ev hy, eqGuard, binOp, Op.stringOp, if_neg hl', e]
  rfl
theorem sti_sindex (hT : TabOk P T) {o : Oper} {t k sz : Nat} {x i : Operand} {kk : IntKind} {z : Int} {a : Bs} {b : UInt8} (ho : o.op = .index t x i) (hx : Γ.ev x = some (.string (bs a))) (hi : Γ.ev i = some (.int kk z)) (ht : T.get t = some ⟨.string, sz⟩) (hz : z = (k : Nat)) (hb : a[k]? = some b) :
    Sti P β n Γ H F o (.int .u8 b.toNat) := fun c w S f s _ => by
  subst hz
  obtain ⟨hk, hb⟩ := List.getElem?_eq_some_iff.1 hb
  have hr := run_index_string (P := P) w t (bs a) kk (k : Int) (by
    have := hT.string ht w
    obtain ⟨d, hu, hd⟩ := hT.any ht
    cases d <;> simp [TD.of] at hd
    exact hu)
  rw [dif_pos ⟨by omega, by rw [bs_size]; omega⟩] at hr
  have e : (bs a)[(k : Int).toNat]'(by rw [bs_size]; simpa using hk) = b := by
    rw [← hb]
    simp [bs, ByteArray.getElem_eq_getElem_data]
  unfold execOp
  simp only [ho, f.ev hx, f.ev hi]
  rw [Sem.run_bind, hr, e]
  rfl
theorem TabOk.str (hT : TabOk P T) {t sz : Nat} (ht : T.get t = some ⟨.string, sz⟩) : P.underlying t = some .string := by
  obtain ⟨d, hu, hd⟩ := hT.any ht
  cases d <;> simp [TD.of] at hd
  exact hu
theorem run_slice_s (hT : TabOk P T) {t sz : Nat} (ht : T.get t = some ⟨.string, sz⟩) (a : Bs) (lo hi mx : Option Value) (w : World) : (Instr.sliceAt t (.string (bs a)) lo hi mx).run P w = (Instr.slice t (.string (bs a)) lo hi mx).run P w := by
  have hu := hT.str ht
  simp [Instr.sliceAt, run_underlying hu]
theorem sti_sfrom (hT : TabOk P T) {o : Oper} {t k sz : Nat} {x i : Operand} {kk : IntKind} {z : Int} {a : Bs} (ho : o.op = .slice t x (some i) none none) (hx : Γ.ev x = some (.string (bs a))) (hi : Γ.ev i = some (.int kk z)) (ht : T.get t = some ⟨.string, sz⟩) (hz : z = (k : Nat)) (hk : k ≤ a.length) :
    Sti P β n Γ H F o (.string (bs (a.drop k))) := fun c w S f s _ => by
  subst hz
  have hr := run_slice_string_l (P := P) w t (bs a) (hT.str ht) kk (k : Int) (by omega) (by rw [bs_size]; omega)
  have e : (bs a).extract (k : Int).toNat (bs a).size = bs (a.drop k) := by
    rw [bs_size]
    show (ByteArray.mk a.toArray).extract _ _ = _
    rw [ByteArray.extract_mk, List.take_of_length_le (by simp)]
    rfl
  unfold execOp
  simp only [ho, f.ev hx, Option.map_some, Option.map_none, f.ev hi]
  rw [Sem.run_bind, run_slice_s hT ht, hr, e]
  rfl
theorem sti_sto (hT : TabOk P T) {o : Oper} {t k sz : Nat} {x i : Operand} {kk : IntKind} {z : Int} {a : Bs} (ho : o.op = .slice t x none (some i) none) (hx : Γ.ev x = some (.string (bs a))) (hi : Γ.ev i = some (.int kk z)) (ht : T.get t = some ⟨.string, sz⟩) (hz : z = (k : Nat)) (hk : k ≤ a.length) :
    Sti P β n Γ H F o (.string (bs (a.take k))) := fun c w S f s _ => by
  subst hz
  have hr := run_slice_string_h (P := P) w t (bs a) (hT.str ht) kk (k : Int) (by omega) (by rw [bs_size]; omega)
  have e : (bs a).extract 0 (k : Int).toNat = bs (a.take k) := by
    show (ByteArray.mk a.toArray).extract _ _ = _
    rw [ByteArray.extract_mk]
    rfl
  unfold execOp
  simp only [ho, f.ev hx, Option.map_some, Option.map_none, f.ev hi]
  rw [Sem.run_bind, run_slice_s hT ht, hr, e]
  rfl
theorem sti_scut (hT : TabOk P T) {o : Oper} {t j k sz : Nat} {x i i' : Operand} {kk kk' : IntKind} {z z' : Int} {a : Bs} (ho : o.op = .slice t x (some i) (some i') none) (hx : Γ.ev x = some (.string (bs a))) (hi : Γ.ev i = some (.int kk z)) (hi' : Γ.ev i' = some (.int kk' z')) (ht : T.get t = some ⟨.string, sz⟩) (hz : z = (j : Nat)) (hz' : z' = (k : Nat)) (hj : j ≤ k) (hk : k ≤ a.length) :
    Sti P β n Γ H F o (.string (bs ((a.drop j).take (k - j)))) := fun c w S f s _ => by
  subst hz hz'
  have hr := run_slice_string (P := P) w t (bs a) kk kk' (j : Int) (k : Int) (hT.str ht) (by omega) (by omega) (by rw [bs_size]; omega)
  have e : (bs a).extract (j : Int).toNat (k : Int).toNat = bs ((a.drop j).take (k - j)) := by
    show (ByteArray.mk a.toArray).extract _ _ = _
    rw [ByteArray.extract_mk]
    rfl
  unfold execOp
  simp only [ho, f.ev hx, Option.map_some, f.ev hi, f.ev hi', Option.map_none]
  rw [Sem.run_bind, run_slice_s hT ht, hr, e]
  rfl

/-! ### parts of slices in memory that stays -/
def cutA (A : Option Addr) (l size c : Nat) : Option Addr := if c = l then A else A.map (·.add (l * size))
end
end Go.Proofs.YtngkedmndhmjcaaGreatDoor
