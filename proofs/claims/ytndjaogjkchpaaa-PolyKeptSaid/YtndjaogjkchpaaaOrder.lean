/- Contracts of bytes.Compare, poly.order: what each returns; nothing that was there is changed. -/
import Derived.Test.YtndjaogjkchpaaaMono
import Derived.Test.YtndjaogjkchpaaaRows
import Derived.WalkKit
import Derived.WalkSpells
import Derived.WalkLawsBesides
import Derived.Handy
import Derived.Deep.QuietTactic
import Derived.Deep.Light
import Derived.BigQuiet
namespace Go.Proofs.Ytndjaogjkchpaaa
open Go.RowKit


/-- cells of a row of bytes -/
def BytesAt (w : World) (b o : Nat) : List UInt8 → Prop
  | [] => True
  | x :: l => w.cell? ⟨b, o, none⟩ = some (.int .u8 x.toNat) ∧ BytesAt w b (o + 1) l

theorem push_append (acc : ByteArray) (x : UInt8) (l : List UInt8) : ((acc.push x).data ++ l.toArray) = acc.data ++ (x :: l).toArray := by
  apply Array.ext'; simp [ByteArray.push]

theorem run_loadBytes {P : Program} (w : World) (b : Nat) : ∀ (l : List UInt8) (o : Nat) (acc : ByteArray), BytesAt w b o l →
    (Extern.Bytes.loadBytes ⟨b, o, none⟩ l.length acc).run P w = .ok ⟨acc.data ++ l.toArray⟩ w
  | [], o, acc, _ => by simp [Extern.Bytes.loadBytes]
  | x :: l, o, acc, ⟨h, t⟩ => by
    have ih := run_loadBytes (P := P) w b l (o + 1) (acc.push x) t
    rw [push_append] at ih
    simp only [Extern.Bytes.loadBytes, List.length_cons, Sem.run_bind]
    have hl : (load ⟨b, o, none⟩).run P w = .ok (.int .u8 x.toNat) w := by simp [go_sem, h]
    rw [hl]
    simp only [Result.andThen_ok]
    have e : ((x.toNat : Int)).toNat.toUInt8 = x := by simp
    rw [e]
    exact ih

theorem run_compare {P : Program} (w : World) (b c o p k k' : Nat) (x y : List UInt8) (hx : BytesAt w b o x) (hy : BytesAt w c p y) :
    (Extern.BytealgCompare.compare #[.slice (some ⟨b, o, none⟩) x.length k, .slice (some ⟨c, p, none⟩) y.length k']).run P w = .ok (.int .i64 (Lib.compareBytes x y)) w := by
  change Sem.run P (do pure (goInt (Extern.BytealgCompare.cmp (← Extern.Bytes.bytesOf (.slice (some ⟨b, o, none⟩) x.length k)) (← Extern.Bytes.bytesOf (.slice (some ⟨c, p, none⟩) y.length k'))))) w = _
  simp only [Extern.Bytes.bytesOf, Sem.run_bind, run_loadBytes w b x o _ hx, run_loadBytes w c y p _ hy, Result.andThen_ok, Sem.run_pure, Lib.cmp_eq]
  simp [goInt]

set_option maxHeartbeats 400000 in
theorem compare_any (b c o p : Nat) (k k' : Nat) (x y : List UInt8) (w : World) (hx : BytesAt w b o x) (hy : BytesAt w c p y) :
    Calls Try.prog 48 #[.slice (some ⟨b, o, none⟩) x.length k, .slice (some ⟨c, p, none⟩) y.length k'] w fun e w' => e = .returned (.int .i64 (Lib.compareBytes x y)) ∧ w = w' := by
  go_enter Try.func48, Try.ntmps48
  go_wp2
  rw [run_callFunc_extern Try.func52 (by kernel_rfl) (by kernel_rfl) (by kernel_rfl) (e := Extern.BytealgCompare.compare) (by kernel_rfl), run_compare w b c o p k k' x y hx hy]
  simp only [Result.andThen]
  rw [Oper.upon_value]
  go_wp2
  go_ret
  exact ⟨rfl, rfl⟩

set_option maxHeartbeats 400000 in
theorem order_any (a b : Mono) (w : World) :
    Calls Try.prog 39 #[.agg #[.int .i64 a.n, .int .u8 a.e0.toNat, .int .u8 a.e1.toNat, .int .u8 a.e2.toNat, .int .u8 a.e3.toNat, .int .u8 a.e4.toNat, .int .u8 a.e5.toNat], .agg #[.int .i64 b.n, .int .u8 b.e0.toNat, .int .u8 b.e1.toNat, .int .u8 b.e2.toNat, .int .u8 b.e3.toNat, .int .u8 b.e4.toNat, .int .u8 b.e5.toNat]] w fun e w' => e = .returned (.int .i64 (ord a b)) ∧ ∃ q o1 o2, w' = ((w.alloc o1).alloc o2).drewN q := by
  have hc := fun n => compare_any (w.heap.size + 1) w.heap.size 1 1 6 6 b.E a.E (((w.alloc (.cells #[.int .i64 a.n, .int .u8 a.e0.toNat, .int .u8 a.e1.toNat, .int .u8 a.e2.toNat, .int .u8 a.e3.toNat, .int .u8 a.e4.toNat, .int .u8 a.e5.toNat] 39)).alloc (.cells #[.int .i64 b.n, .int .u8 b.e0.toNat, .int .u8 b.e1.toNat, .int .u8 b.e2.toNat, .int .u8 b.e3.toNat, .int .u8 b.e4.toNat, .int .u8 b.e5.toNat] 39)).drewN n) (by simp [BytesAt, Mono.E, go_sem]) (by simp [BytesAt, Mono.E, go_sem])
  have HC := Lib.hid hc
  clear hc
  go_enter Try.func39, Try.ntmps39
  go_wp2
  go_quiet ((go_at_call 48; exact Calls.quiet_of_same ((HC.out _).mono fun _ _ h => ⟨h.1, h.2.symm⟩)))
  go_wp2
  go_ret
  exact ⟨rfl, _, _, _, rfl⟩
end Go.Proofs.Ytndjaogjkchpaaa
