/- Operations that touch no memory, computed from the environment; loads and stores in blocks of the call's own; loads from memory that stays. -/
import Derived.Test.YtngkedmndhmjcaaGreatDoorRule
namespace Go.Proofs.YtngkedmndhmjcaaGreatDoor
open Go.RowKit

/-! ### types -/
/-- what is asked of a type -/
inductive TD where
  | int (k : IntKind)
  | slice (e : Nat)
  | string
  | bool
  | array (n e : Nat)
  | struct (fs : List (Nat × Nat))
  | map (k e : Nat)
  | other
def TD.of : TypeDesc → TD
  | .int k => .int k
  | .slice e => .slice e
  | .string => .string
  | .bool => .bool
  | .array n e => .array n e
  | .struct fs => .struct (fs.toList.map fun f => (f.type, f.offset))
  | .map k e => .map k e
  | _ => .other
structure TI where
  desc : TD
  size : Nat
abbrev Tab := List (Nat × TI)
def Tab.get : Tab → Nat → Option TI
  | [], _ => none
  | (i, v) :: r, j => cond (Nat.beq i j) (some v) (Tab.get r j)
def TabOk (P : Program) (T : Tab) : Prop := ∀ t i, T.get t = some i → (P.underlying t).map TD.of = some i.desc ∧ (P.info? t).map (·.size) = some i.size
def TabAll (P : Program) : Tab → Prop
  | [] => True
  | (t, i) :: r => ((P.underlying t).map TD.of = some i.desc ∧ (P.info? t).map (·.size) = some i.size) ∧ TabAll P r
theorem TabAll.ok {P : Program} : ∀ {T : Tab}, TabAll P T → TabOk P T
  | [], _, t, i, h => by simp [Tab.get] at h
  | (j, u) :: r, hs, t, i, h => by
    unfold Tab.get at h
    cases hb : Nat.beq j t with
    | true =>
      have := Nat.eq_of_beq_eq_true hb
      subst this
      simp at h
      subst h
      exact hs.1
    | false =>
      simp [hb] at h
      exact TabAll.ok hs.2 t i h
def aggD : TD → Bool
  | .struct _ => true
  | .array _ _ => true
  | _ => false
section
variable {P : Program} {T : Tab} (hT : TabOk P T) {t : Nat}
include hT
theorem TabOk.any {i : TI} (h : T.get t = some i) : ∃ d, P.underlying t = some d ∧ TD.of d = i.desc := by
  have := (hT t i h).1
  cases hu : P.underlying t with
  | none => simp [hu] at this
  | some d => simp [hu] at this; exact ⟨d, rfl, this⟩
theorem TabOk.size {i : TI} (h : T.get t = some i) (w : World) : (sizeOf t).run P w = .ok i.size w := by
  have := (hT t i h).2
  cases hi : P.info? t with
  | none => simp [hi] at this
  | some x => simp [hi] at this; simp [sizeOf, typeInfo, hi, this]
theorem TabOk.agg {i : TI} (h : T.get t = some i) (w : World) : (isAgg t).run P w = .ok (aggD i.desc) w := by
  obtain ⟨d, hu, hd⟩ := hT.any h
  unfold isAgg
  rw [Sem.run_bind, run_underlying hu, ← hd]
  cases d <;> simp [aggD, TD.of]
theorem TabOk.slice {e s : Nat} (h : T.get t = some ⟨.slice e, s⟩) (w : World) : (underlying t).run P w = .ok (.slice e) w := by
  obtain ⟨d, hu, hd⟩ := hT.any h
  cases d <;> simp [TD.of] at hd
  subst hd
  exact run_underlying hu w
theorem TabOk.int {k : IntKind} {s : Nat} (h : T.get t = some ⟨.int k, s⟩) (w : World) : (underlying t).run P w = .ok (.int k) w := by
  obtain ⟨d, hu, hd⟩ := hT.any h
  cases d <;> simp [TD.of] at hd
  subst hd
  exact run_underlying hu w
theorem TabOk.string {s : Nat} (h : T.get t = some ⟨.string, s⟩) (w : World) : (underlying t).run P w = .ok .string w := by
  obtain ⟨d, hu, hd⟩ := hT.any h
  cases d <;> simp [TD.of] at hd
  exact run_underlying hu w
theorem TabOk.array {n e s : Nat} (h : T.get t = some ⟨.array n e, s⟩) (w : World) : (underlying t).run P w = .ok (.array n e) w := by
  obtain ⟨d, hu, hd⟩ := hT.any h
  cases d <;> simp [TD.of] at hd
  obtain ⟨rfl, rfl⟩ := hd
  exact run_underlying hu w
theorem TabOk.struct {fs : List (Nat × Nat)} {s : Nat} (h : T.get t = some ⟨.struct fs, s⟩) : ∃ gs : Array Field, (∀ w, (underlying t).run P w = .ok (.struct gs) w) ∧ gs.toList.map (fun f => (f.type, f.offset)) = fs := by
  obtain ⟨d, hu, hd⟩ := hT.any h
  cases d <;> simp [TD.of] at hd
  rename_i gs
  exact ⟨gs, fun w => run_underlying hu w, by simpa using hd⟩
end
theorem field_at {gs : Array Field} {fs : List (Nat × Nat)} (h : gs.toList.map (fun f => (f.type, f.offset)) = fs) {i ty off : Nat} (hf : fs[i]? = some (ty, off)) : ∃ g, gs[i]? = some g ∧ g.type = ty ∧ g.offset = off := by
  subst h
  rw [List.getElem?_map] at hf
  cases hg : gs.toList[i]? with
  | none => simp [hg] at hf
  | some g =>
    simp [hg] at hf
    exact ⟨g, by simpa using hg, hf.1, hf.2⟩

/-! ### numbers -/
def sameKind : IntKind → IntKind → Bool
  | .i8, .i8 | .i16, .i16 | .i32, .i32 | .i64, .i64 | .u8, .u8 | .u16, .u16 | .u32, .u32 | .u64, .u64 => true
  | _, _ => false
theorem sameKind_eq {k k' : IntKind} (h : sameKind k k' = true) : k = k' := by cases k <;> cases k' <;> simp [sameKind] at h <;> rfl
def arith : BinOp → IntKind → Int → Int → Option Value
  | .add, k, a, b => some (.int k (k.wrap (a + b)))
  | .sub, k, a, b => some (.int k (k.wrap (a - b)))
  | .mul, k, a, b => some (.int k (k.wrap (a * b)))
  | .or, k, a, b => some (.int k (k.wrap ((BitVec.ofInt k.bits a ||| BitVec.ofInt k.bits b).toNat : Nat)))
  | .and, k, a, b => some (.int k (k.wrap ((BitVec.ofInt k.bits a &&& BitVec.ofInt k.bits b).toNat : Nat)))
  | .eql, _, a, b => some (.bool (a == b))
  | .neq, _, a, b => some (.bool (a != b))
  | .lss, _, a, b => some (.bool (decide (a < b)))
  | .leq, _, a, b => some (.bool (decide (a ≤ b)))
  | .gtr, _, a, b => some (.bool (decide (b < a)))
  | .geq, _, a, b => some (.bool (decide (b ≤ a)))
  | _, _, _, _ => none
def strBin : BinOp → ByteArray → ByteArray → Option Value
  | .eql, a, b => some (.bool (a.data.toList == b.data.toList))
  | .neq, a, b => some (.bool (!(a.data.toList == b.data.toList)))
  | _, _, _ => none
def pureBin (op : BinOp) : Value → Value → Option Value
  | .int k a, .int k' b => cond (sameKind k k') (arith op k a b) none
  | .string a, .string b => strBin op a b
  | _, _ => none
theorem pureBin_run {P : Program} {op : BinOp} {xt : TypeId} {x y : Operand} {a b v : Value} (h : pureBin op a b = some v) (w : World) :
    ((do eqGuard op xt x y a b; binOp op xt a b : Sem Value)).run P w = .ok v w := by
  unfold pureBin at h
  split at h
  · rename_i k a k' b
    cases hk : sameKind k k' with
    | false => simp [hk] at h
    | true =>
      have := sameKind_eq hk
      subst this
      simp [hk] at h
      cases op <;> simp [arith] at h <;> subst h <;> simp [eqGuard, binOp, Op.intArith, Op.intCmp, Op.intBits] <;> rfl
  · rename_i a b
    cases op <;> simp [strBin] at h <;> subst h <;> simp [eqGuard, binOp, Op.stringOp, ByteArray.toList_eq]
  · cases h

def addOff (o : Nat) : Nat → Nat
  | 0 => o
  | k + 1 => o + (k + 1)
theorem addr_add (b o k : Nat) : (⟨b, o, none⟩ : Addr).add k = ⟨b, addOff o k, none⟩ := by
  cases k <;> simp [Addr.add, addOff]
/-- n cells from a place on -/
def cut : List Value → Nat → Nat → Option (List Value)
  | _, 0, 0 => some []
  | c :: r, 0, n + 1 => match cut r 0 n with
    | some l => some (c :: l)
    | none => none
  | [], 0, _ + 1 => none
  | _ :: r, o + 1, n => cut r o n
  | [], _ + 1, _ => none
theorem cut_spec : ∀ {cs : List Value} {o n : Nat} {l : List Value}, cut cs o n = some l → l = (cs.drop o).take n ∧ l.length = n ∧ ∀ j u, l[j]? = some u → cs[o + j]? = some u
  | cs, 0, 0, l, h => by simp [cut] at h; subst h; simp
  | c :: r, 0, n + 1, l, h => by
    unfold cut at h
    cases hc : cut r 0 n with
    | none => simp [hc] at h
    | some l' =>
      simp [hc] at h
      subst h
      obtain ⟨h1, h2, h3⟩ := cut_spec hc
      refine ⟨by simp [h1], by simp [h2], fun j u hj => ?_⟩
      cases j with
      | zero => simpa using hj
      | succ j => have := h3 j u (by simpa using hj); simpa using this
  | [], 0, _ + 1, l, h => by simp [cut] at h
  | c :: r, o + 1, n, l, h => by
    unfold cut at h
    obtain ⟨h1, h2, h3⟩ := cut_spec h
    refine ⟨by simp [h1], h2, fun j u hj => ?_⟩
    have := h3 j u hj
    rw [show o + 1 + j = (o + j) + 1 from by omega]
    simpa using this
  | [], _ + 1, _, l, h => by simp [cut] at h
/-- cells put over others -/
def paste : List Value → Nat → List Value → Option (List Value)
  | cs, 0, [] => some cs
  | _ :: r, 0, v :: vs => match paste r 0 vs with
    | some l => some (v :: l)
    | none => none
  | [], 0, _ :: _ => none
  | c :: r, o + 1, vs => match paste r o vs with
    | some l => some (c :: l)
    | none => none
  | [], _ + 1, _ => none
theorem paste_spec : ∀ {cs : List Value} {o : Nat} {vs l : List Value}, paste cs o vs = some l → o + vs.length ≤ cs.length ∧ l = cs.take o ++ vs ++ cs.drop (o + vs.length)
  | cs, 0, [], l, h => by simp [paste] at h; subst h; simp
  | c :: r, 0, v :: vs, l, h => by
    unfold paste at h
    cases hc : paste r 0 vs with
    | none => simp [hc] at h
    | some l' =>
      simp [hc] at h
      subst h
      obtain ⟨h1, h2⟩ := paste_spec hc
      simp at h1 h2
      refine ⟨by simp; omega, by simp [h2]⟩
  | [], 0, _ :: _, l, h => by simp [paste] at h
  | c :: r, o + 1, vs, l, h => by
    unfold paste at h
    cases hc : paste r o vs with
    | none => simp [hc] at h
    | some l' =>
      simp [hc] at h
      subst h
      obtain ⟨h1, h2⟩ := paste_spec hc
      refine ⟨by simp; omega, ?_⟩
      rw [show o + 1 + vs.length = (o + vs.length) + 1 from by omega]
      simp [h2]
  | [], _ + 1, _, l, h => by simp [paste] at h

/-! ### an operation's value, computed -/
def binV (T : Tab) (op : BinOp) (t : Nat) : Value → Value → Option Value
  | .bool a, .bool b => match T.get t, op with
    | some ⟨.bool, _⟩, .eql => some (.bool (a == b))
    | some ⟨.bool, _⟩, .neq => some (.bool (a != b))
    | _, _ => none
  | u, v => pureBin op u v
def pureOp (T : Tab) (Γ : Env) : Op → Option Value
  | .move x => Γ.ev x
  | .assign x => Γ.ev x
  | .pick c a b => match Γ.ev c with
    | some (.bool true) => Γ.ev a
    | some (.bool false) => Γ.ev b
    | _ => none
  | .binOp op xt x y _ => match Γ.ev x with
    | some u => match Γ.ev y with
      | some v => binV T op xt u v
      | none => none
    | none => none
  | .unOp op _ x => match op, Γ.ev x with
    | .not, some (.bool b) => some (.bool (!b))
    | .neg, some (.int k a) => some (.int k (k.wrap (0 - a)))
    | _, _ => none
  | .convert s d x => match T.get s, T.get d, Γ.ev x with
    | some _, some ⟨.int k, _⟩, some (.int _ a) => some (.int k (k.wrap a))
    | _, _, _ => none
  | .extract x i => match Γ.ev x with
    | some (.tuple vs) => vs.toList[i]?
    | _ => none
  | .fieldAddr s x f => match T.get s, Γ.ev x with
    | some ⟨.struct fs, _⟩, some (.pointer (some ⟨b, o, none⟩)) => match fs[f]? with
      | some (ft, fo) => match T.get ft with
        | some ⟨_, _ + 1⟩ => some (.pointer (some ⟨b, addOff o fo, none⟩))
        | _ => none
      | none => none
    | _, _ => none
  | .field s x f => match T.get s, Γ.ev x with
    | some ⟨.struct fs, _⟩, some (.agg cs) => match fs[f]? with
      | some (ft, fo) => match T.get ft with
        | some i => cond (aggD i.desc) (match cut cs.toList fo i.size with
          | some l => some (.agg l.toArray)
          | none => none) cs.toList[fo]?
        | none => none
      | none => none
    | _, _ => none
  | .nilCheck x => match Γ.ev x with
    | some (.pointer (some a)) => some (.pointer (some a))
    | _ => none
  | .makeFunc fn first cap => match Γ.evs first.toList with
    | some a => match Γ.evs cap.toList with
      | some b => some (.func fn a.toArray b.toArray)
      | none => none
    | none => none
  | .call ⟨.builtin .len, args, ts⟩ => match args.toList, ts.toList with
    | [x], [t] => match T.get t, Γ.ev x with
      | some ⟨.slice _, _⟩, some (.slice _ k _) => some (.int .i64 k)
      | some ⟨.string, _⟩, some (.string s) => some (.int .i64 s.size)
      | some ⟨.array k _, _⟩, some _ => some (.int .i64 k)
      | _, _ => none
    | _, _ => none
  | .call ⟨.builtin .max, args, _⟩ => match args.toList with
    | [x, y] => match Γ.ev x, Γ.ev y with
      | some (.int k a), some (.int _ b) => some (.int k (if b > a then b else a))
      | _, _ => none
    | _ => none
  | .call ⟨.builtin .min, args, _⟩ => match args.toList with
    | [x, y] => match Γ.ev x, Γ.ev y with
      | some (.int k a), some (.int _ b) => some (.int k (if b < a then b else a))
      | _, _ => none
    | _ => none
  | _ => none

end Go.Proofs.YtngkedmndhmjcaaGreatDoor
