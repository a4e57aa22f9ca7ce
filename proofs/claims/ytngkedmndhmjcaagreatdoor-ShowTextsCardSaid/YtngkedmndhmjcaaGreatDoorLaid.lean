/- What a row's list of variables gives: start-up's tables, in the engine's form; a world that holds them all (the witness). The argument of type Program. -/
import Derived.Test.YtngkedmndhmjcaaGreatDoorRows
import Derived.Test.YtngkedmndhmjcaaGreatDoorLexS
import Derived.Test.YtngkedmndhmjcaaGreatDoorDocS
import Derived.Deep.DeepWitnessRowRef
import Derived.Lib.LaidU8
import Derived.LaidLaws
import Derived.Lib.LaidIn
import Derived.Shelf.Vars
namespace Go.Proofs.YtngkedmndhmjcaaGreatDoor
open Go.RowKit

abbrev laidList : List (String × DataW Unit) := Rows.showRightsRow.laid

/-! ### the tables -/
theorem tabIs_of_reads {P : Program} {W : World} {name : String} {k : IntKind} {zs : List Int} {g : Nat} {t e : TypeId} {n : Nat}
    (hg : P.globalNamed name = some g) (hty : (P.globals[g]?).map (·.type) = some t) (ht : P.underlying t = some (.array n e)) (he : P.underlying e = some (.int k)) (hce : P.cellsOf e = 1) (hct : P.cellsOf t = n)
    (h : Lib.VarReads P W name (Lib.tabData k zs)) : Lib.TabIs P W name k zs := by
  obtain ⟨g', t', cs, fuel, p, hg', ht', hvar, hd⟩ := h
  obtain rfl := Option.some.inj (hg.symm.trans hg')
  obtain rfl := Option.some.inj (hty.symm.trans ht')
  unfold Lib.TabIs
  rw [hvar, ← Lib.cells_of_tab ht he hce hct hd]
theorem var_lt {P : Program} {W : World} {name : String} {g : Nat} {cs : Array Value} (hg : P.globalNamed name = some g) (h : W.var? P name = some cs) : g < W.heap.size := by
  unfold World.var? at h
  rw [hg] at h
  simp only [Option.bind_some] at h
  cases hh : W.heap[g]? with
  | none => rw [hh] at h; cases h
  | some o => exact (Array.getElem?_eq_some_iff.1 hh).1
theorem cell_lt' {W : World} {g i : Nat} {v : Value} (h : W.cell? ⟨g, i, none⟩ = some v) : g < W.heap.size := by
  unfold World.cell? at h
  cases hh : W.heap[g]? with
  | none => rw [hh] at h; cases h
  | some o => exact (Array.getElem?_eq_some_iff.1 hh).1
set_option maxRecDepth 1000000 in
theorem globF_of {W : World} (hL : laidMetH Tryz.prog laidList W) (hsh : W.ShapedOpen Tryz.prog) : globF.p (fun b => b < W.heap.size) W := by
  have hL' : laidMet Tryz.prog laidList W := hL
  have h0 : Lib.TabIs Tryz.prog W "strings.asciiSpace" .u8 Lib.asciiSpaceTab := tabIs_of_reads (t := 112) (e := 5) (n := 256) named0 (by kernel_rfl) Tryz.underlying112 Tryz.underlying5 (by kernel_rfl) (by kernel_rfl)
    (Lib.laidMet.reads hL' (.tail _ (.tail _ (.tail _ (.tail _ (.tail _ (.tail _ (.tail _ (.head _)))))))))
  have h7 : Lib.TabIs Tryz.prog W "internal/strconv.uint64pow10" .u64 Lib.pow10Tab := tabIs_of_reads (t := 196) (e := 144) (n := 20) named7 (by kernel_rfl) Tryz.underlying196 Tryz.underlying144 (by kernel_rfl) (by kernel_rfl)
    (Lib.laidMet.reads hL' (.tail _ (.tail _ (.head _))))
  obtain ⟨m, h4⟩ := cell_of_shapedOpen_int (P := Tryz.prog) (g := 4) (t := 3) (zero := #[.int .i64 0]) hsh (of_decide_eq_true (by kernel_rfl)) (by kernel_rfl) rfl (by kernel_rfl) (by kernel_rfl) Tryz.underlying3
  obtain ⟨g', t', cs, fuel, p, hg', ht', hvar, hd⟩ := Lib.laidMet.reads hL' (n := "strconv.ErrRange") (.tail _ (.tail _ (.tail _ (.tail _ (.head _)))))
  have hnE : Tryz.prog.globalNamed "strconv.ErrRange" = some 3 := by kernel_rfl
  obtain rfl := Option.some.inj (hnE.symm.trans hg')
  obtain rfl : 107 = t' := Option.some.inj ((show (Tryz.prog.globals[3]?).map (·.type) = some 107 by kernel_rfl).symm.trans ht')
  obtain ⟨f', u, v, hcs, _, _⟩ := iface_of_trod Tryz.underlying107 hd
  have hcs' : cs = #[.iface u v] := by
    cases cs
    simp only at hcs
    rw [hcs]
  subst hcs'
  have h3 : W.cell? ⟨3, 0, none⟩ = some (.iface u v) := by simpa using World.var?_cell hnE hvar 0
  exact ⟨⟨var_lt named0 h0, var_lt named7 h7, cell_lt' h4, cell_lt' h3⟩, h0, h7, ⟨m, h4⟩, _, h3, .inr ⟨u, v, rfl⟩⟩

/-! ### the witness -/
def flat1 : DataW Unit → List Value
  | .lit (.int k n) => [.int k n]
  | _ => []
def flat2 : DataW Unit → List Value
  | .agg l => l.flatMap flat1
  | d => flat1 d
def flat3 : DataW Unit → Array Value
  | .agg l => (l.flatMap flat2).toArray
  | _ => #[]
def whiteNums : List Int := [9, 13, 1, 32, 133, 101, 160, 5760, 5600, 8192, 8202, 1, 8232, 8233, 1, 8239, 8287, 48, 12288, 12288, 1]
noncomputable def laidWorld (os : Os) : World :=
  let N := (World.settled Tryz.prog os).heap.size
  let w0 := World.holding Tryz.prog os ⟨#[.cells (whiteNums.map fun z => Value.int .u16 z).toArray 163, .cells #[.slice (some ⟨N, 0, none⟩) 7 7, .slice none 0 0, .int .i64 2] 160,
    .cells #[.string ⟨#[118, 97, 108, 117, 101, 32, 111, 117, 116, 32, 111, 102, 32, 114, 97, 110, 103, 101]⟩] 190, .cells #[.string ⟨#[105, 110, 118, 97, 108, 105, 100, 32, 115, 121, 110, 116, 97, 120]⟩] 190], #[], []⟩
  let put (h : Array Obj) (g : Nat) (cs : Array Value) : Array Obj := h.modify g fun
    | .cells _ t frozen => .cells cs t frozen
    | o => o
  let h1 := put w0.heap 8 (flat3 Rows.laid_math_bits_deBruijn32tab)
  let h2 := put h1 9 (flat3 Rows.laid_math_bits_deBruijn64tab)
  let h3 := put h2 7 (flat3 Rows.laid_internal_strconv_uint64pow10)
  let h4 := put h3 6 (flat3 Rows.laid_unicode_utf8_acceptRanges)
  let h5 := put h4 3 #[.iface 188 (.pointer (some ⟨N + 2, 0, none⟩))]
  let h6 := put h5 2 #[.iface 188 (.pointer (some ⟨N + 3, 0, none⟩))]
  let h7 := put h6 1 #[.pointer (some ⟨N + 1, 0, none⟩)]
  let h8 := put h7 0 (flat3 Rows.laid_strings_asciiSpace)
  let h9 := put h8 5 (flat3 Rows.laid_unicode_utf8_first)
  { w0 with heap := h9 }
noncomputable abbrev N0 : Nat := (World.settled Tryz.prog default).heap.size
set_option maxRecDepth 1000000 in
theorem piece0 (os : Os) (args : Array Value) : LaidIn Tryz.prog ((laidWorld os).forCall (fun _ _ => 0) ⟨#[], args, []⟩).memory [("math/bits.deBruijn32tab", Rows.laid_math_bits_deBruijn32tab)] [8] :=
  LaidIn.of_run [8] 10 (by kernel_rfl) (by kernel_rfl) (by kernel_rfl) (by kernel_rfl)
set_option maxRecDepth 1000000 in
theorem piece1 (os : Os) (args : Array Value) : LaidIn Tryz.prog ((laidWorld os).forCall (fun _ _ => 0) ⟨#[], args, []⟩).memory [("math/bits.deBruijn64tab", Rows.laid_math_bits_deBruijn64tab)] [9] :=
  LaidIn.of_run [9] 10 (by kernel_rfl) (by kernel_rfl) (by kernel_rfl) (by kernel_rfl)
set_option maxRecDepth 1000000 in
theorem piece2 (os : Os) (args : Array Value) : LaidIn Tryz.prog ((laidWorld os).forCall (fun _ _ => 0) ⟨#[], args, []⟩).memory [("internal/strconv.uint64pow10", Rows.laid_internal_strconv_uint64pow10)] [7] :=
  LaidIn.of_run [7] 10 (by kernel_rfl) (by kernel_rfl) (by kernel_rfl) (by kernel_rfl)
set_option maxRecDepth 1000000 in
theorem piece3 (os : Os) (args : Array Value) : LaidIn Tryz.prog ((laidWorld os).forCall (fun _ _ => 0) ⟨#[], args, []⟩).memory [("unicode/utf8.acceptRanges", Rows.laid_unicode_utf8_acceptRanges)] [6] :=
  LaidIn.of_run [6] 10 (by kernel_rfl) (by kernel_rfl) (by kernel_rfl) (by kernel_rfl)
set_option maxRecDepth 1000000 in
theorem piece4 (os : Os) (args : Array Value) : LaidIn Tryz.prog ((laidWorld os).forCall (fun _ _ => 0) ⟨#[], args, []⟩).memory [("strconv.ErrRange", Rows.laid_strconv_ErrRange)] [3, N0 + 2] :=
  LaidIn.of_run [3, N0 + 2] 10 (by kernel_rfl) (by kernel_rfl) (by kernel_rfl) (by kernel_rfl)
set_option maxRecDepth 1000000 in
theorem piece5 (os : Os) (args : Array Value) : LaidIn Tryz.prog ((laidWorld os).forCall (fun _ _ => 0) ⟨#[], args, []⟩).memory [("strconv.ErrSyntax", Rows.laid_strconv_ErrSyntax)] [2, N0 + 3] :=
  LaidIn.of_run [2, N0 + 3] 10 (by kernel_rfl) (by kernel_rfl) (by kernel_rfl) (by kernel_rfl)
set_option maxRecDepth 1000000 in
theorem piece6 (os : Os) (args : Array Value) : LaidIn Tryz.prog ((laidWorld os).forCall (fun _ _ => 0) ⟨#[], args, []⟩).memory [("unicode.White_Space", Rows.laid_unicode_White_Space)] [1, N0, N0 + 1] :=
  LaidIn.of_run [1, N0, N0 + 1] 10 (by kernel_rfl) (by kernel_rfl) (by kernel_rfl) (by kernel_rfl)
set_option maxRecDepth 1000000 in
theorem piece7 (os : Os) (args : Array Value) : LaidIn Tryz.prog ((laidWorld os).forCall (fun _ _ => 0) ⟨#[], args, []⟩).memory [("strings.asciiSpace", Rows.laid_strings_asciiSpace)] [0] :=
  LaidIn.of_run [0] 10 (by kernel_rfl) (by kernel_rfl) (by kernel_rfl) (by kernel_rfl)
set_option maxRecDepth 1000000 in
theorem piece8 (os : Os) (args : Array Value) : LaidIn Tryz.prog ((laidWorld os).forCall (fun _ _ => 0) ⟨#[], args, []⟩).memory [("unicode/utf8.first", Rows.laid_unicode_utf8_first)] [5] :=
  LaidIn.of_run [5] 10 (by kernel_rfl) (by kernel_rfl) (by kernel_rfl) (by kernel_rfl)
set_option maxRecDepth 1000000 in
theorem laid_met (os : Os) (args : Array Value) : laidMet Tryz.prog laidList ((laidWorld os).forCall (fun _ _ => 0) ⟨#[], args, []⟩).memory :=
  (((((((((piece0 os args).append (piece1 os args) (by kernel_rfl)).append (piece2 os args) (by kernel_rfl)).append (piece3 os args) (by kernel_rfl)).append (piece4 os args) (by kernel_rfl)).append (piece5 os args) (by kernel_rfl)).append (piece6 os args) (by kernel_rfl)).append (piece7 os args) (by kernel_rfl)).append (piece8 os args) (by kernel_rfl)).met

/-! ### the argument -/
theorem wf_i64 {z : Int} (h : (Lit.int .i64 z).wf = true) : -9223372036854775808 ≤ z ∧ z ≤ 9223372036854775807 := by
  simp [Lit.wf, IntKind.min, IntKind.max, IntKind.bits, IntKind.signed] at h
  omega
theorem prog_of {a : ProgV} {S : Nat → Prop} {w : World} (h : (progTy.deep a).p S w) :
    ((inputE.sl (.slice a.inputs.addr a.inputs.list.length a.inputs.cap) a.inputs.list).p S w ∧ (inputsF a.inputs.list).p S w ∧ (lineE.sl (.slice a.lines.addr a.lines.list.length a.lines.cap) a.lines.list).p S w ∧ (linesF a.lines.list).p S w) ∧
      ProgOk a ∧ a.inputs.list.length ≤ 140737488355328 ∧ a.lines.list.length ≤ 140737488355328 := by
  obtain ⟨⟨⟨i1, i2⟩, i3⟩, ⟨⟨l1, l2⟩, l3⟩, _⟩ := h
  have i2 : ∀ x ∈ a.inputs.list, (inputTy.deep x).p S w := i2
  have l2 : ∀ x ∈ a.lines.list, (lineTy.deep x).p S w := l2
  have i3 : a.inputs.list.length * 48 ≤ 140737488355328 := i3
  have l3 : a.lines.list.length * 48 ≤ 140737488355328 := l3
  refine ⟨⟨i1, fun x hx => ?_, l1, fun x hx => ?_⟩, ⟨fun x hx => ?_, fun x hx => ?_⟩, by omega, by omega⟩
  · exact (i2 x hx).2.2.1.1.1
  · exact ⟨(l2 x hx).2.2.1.1.1, fun y hy => by
      have := (l2 x hx).2.2.1.1.2 y hy
      exact this.2.2.2.2.1.1.1⟩
  · refine ⟨(i2 x hx).1, fun d hd => ?_⟩
    have := (i2 x hx).2.2.1.1.2 d hd
    exact ⟨this.1, wf_i64 this.2.1⟩
  · refine ⟨(l2 x hx).1, fun it hit => ?_⟩
    have := (l2 x hx).2.2.1.1.2 it hit
    refine ⟨this.2.2.2.1, fun z hz => ?_⟩
    exact wf_i64 (this.2.2.2.2.1.1.2 z hz)
end Go.Proofs.YtngkedmndhmjcaaGreatDoor
