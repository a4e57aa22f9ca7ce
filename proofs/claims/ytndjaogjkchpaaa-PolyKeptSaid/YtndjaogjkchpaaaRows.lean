/-
  No cell of these rows narrows 'for every input' (looked for: loops, veiled, ifaces, maps, wideKeys, modest, calm, conditions, laid).
  DERIVED. THE GIVEN ROWS OF THIS SEAT. 9 by the template 'for every input the law returns true; each argument reads behind the call as it read before'; 0 by the template 'total and deterministic' (their statements: YtndjaogjkchpaaaTotals.lean).
  GIVEN WITH THE SEED: the statements are not yours to turn. If you find one false, say at which input.
  Laid BY PROGRAM, IN A SANDBOX (cutbox-rows.mjs): the forced cells as the released guide's own fill.sh prints them over the translation b3b6fb8c0ed7cd99… (all of the seat's roots in one cut). By AI agents, Wed Nov 11 2026. No macro, syntax, notation, axiom, sorry.
-/
import Derived.Test.YtndjaogjkchpaaaChecked
import GoSem.Claim
import GoSem.ClaimJoined
import GoSem.ClaimMapViews
import Derived.JoinedTies
import Derived.KernelRfl
namespace Go.Proofs.Ytndjaogjkchpaaa
/- THE CELL 'sum', in the pinned program and in every row, IS THE sha256 OF THE DUMP (.gsa) THAT YtndjaogjkchpaaaProg.lean LOADS. Nothing in Lean hashes anything: it is a label: what it is worth is what the hold of that sum in a sandbox is worth. -/
noncomputable def Try.pinned : Pinned := { name := "ytndjaogjkchpaaa", sum := "b3b6fb8c0ed7cd99b4b84adfce5ee6a70764e32249071b207b783095b27003de", checked := Try.checked }
namespace Rows
def none {H : Type} : Left H := { results := [], args := [] }

/-- 'windrowlaw02.PolyMultiplies': WHATEVER THE INPUT: true; the input reads as it did. -/
def polyMultipliesSpec : ChangeSpec := { name := "polyMultiplies", fn := fun _ => fun
  | [d1, d2] => { results := [.lit (.bool true)], args := [d1, d2] }
  | _ => none }
def polyMultipliesRow : OpenClaim := { program := "ytndjaogjkchpaaa", sum := "b3b6fb8c0ed7cd99b4b84adfce5ee6a70764e32249071b207b783095b27003de", func := "windrow/windrowlaw02.PolyMultiplies", spec := "polyMultiplies", inPlace := ["internal/bytealg.Compare"], unfollowed := true, recurses := true, plainKeys := false, apart := false }
def PolyMultipliesSaid : Prop := polyMultipliesRow.holds Try.pinned (OpenSpec.ofChange polyMultipliesSpec)

/-- ITS FALSE NEIGHBOUR: 'it returns false'. Refute it at one input. -/
def polyMultipliesWrong : ChangeSpec := { name := "polyMultiplies", fn := fun _ => fun
  | [d1, d2] => { results := [.lit (.bool false)], args := [d1, d2] }
  | _ => none }
def PolyMultipliesWrongFalsely : Prop := polyMultipliesRow.holds Try.pinned (OpenSpec.ofChange polyMultipliesWrong)

/-- 'windrowlaw02.PolyEvals': WHATEVER THE INPUT: true; the input reads as it did. -/
def polyEvalsSpec : ChangeSpec := { name := "polyEvals", fn := fun _ => fun
  | [d1, d2] => { results := [.lit (.bool true)], args := [d1, d2] }
  | _ => none }
def polyEvalsRow : OpenClaim := { program := "ytndjaogjkchpaaa", sum := "b3b6fb8c0ed7cd99b4b84adfce5ee6a70764e32249071b207b783095b27003de", func := "windrow/windrowlaw02.PolyEvals", spec := "polyEvals", inPlace := ["internal/bytealg.Compare"], unfollowed := true, recurses := true, plainKeys := false, apart := false }
def PolyEvalsSaid : Prop := polyEvalsRow.holds Try.pinned (OpenSpec.ofChange polyEvalsSpec)

/-- ITS FALSE NEIGHBOUR: 'it returns false'. Refute it at one input. -/
def polyEvalsWrong : ChangeSpec := { name := "polyEvals", fn := fun _ => fun
  | [d1, d2] => { results := [.lit (.bool false)], args := [d1, d2] }
  | _ => none }
def PolyEvalsWrongFalsely : Prop := polyEvalsRow.holds Try.pinned (OpenSpec.ofChange polyEvalsWrong)

/-- 'windrowlaw02.PolyRights': WHATEVER THE INPUT: true; the input reads as it did. -/
def polyRightsSpec : ChangeSpec := { name := "polyRights", fn := fun _ => fun
  | [d1, d2] => { results := [.lit (.bool true)], args := [d1, d2] }
  | _ => none }
def polyRightsRow : OpenClaim := { program := "ytndjaogjkchpaaa", sum := "b3b6fb8c0ed7cd99b4b84adfce5ee6a70764e32249071b207b783095b27003de", func := "windrow/windrowlaw02.PolyRights", spec := "polyRights", inPlace := ["internal/bytealg.Compare"], unfollowed := true, recurses := true, plainKeys := false, apart := false }
def PolyRightsSaid : Prop := polyRightsRow.holds Try.pinned (OpenSpec.ofChange polyRightsSpec)

/-- ITS FALSE NEIGHBOUR: 'it returns false'. Refute it at one input. -/
def polyRightsWrong : ChangeSpec := { name := "polyRights", fn := fun _ => fun
  | [d1, d2] => { results := [.lit (.bool false)], args := [d1, d2] }
  | _ => none }
def PolyRightsWrongFalsely : Prop := polyRightsRow.holds Try.pinned (OpenSpec.ofChange polyRightsWrong)

/-- 'windrowlaw02.PolyGrows': WHATEVER THE INPUT: true; the input reads as it did. -/
def polyGrowsSpec : ChangeSpec := { name := "polyGrows", fn := fun _ => fun
  | [d1, d2, d3] => { results := [.lit (.bool true)], args := [d1, d2, d3] }
  | _ => none }
def polyGrowsRow : OpenClaim := { program := "ytndjaogjkchpaaa", sum := "b3b6fb8c0ed7cd99b4b84adfce5ee6a70764e32249071b207b783095b27003de", func := "windrow/windrowlaw02.PolyGrows", spec := "polyGrows", inPlace := ["internal/bytealg.Compare"], unfollowed := true, recurses := true, plainKeys := false, apart := false }
def PolyGrowsSaid : Prop := polyGrowsRow.holds Try.pinned (OpenSpec.ofChange polyGrowsSpec)

/-- ITS FALSE NEIGHBOUR: 'it returns false'. Refute it at one input. -/
def polyGrowsWrong : ChangeSpec := { name := "polyGrows", fn := fun _ => fun
  | [d1, d2, d3] => { results := [.lit (.bool false)], args := [d1, d2, d3] }
  | _ => none }
def PolyGrowsWrongFalsely : Prop := polyGrowsRow.holds Try.pinned (OpenSpec.ofChange polyGrowsWrong)

/-- 'windrowlaw02.PolyKept': WHATEVER THE INPUT: true; the input reads as it did. -/
def polyKeptSpec : ChangeSpec := { name := "polyKept", fn := fun _ => fun
  | [d1, d2] => { results := [.lit (.bool true)], args := [d1, d2] }
  | _ => none }
def polyKeptRow : OpenClaim := { program := "ytndjaogjkchpaaa", sum := "b3b6fb8c0ed7cd99b4b84adfce5ee6a70764e32249071b207b783095b27003de", func := "windrow/windrowlaw02.PolyKept", spec := "polyKept", inPlace := ["internal/bytealg.Compare"], unfollowed := true, recurses := true, plainKeys := false, apart := false }
def PolyKeptSaid : Prop := polyKeptRow.holds Try.pinned (OpenSpec.ofChange polyKeptSpec)

/-- ITS FALSE NEIGHBOUR: 'it returns false'. Refute it at one input. -/
def polyKeptWrong : ChangeSpec := { name := "polyKept", fn := fun _ => fun
  | [d1, d2] => { results := [.lit (.bool false)], args := [d1, d2] }
  | _ => none }
def PolyKeptWrongFalsely : Prop := polyKeptRow.holds Try.pinned (OpenSpec.ofChange polyKeptWrong)

/-- 'windrowlaw02.PolyAdds': WHATEVER THE INPUT: true; the input reads as it did. -/
def polyAddsSpec : ChangeSpec := { name := "polyAdds", fn := fun _ => fun
  | [d1, d2] => { results := [.lit (.bool true)], args := [d1, d2] }
  | _ => none }
def polyAddsRow : OpenClaim := { program := "ytndjaogjkchpaaa", sum := "b3b6fb8c0ed7cd99b4b84adfce5ee6a70764e32249071b207b783095b27003de", func := "windrow/windrowlaw02.PolyAdds", spec := "polyAdds", inPlace := ["internal/bytealg.Compare"], unfollowed := true, recurses := true, plainKeys := false, apart := false }
def PolyAddsSaid : Prop := polyAddsRow.holds Try.pinned (OpenSpec.ofChange polyAddsSpec)

/-- ITS FALSE NEIGHBOUR: 'it returns false'. Refute it at one input. -/
def polyAddsWrong : ChangeSpec := { name := "polyAdds", fn := fun _ => fun
  | [d1, d2] => { results := [.lit (.bool false)], args := [d1, d2] }
  | _ => none }
def PolyAddsWrongFalsely : Prop := polyAddsRow.holds Try.pinned (OpenSpec.ofChange polyAddsWrong)

/-- 'windrowlaw02.PolyRing': WHATEVER THE INPUT: true; the input reads as it did. -/
def polyRingSpec : ChangeSpec := { name := "polyRing", fn := fun _ => fun
  | [d1, d2, d3] => { results := [.lit (.bool true)], args := [d1, d2, d3] }
  | _ => none }
def polyRingRow : OpenClaim := { program := "ytndjaogjkchpaaa", sum := "b3b6fb8c0ed7cd99b4b84adfce5ee6a70764e32249071b207b783095b27003de", func := "windrow/windrowlaw02.PolyRing", spec := "polyRing", inPlace := ["internal/bytealg.Compare"], unfollowed := true, recurses := true, plainKeys := false, apart := false }
def PolyRingSaid : Prop := polyRingRow.holds Try.pinned (OpenSpec.ofChange polyRingSpec)

/-- ITS FALSE NEIGHBOUR: 'it returns false'. Refute it at one input. -/
def polyRingWrong : ChangeSpec := { name := "polyRing", fn := fun _ => fun
  | [d1, d2, d3] => { results := [.lit (.bool false)], args := [d1, d2, d3] }
  | _ => none }
def PolyRingWrongFalsely : Prop := polyRingRow.holds Try.pinned (OpenSpec.ofChange polyRingWrong)

/-- 'windrowlaw02.PolyValues': WHATEVER THE INPUT: true; the input reads as it did. -/
def polyValuesSpec : ChangeSpec := { name := "polyValues", fn := fun _ => fun
  | [d1, d2, d3] => { results := [.lit (.bool true)], args := [d1, d2, d3] }
  | _ => none }
def polyValuesRow : OpenClaim := { program := "ytndjaogjkchpaaa", sum := "b3b6fb8c0ed7cd99b4b84adfce5ee6a70764e32249071b207b783095b27003de", func := "windrow/windrowlaw02.PolyValues", spec := "polyValues", inPlace := ["internal/bytealg.Compare"], unfollowed := true, recurses := true, plainKeys := false, apart := false }
def PolyValuesSaid : Prop := polyValuesRow.holds Try.pinned (OpenSpec.ofChange polyValuesSpec)

/-- ITS FALSE NEIGHBOUR: 'it returns false'. Refute it at one input. -/
def polyValuesWrong : ChangeSpec := { name := "polyValues", fn := fun _ => fun
  | [d1, d2, d3] => { results := [.lit (.bool false)], args := [d1, d2, d3] }
  | _ => none }
def PolyValuesWrongFalsely : Prop := polyValuesRow.holds Try.pinned (OpenSpec.ofChange polyValuesWrong)

/-- 'windrowlaw02.PolyMakes': WHATEVER THE INPUT: true; the input reads as it did. -/
def polyMakesSpec : ChangeSpec := { name := "polyMakes", fn := fun _ => fun
  | [d1, d2] => { results := [.lit (.bool true)], args := [d1, d2] }
  | _ => none }
def polyMakesRow : OpenClaim := { program := "ytndjaogjkchpaaa", sum := "b3b6fb8c0ed7cd99b4b84adfce5ee6a70764e32249071b207b783095b27003de", func := "windrow/windrowlaw02.PolyMakes", spec := "polyMakes", inPlace := ["internal/bytealg.Compare"], unfollowed := true, recurses := true, plainKeys := false, apart := false }
def PolyMakesSaid : Prop := polyMakesRow.holds Try.pinned (OpenSpec.ofChange polyMakesSpec)

/-- ITS FALSE NEIGHBOUR: 'it returns false'. Refute it at one input. -/
def polyMakesWrong : ChangeSpec := { name := "polyMakes", fn := fun _ => fun
  | [d1, d2] => { results := [.lit (.bool false)], args := [d1, d2] }
  | _ => none }
def PolyMakesWrongFalsely : Prop := polyMakesRow.holds Try.pinned (OpenSpec.ofChange polyMakesWrong)

/- THE SECOND FORM. 'bulk': how many values and letters a reading holds, each counted each time it is reached (what is shared counts as often as it is met; a slice's spare places count too). A statement '..UptoSaid' is the law's where the arguments, and the package variables that the reading takes, are together of bulk at most 1048576: NARROWER than '..Said'. Prove '..Said' where nothing that the law and all that it calls make is longer than what came in: it says more and counts as full. Else prove '..UptoSaid'. A law counts once. -/
mutual
def uptoBulk {H : Type} : DataW H → Nat
  | .lit (.string bytes) => bytes.length + 1
  | .lit _ => 1
  | .nil => 1
  | .ptr d => uptoBulk d + 1
  | .slice elems spare => uptoBulkAll elems + uptoBulkAll spare + 1
  | .agg parts => uptoBulkAll parts + 1
  | .iface _ d => uptoBulk d + 1
  | .map entries => uptoBulkEntries entries + 1
  | .held _ => 1
def uptoBulkAll {H : Type} : List (DataW H) → Nat
  | [] => 0
  | d :: r => uptoBulk d + uptoBulkAll r
def uptoBulkEntries {H : Type} : List (Lit × DataW H) → Nat
  | [] => 0
  | x :: r => uptoBulkEntry x + uptoBulkEntries r
def uptoBulkEntry {H : Type} : Lit × DataW H → Nat
  | (.string bytes, d) => bytes.length + uptoBulk d + 1
  | (_, d) => uptoBulk d + 1
 end
def uptoSmall : (H : Type) → List (DataW H) → Bool := fun _ ds => decide (uptoBulkAll ds ≤ 1048576)
def OpenSpec.upto (s : _root_.Go.ChangeSpec) : _root_.Go.OpenSpec := { _root_.Go.OpenSpec.ofChange s with cond := some uptoSmall }

/-- 'windrowlaw02.PolyMultiplies', WHERE WHAT IT READS IS OF BULK AT MOST 1048576: true; the input reads as it did. -/
def polyMultipliesUptoRow : OpenClaim := { program := "ytndjaogjkchpaaa", sum := "b3b6fb8c0ed7cd99b4b84adfce5ee6a70764e32249071b207b783095b27003de", func := "windrow/windrowlaw02.PolyMultiplies", spec := "polyMultiplies", inPlace := ["internal/bytealg.Compare"], unfollowed := true, recurses := true, plainKeys := false, apart := false, narrowed := true }
def PolyMultipliesUptoSaid : Prop := polyMultipliesUptoRow.holds Try.pinned (OpenSpec.upto polyMultipliesSpec)

/-- 'windrowlaw02.PolyEvals', WHERE WHAT IT READS IS OF BULK AT MOST 1048576: true; the input reads as it did. -/
def polyEvalsUptoRow : OpenClaim := { program := "ytndjaogjkchpaaa", sum := "b3b6fb8c0ed7cd99b4b84adfce5ee6a70764e32249071b207b783095b27003de", func := "windrow/windrowlaw02.PolyEvals", spec := "polyEvals", inPlace := ["internal/bytealg.Compare"], unfollowed := true, recurses := true, plainKeys := false, apart := false, narrowed := true }
def PolyEvalsUptoSaid : Prop := polyEvalsUptoRow.holds Try.pinned (OpenSpec.upto polyEvalsSpec)

/-- 'windrowlaw02.PolyRights', WHERE WHAT IT READS IS OF BULK AT MOST 1048576: true; the input reads as it did. -/
def polyRightsUptoRow : OpenClaim := { program := "ytndjaogjkchpaaa", sum := "b3b6fb8c0ed7cd99b4b84adfce5ee6a70764e32249071b207b783095b27003de", func := "windrow/windrowlaw02.PolyRights", spec := "polyRights", inPlace := ["internal/bytealg.Compare"], unfollowed := true, recurses := true, plainKeys := false, apart := false, narrowed := true }
def PolyRightsUptoSaid : Prop := polyRightsUptoRow.holds Try.pinned (OpenSpec.upto polyRightsSpec)

/-- 'windrowlaw02.PolyGrows', WHERE WHAT IT READS IS OF BULK AT MOST 1048576: true; the input reads as it did. -/
def polyGrowsUptoRow : OpenClaim := { program := "ytndjaogjkchpaaa", sum := "b3b6fb8c0ed7cd99b4b84adfce5ee6a70764e32249071b207b783095b27003de", func := "windrow/windrowlaw02.PolyGrows", spec := "polyGrows", inPlace := ["internal/bytealg.Compare"], unfollowed := true, recurses := true, plainKeys := false, apart := false, narrowed := true }
def PolyGrowsUptoSaid : Prop := polyGrowsUptoRow.holds Try.pinned (OpenSpec.upto polyGrowsSpec)

/-- 'windrowlaw02.PolyKept', WHERE WHAT IT READS IS OF BULK AT MOST 1048576: true; the input reads as it did. -/
def polyKeptUptoRow : OpenClaim := { program := "ytndjaogjkchpaaa", sum := "b3b6fb8c0ed7cd99b4b84adfce5ee6a70764e32249071b207b783095b27003de", func := "windrow/windrowlaw02.PolyKept", spec := "polyKept", inPlace := ["internal/bytealg.Compare"], unfollowed := true, recurses := true, plainKeys := false, apart := false, narrowed := true }
def PolyKeptUptoSaid : Prop := polyKeptUptoRow.holds Try.pinned (OpenSpec.upto polyKeptSpec)

/-- 'windrowlaw02.PolyAdds', WHERE WHAT IT READS IS OF BULK AT MOST 1048576: true; the input reads as it did. -/
def polyAddsUptoRow : OpenClaim := { program := "ytndjaogjkchpaaa", sum := "b3b6fb8c0ed7cd99b4b84adfce5ee6a70764e32249071b207b783095b27003de", func := "windrow/windrowlaw02.PolyAdds", spec := "polyAdds", inPlace := ["internal/bytealg.Compare"], unfollowed := true, recurses := true, plainKeys := false, apart := false, narrowed := true }
def PolyAddsUptoSaid : Prop := polyAddsUptoRow.holds Try.pinned (OpenSpec.upto polyAddsSpec)

/-- 'windrowlaw02.PolyRing', WHERE WHAT IT READS IS OF BULK AT MOST 1048576: true; the input reads as it did. -/
def polyRingUptoRow : OpenClaim := { program := "ytndjaogjkchpaaa", sum := "b3b6fb8c0ed7cd99b4b84adfce5ee6a70764e32249071b207b783095b27003de", func := "windrow/windrowlaw02.PolyRing", spec := "polyRing", inPlace := ["internal/bytealg.Compare"], unfollowed := true, recurses := true, plainKeys := false, apart := false, narrowed := true }
def PolyRingUptoSaid : Prop := polyRingUptoRow.holds Try.pinned (OpenSpec.upto polyRingSpec)

/-- 'windrowlaw02.PolyValues', WHERE WHAT IT READS IS OF BULK AT MOST 1048576: true; the input reads as it did. -/
def polyValuesUptoRow : OpenClaim := { program := "ytndjaogjkchpaaa", sum := "b3b6fb8c0ed7cd99b4b84adfce5ee6a70764e32249071b207b783095b27003de", func := "windrow/windrowlaw02.PolyValues", spec := "polyValues", inPlace := ["internal/bytealg.Compare"], unfollowed := true, recurses := true, plainKeys := false, apart := false, narrowed := true }
def PolyValuesUptoSaid : Prop := polyValuesUptoRow.holds Try.pinned (OpenSpec.upto polyValuesSpec)

/-- 'windrowlaw02.PolyMakes', WHERE WHAT IT READS IS OF BULK AT MOST 1048576: true; the input reads as it did. -/
def polyMakesUptoRow : OpenClaim := { program := "ytndjaogjkchpaaa", sum := "b3b6fb8c0ed7cd99b4b84adfce5ee6a70764e32249071b207b783095b27003de", func := "windrow/windrowlaw02.PolyMakes", spec := "polyMakes", inPlace := ["internal/bytealg.Compare"], unfollowed := true, recurses := true, plainKeys := false, apart := false, narrowed := true }
def PolyMakesUptoSaid : Prop := polyMakesUptoRow.holds Try.pinned (OpenSpec.upto polyMakesSpec)

end Rows
end Go.Proofs.Ytndjaogjkchpaaa
