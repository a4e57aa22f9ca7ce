/-
  DERIVED: THE SHELF's CONTRACTS AT THIS DUMP, IN PLAIN WORDS (tools/lay-plain.mjs out of 'TryShelf0.lean', which tools/lay-shelf.mjs wrote): THE SAME DECLARATIONS UNDER THE SAME NAMES: 'import', 'namespace', 'open', 'def', 'theorem' AND NOTHING ELSE: no command of the shelf's: FOR A HAND-IN. Each laying: the table of numbers ('.._ren') and one theorem, a field a fact of the dump's own or the kernel's comparison; each contract: ONE APPLICATION.
-/
import Derived.Shelf.LaysM
import Derived.Shelf.LaysC
import Derived.Ground.Names2Prog
import Derived.Ground.SlgnProg
import Derived.Test.YtnfiadlonjediaaGreatDoorProg
import Derived.Shelf.Slices.CompactI
import Derived.Shelf.Slices.In.SortNone
import Derived.Shelf.Sort.Plain
namespace Go.Proofs
open Go.Shelf
def Tryz.lays189_ren : Go.Shelf.Ren := ⟨fun | 189 => 161 | 125 => 217 | 257 => 216 | 128 => 257 | 129 => 258 | 294 => 248 | 295 => 249 | 296 => 250 | 297 => 251 | 298 => 252 | 299 => 253 | 216 => 254 | 300 => 255 | 301 => 256 | 328 => 277 | 329 => 278 | 330 => 279 | 331 => 280 | 332 => 281 | 215 => 282 | 343 => 304 | n => n, fun | 28 => 24 | 3 => 3 | 46 => 224 | 0 => 0 | 51 => 225 | 53 => 261 | 4 => 4 | 183 => 372 | 182 => 371 | 131 => 187 | 5 => 5 | 9 => 9 | 218 => 391 | 222 => 395 | 228 => 422 | 229 => 423 | n => n, fun | n => n⟩
theorem Tryz.lays189 : Go.Proofs.Lays.n189 Tryz.prog Tryz.lays189_ren := {
  mixed := by kernel_rfl
  f125 := Tryz.func217.trans (congrArg some (by kernel_rfl))
  f128 := Tryz.func257.trans (congrArg some (by kernel_rfl))
  f129 := Tryz.func258.trans (congrArg some (by kernel_rfl))
  f189 := Tryz.func161.trans (congrArg some (by kernel_rfl))
  f215 := Tryz.func282.trans (congrArg some (by kernel_rfl))
  f216 := Tryz.func254.trans (congrArg some (by kernel_rfl))
  f257 := Tryz.func216.trans (congrArg some (by kernel_rfl))
  f294 := Tryz.func248.trans (congrArg some (by kernel_rfl))
  f295 := Tryz.func249.trans (congrArg some (by kernel_rfl))
  f296 := Tryz.func250.trans (congrArg some (by kernel_rfl))
  f297 := Tryz.func251.trans (congrArg some (by kernel_rfl))
  f298 := Tryz.func252.trans (congrArg some (by kernel_rfl))
  f299 := Tryz.func253.trans (congrArg some (by kernel_rfl))
  f300 := Tryz.func255.trans (congrArg some (by kernel_rfl))
  f301 := Tryz.func256.trans (congrArg some (by kernel_rfl))
  f328 := Tryz.func277.trans (congrArg some (by kernel_rfl))
  f329 := Tryz.func278.trans (congrArg some (by kernel_rfl))
  f330 := Tryz.func279.trans (congrArg some (by kernel_rfl))
  f331 := Tryz.func280.trans (congrArg some (by kernel_rfl))
  f332 := Tryz.func281.trans (congrArg some (by kernel_rfl))
  f343 := Tryz.func304.trans (congrArg some (by kernel_rfl))
  t0 := Tryz.underlying0
  a0 := Tryz.isAgg0
  z0 := Tryz.sizeOf0
  v0 := Tryz.zeroValue0
  t3 := Tryz.underlying3
  a3 := Tryz.isAgg3
  z3 := Tryz.sizeOf3
  v3 := Tryz.zeroValue3
  t4 := Tryz.underlying4
  a4 := Tryz.isAgg4
  z4 := Tryz.sizeOf4
  v4 := Tryz.zeroValue4
  t5 := Tryz.underlying5
  a5 := Tryz.isAgg5
  z5 := Tryz.sizeOf5
  v5 := Tryz.zeroValue5
  t9 := Tryz.underlying9
  a9 := Tryz.isAgg9
  z9 := Tryz.sizeOf9
  v9 := Tryz.zeroValue9
  t28 := Tryz.underlying24
  a28 := Tryz.isAgg24
  z28 := Tryz.sizeOf24
  v28 := Tryz.zeroValue24
  t46 := Tryz.underlying224
  a46 := Tryz.isAgg224
  z46 := Tryz.sizeOf224
  v46 := Tryz.zeroValue224
  t51 := Tryz.underlying225
  a51 := Tryz.isAgg225
  z51 := Tryz.sizeOf225
  v51 := Tryz.zeroValue225
  t53 := Tryz.underlying261
  a53 := Tryz.isAgg261
  z53 := Tryz.sizeOf261
  v53 := Tryz.zeroValue261
  t131 := Tryz.underlying187
  a131 := Tryz.isAgg187
  z131 := Tryz.sizeOf187
  v131 := Tryz.zeroValue187
  t182 := Tryz.underlying371
  a182 := Tryz.isAgg371
  z182 := Tryz.sizeOf371
  v182 := Tryz.zeroValue371
  t183 := Tryz.underlying372
  a183 := Tryz.isAgg372
  z183 := Tryz.sizeOf372
  v183 := Tryz.zeroValue372
  t218 := Tryz.underlying391
  a218 := Tryz.isAgg391
  z218 := Tryz.sizeOf391
  v218 := Tryz.zeroValue391
  t222 := Tryz.underlying395
  a222 := Tryz.isAgg395
  z222 := Tryz.sizeOf395
  v222 := Tryz.zeroValue395
  t228 := Tryz.underlying422
  a228 := Tryz.isAgg422
  z228 := Tryz.sizeOf422
  v228 := Tryz.zeroValue422
  t229 := Tryz.underlying423
  a229 := Tryz.isAgg423
  z229 := Tryz.sizeOf423
  v229 := Tryz.zeroValue423 }
open Go.Sort Go.RowKit in
theorem Tryz.slices_Sort_int (blk off cap : Nat) (zs : List Int) (w : World) (hH : Holds (Value.int .i64) w blk off zs.toArray) (hblk : blk < w.heap.size) (hsz : zs.length < 4611686018427387904) :
    Calls Tryz.prog 161 #[.slice (some ⟨blk, off, none⟩) zs.length cap] w fun e w' =>
      e = .returned (.tuple #[]) ∧ ∃ n os, w' = grow (putRow (Value.int .i64) (Sort.ahead w n) blk off (zs.mergeSort fun x y => decide (x ≤ y)).toArray) os := Any.slices_Sort_int Tryz.lays189 blk off cap zs w hH hblk hsz
def Tryz.laysNm220_ren : Go.Shelf.Ren := ⟨fun | 20 => 162 | n => n, fun | 22 => 24 | 3 => 3 | 4 => 4 | 0 => 0 | n => n, fun | n => n⟩
theorem Tryz.laysNm220 : Go.Proofs.Lays2.n20 Tryz.prog Tryz.laysNm220_ren := {
  mixed := by kernel_rfl
  f20 := Tryz.func162.trans (congrArg some (by kernel_rfl))
  t0 := Tryz.underlying0
  a0 := Tryz.isAgg0
  z0 := Tryz.sizeOf0
  v0 := Tryz.zeroValue0
  t3 := Tryz.underlying3
  a3 := Tryz.isAgg3
  z3 := Tryz.sizeOf3
  v3 := Tryz.zeroValue3
  t4 := Tryz.underlying4
  a4 := Tryz.isAgg4
  z4 := Tryz.sizeOf4
  v4 := Tryz.zeroValue4
  t22 := Tryz.underlying24
  a22 := Tryz.isAgg24
  z22 := Tryz.sizeOf24
  v22 := Tryz.zeroValue24
  i3 := by kernel_rfl }
open Go.RowKit Go.Lib Go.Sort in
/-- slices.Compact at []int: "Compact replaces consecutive runs of equal elements with a single copy. This is like the uniq command found on Unix. Compact modifies the contents of the slice s and returns the modified slice, which may have a smaller length. Compact zeroes the elements between the new length and the original length. The result preserves the nilness of s.": IT RETURNS THE SLICE CUT TO 'Lib.compact zs'; ITS CELLS HOLD 'Lib.compact zs', THEN ZERO VALUES up to the old length; all else is as it was, but for the count of draws. IN THE WORDS OF slices.Sort's CONTRACT ('Holds', 'putRow'): so the everyday 'slices.Sort(xs); xs = slices.Compact(xs)' goes from the one contract to the other. It asks 'zs.length ≤ cap' (every slice's: the reslicing 's[:k]' looks at it). Length 0, nil: '.._empty'. (LAID: no walk: one application.) -/
theorem Tryz.slices_Compact_int (blk off cap : Nat) (zs : List Int) (w : World) (hH : Holds (Value.int .i64) w blk off zs.toArray) (hsz : zs.length ≤ 9223372036854775807) (hcap : zs.length ≤ cap) :
    Calls Tryz.prog 162 #[.slice (some ⟨blk, off, none⟩) zs.length cap] w fun e w' => e = .returned (.slice (some ⟨blk, off, none⟩) (Lib.compact zs).length cap) ∧ ∃ q, w' = putRow (Value.int .i64) (Sort.ahead w q) blk off (Lib.compact zs ++ List.replicate (zs.length - (Lib.compact zs).length) 0).toArray := Any.slices_Compact_int Tryz.laysNm220 blk off cap zs w hH hsz hcap
open Go.RowKit Go.Lib Go.Sort in
/-- The same at a slice of length 0, a nil one too: it comes back as it is. (LAID: no walk: one application.) -/
theorem Tryz.slices_Compact_int_empty (a : Option Addr) (cap : Nat) (w : World) :
    Calls Tryz.prog 162 #[.slice a 0 cap] w fun e w' => e = .returned (.slice a 0 cap) ∧ w' = w := Any.slices_Compact_int_empty Tryz.laysNm220 a cap w
open Go.RowKit Go.Sort in
/-- .. and plain. (LAID: no walk: one application.) -/
theorem Tryz.slices_Sort_int_none (p : Option Addr) (cap : Nat) (w : World) :
    Calls Tryz.prog 161 #[.slice p 0 cap] w fun e w' => e = .returned (.tuple #[]) ∧ w' = w := Any.slices_Sort_int_none Tryz.lays189 p cap w
end Go.Proofs
