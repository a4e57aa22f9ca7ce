/- A map from exponents to factors: what a lookup, an entry and its store do, said of lists of monomials. -/
import Derived.Test.YtndjaogjkchpaaaSame
import Derived.MapKept
import Derived.ChangeMaps5
import Derived.WideKeyEntry
import Derived.Maps.RangeRun
namespace Go.Proofs.Ytndjaogjkchpaaa
open Go.RowKit
open Go.ChangeMaps (setBlock)

def kvM (m : Mono) : Value × Value := (.agg #[.int .u8 m.e0.toNat, .int .u8 m.e1.toNat, .int .u8 m.e2.toNat, .int .u8 m.e3.toNat, .int .u8 m.e4.toNat, .int .u8 m.e5.toNat], .int .i64 m.n)
def kvE (e : MapEntry) : Value × Value := (e.key, e.val)

/-- block r is a map that holds these monomials, in the order in which they came -/
def MapIs (w : World) (r : Nat) (L : List Mono) : Prop :=
  ∃ es clock, w.heap[r]? = some (.map es clock) ∧ es.toList.map kvE = L.map kvM ∧ (∀ x ∈ es.toList, x.born < clock) ∧ (es.toList.map (·.born)).Nodup

/-- the factor of k's exponents -/
def coef (k : Mono) : List Mono → Int
  | [] => 0
  | m :: l => if k.sameE m then m.n else coef k l

/-- .. set -/
def setTo (k : Mono) (x : Int) : List Mono → List Mono
  | [] => [{ k with n := x }]
  | m :: l => if k.sameE m then { k with n := x } :: l else m :: setTo k x l

def findAt (k : Mono) : List Mono → Nat → Option (Nat × Value)
  | [], _ => none
  | m :: l, i => if k.sameE m then some (i, .int .i64 m.n) else findAt k l (i + 1)

theorem run_findAsking (k : Mono) (w : World) : ∀ (es : List MapEntry) (L : List Mono) (i : Nat), es.map kvE = L.map kvM → (Instr.findAsking 37 (.agg #[.int .u8 k.e0.toNat, .int .u8 k.e1.toNat, .int .u8 k.e2.toNat, .int .u8 k.e3.toNat, .int .u8 k.e4.toNat, .int .u8 k.e5.toNat]) es i).run Try.prog w = .ok (findAt k L i) w
  | [], [], _, _ => by simp [Instr.findAsking, findAt]
  | [], _ :: _, _, h => by simp at h
  | _ :: _, [], _, h => by simp at h
  | e :: es, m :: L, i, h => by
    simp only [List.map_cons, List.cons.injEq, kvE, kvM, Prod.mk.injEq] at h
    obtain ⟨⟨h1, h2⟩, h3⟩ := h
    have ih := run_findAsking k w es L (i + 1) h3
    have he : (Op.equal 37 (.agg #[.int .u8 k.e0.toNat, .int .u8 k.e1.toNat, .int .u8 k.e2.toNat, .int .u8 k.e3.toNat, .int .u8 k.e4.toNat, .int .u8 k.e5.toNat]) e.key).run Try.prog w = .ok (k.sameE m) w := by
      rw [h1]; exact run_equalIn_E 9998 k m w
    simp only [Instr.findAsking, Sem.run_bind, Sem.run_ite, Sem.run_pure, he, Result.andThen_ok, findAt, h2]
    cases k.sameE m
    · simpa using ih
    · simp

theorem run_findKey (k : Mono) (w : World) (es : List MapEntry) (L : List Mono) (h : es.map kvE = L.map kvM) : (Instr.findKey 37 (.agg #[.int .u8 k.e0.toNat, .int .u8 k.e1.toNat, .int .u8 k.e2.toNat, .int .u8 k.e3.toNat, .int .u8 k.e4.toNat, .int .u8 k.e5.toNat]) es).run Try.prog w = .ok (findAt k L 0) w := by
  have hf := run_findAsking k w es L 0 h
  unfold Instr.findKey
  simp only [Sem.run_bind, run_underlying Try.underlying37, Result.andThen_ok]
  cases es with
  | nil =>
    cases L with
    | nil => simp [Instr.findNow, findAt]
    | cons m L => simp at h
  | cons e es => simpa [Instr.findNow, Instr.sameNow] using hf

theorem run_checkKey (b : Bool) (k : Mono) (w : World) : (Instr.checkKey b 10000 37 (.agg #[.int .u8 k.e0.toNat, .int .u8 k.e1.toNat, .int .u8 k.e2.toNat, .int .u8 k.e3.toNat, .int .u8 k.e4.toNat, .int .u8 k.e5.toNat])).run Try.prog w = .ok () w := by
  kernel_rfl

theorem run_stays (k : Mono) (w : World) : (Instr.keyThatStays (.agg #[.int .u8 k.e0.toNat, .int .u8 k.e1.toNat, .int .u8 k.e2.toNat, .int .u8 k.e3.toNat, .int .u8 k.e4.toNat, .int .u8 k.e5.toNat]) (.agg #[.int .u8 k.e0.toNat, .int .u8 k.e1.toNat, .int .u8 k.e2.toNat, .int .u8 k.e3.toNat, .int .u8 k.e4.toNat, .int .u8 k.e5.toNat])).run Try.prog w = .ok (.agg #[.int .u8 k.e0.toNat, .int .u8 k.e1.toNat, .int .u8 k.e2.toNat, .int .u8 k.e3.toNat, .int .u8 k.e4.toNat, .int .u8 k.e5.toNat]) w := by
  unfold Instr.keyThatStays
  simp [Instr.sameBits]

theorem findAt_none {k : Mono} {x : Int} : ∀ {L : List Mono} {i : Nat}, findAt k L i = none → coef k L = 0 ∧ setTo k x L = L ++ [{ k with n := x }]
  | [], _, _ => ⟨rfl, rfl⟩
  | m :: L, i, h => by
    unfold findAt at h
    cases hs : k.sameE m
    · rw [hs] at h
      simp only [Bool.false_eq_true, if_false] at h
      obtain ⟨h1, h2⟩ := findAt_none (x := x) h
      simp [coef, setTo, hs, h1, h2]
    · rw [hs] at h
      simp at h

theorem coef_app {k : Mono} : ∀ {L : List Mono} {i : Nat}, findAt k L i = none → ∀ M : List Mono, coef k (L ++ M) = coef k M
  | [], _, _, _ => rfl
  | m :: L, i, h, M => by
    unfold findAt at h
    cases hs : k.sameE m
    · rw [hs] at h
      simp only [Bool.false_eq_true, if_false] at h
      simp [coef, hs, coef_app h M]
    · rw [hs] at h
      simp at h

theorem sameE_self (k : Mono) (x : Int) : k.sameE { k with n := x } = true := by simp [Mono.sameE]

theorem findAt_some {k : Mono} {x : Int} {j : Nat} {v : Value} : ∀ {L : List Mono} {i : Nat}, findAt k L i = some (j, v) → ∃ d m, j = i + d ∧ L[d]? = some m ∧ k.sameE m = true ∧ v = .int .i64 m.n ∧ coef k L = m.n ∧ setTo k x L = L.set d { k with n := x }
  | [], _, h => by simp [findAt] at h
  | m :: L, i, h => by
    unfold findAt at h
    cases hs : k.sameE m
    · rw [hs] at h
      simp only [Bool.false_eq_true, if_false] at h
      obtain ⟨d, m', h1, h2, h3, h4, h5, h6⟩ := findAt_some (x := x) h
      exact ⟨d + 1, m', by omega, by simpa using h2, h3, h4, by simp [coef, hs, h5], by simp [setTo, hs, h6]⟩
    · rw [hs] at h
      simp only [if_true, Option.some.injEq, Prod.mk.injEq] at h
      exact ⟨0, m, by omega, rfl, hs, h.2.symm, by simp [coef, hs], by simp [setTo, hs]⟩

theorem run_lookup_map (k : Mono) {w : World} {r : Nat} {L : List Mono} (h : MapIs w r L) :
    (Instr.lookup 46 (.map (some r)) (.agg #[.int .u8 k.e0.toNat, .int .u8 k.e1.toNat, .int .u8 k.e2.toNat, .int .u8 k.e3.toNat, .int .u8 k.e4.toNat, .int .u8 k.e5.toNat]) false).run Try.prog w = .ok (.int .i64 (coef k L)) w := by
  obtain ⟨es, clock, hb, hkv, _, _⟩ := h
  have hz : (zeroValue 2).run Try.prog w = .ok (.int .i64 0) w := by kernel_rfl
  unfold Instr.lookup
  simp only [Sem.run_bind, run_underlying Try.underlying46, Result.andThen_ok, MapKept.run_getObj_map hb, Sem.run_pure, run_checkKey, run_findKey k w es.toList L hkv]
  cases hf : findAt k L 0 with
  | none => simp [(findAt_none (x := 0) hf).1, hz]
  | some p =>
    obtain ⟨j, v⟩ := p
    obtain ⟨d, m, _, _, _, rfl, h5, _⟩ := findAt_some (x := 0) hf
    simp [h5]

theorem sameE_key {k m : Mono} (h : k.sameE m = true) : (Value.agg #[.int .u8 m.e0.toNat, .int .u8 m.e1.toNat, .int .u8 m.e2.toNat, .int .u8 m.e3.toNat, .int .u8 m.e4.toNat, .int .u8 m.e5.toNat]) = .agg #[.int .u8 k.e0.toNat, .int .u8 k.e1.toNat, .int .u8 k.e2.toNat, .int .u8 k.e3.toNat, .int .u8 k.e4.toNat, .int .u8 k.e5.toNat] := by
  simp only [Mono.sameE, Bool.and_eq_true, beq_iff_eq] at h
  obtain ⟨h0, h1, h2, h3, h4, h5⟩ := h
  rw [h0, h1, h2, h3, h4, h5]

theorem setBlock_twice (w : World) (r : Nat) (a b : Obj) : setBlock (setBlock w r a) r b = setBlock w r b := by
  simp [setBlock]

theorem map_set_kv {es : Array MapEntry} {L : List Mono} {d : Nat} {k m : Mono} {e : MapEntry} (hkv : es.toList.map kvE = L.map kvM) (hd : L[d]? = some m) (hs : k.sameE m = true) (he : es[d]? = some e) (x : Int) :
    (es.modify d fun e => { e with val := .int .i64 x }).toList.map kvE = (L.set d { k with n := x }).map kvM := by
  have hk : e.key = .agg #[.int .u8 k.e0.toNat, .int .u8 k.e1.toNat, .int .u8 k.e2.toNat, .int .u8 k.e3.toNat, .int .u8 k.e4.toNat, .int .u8 k.e5.toNat] := by
    have h1 : (es.toList.map kvE)[d]? = some (kvE e) := by simp [he]
    rw [hkv, List.getElem?_map, hd] at h1
    simp only [Option.map_some, Option.some.injEq, kvE, kvM, Prod.mk.injEq] at h1
    rw [← h1.1]
    exact sameE_key hs
  have he' : es.toList[d]? = some e := by simpa using he
  rw [Array.toList_modify, ChangeMaps.modify_eq_set _ _ _ _ he', List.map_set, List.map_set, hkv]
  congr 1
  simp [kvE, kvM, hk]

theorem entry_store (k : Mono) (x : Int) {w : World} {r : Nat} {L : List Mono} (h : MapIs w r L) : ∃ v0 st w1 w2,
    (Instr.mapEntry 46 (.map (some r)) (.agg #[.int .u8 k.e0.toNat, .int .u8 k.e1.toNat, .int .u8 k.e2.toNat, .int .u8 k.e3.toNat, .int .u8 k.e4.toNat, .int .u8 k.e5.toNat])).run Try.prog w = .ok (.tuple #[v0, .int .i64 st]) w1 ∧
    (Instr.lookup 46 (.map (some r)) (.agg #[.int .u8 k.e0.toNat, .int .u8 k.e1.toNat, .int .u8 k.e2.toNat, .int .u8 k.e3.toNat, .int .u8 k.e4.toNat, .int .u8 k.e5.toNat]) false).run Try.prog w1 = .ok (.int .i64 (coef k L)) w1 ∧
    (Instr.entryStore 46 (.map (some r)) (.int .i64 st) (.int .i64 x)).run Try.prog w1 = .ok () w2 ∧
    MapIs w2 r (setTo k x L) ∧ ∃ o, w2 = setBlock w r o := by
  obtain ⟨es, clock, hb, hkv, hlt, hnd⟩ := h
  have hz : (zeroValue 2).run Try.prog w = .ok (.int .i64 0) w := by kernel_rfl
  cases hf : findAt k L 0 with
  | none =>
    obtain ⟨hc, hset⟩ := findAt_none (x := x) hf
    obtain ⟨_, hset0⟩ := findAt_none (x := 0) hf
    have hb1 : (setBlock w r (.map (es.push ⟨.agg #[.int .u8 k.e0.toNat, .int .u8 k.e1.toNat, .int .u8 k.e2.toNat, .int .u8 k.e3.toNat, .int .u8 k.e4.toNat, .int .u8 k.e5.toNat], .int .i64 0, clock⟩) (clock + 1))).heap[r]? = some (.map (es.push ⟨.agg #[.int .u8 k.e0.toNat, .int .u8 k.e1.toNat, .int .u8 k.e2.toNat, .int .u8 k.e3.toNat, .int .u8 k.e4.toNat, .int .u8 k.e5.toNat], .int .i64 0, clock⟩) (clock + 1)) := ChangeMaps.heap_setBlock_same hb _
    have hnd' : ∀ v, ((es.push ⟨.agg #[.int .u8 k.e0.toNat, .int .u8 k.e1.toNat, .int .u8 k.e2.toNat, .int .u8 k.e3.toNat, .int .u8 k.e4.toNat, .int .u8 k.e5.toNat], v, clock⟩).toList.map (·.born)).Nodup := fun v => by
      simp only [Array.toList_push, List.map_append, List.map_cons, List.map_nil]
      refine List.nodup_append.2 ⟨hnd, by simp, fun a ha c hc e1 => ?_⟩
      simp only [List.mem_singleton] at hc
      obtain ⟨y, hy, rfl⟩ := List.mem_map.1 ha
      have := hlt y hy
      omega
    have hlt' : ∀ v, ∀ y ∈ (es.push ⟨.agg #[.int .u8 k.e0.toNat, .int .u8 k.e1.toNat, .int .u8 k.e2.toNat, .int .u8 k.e3.toNat, .int .u8 k.e4.toNat, .int .u8 k.e5.toNat], v, clock⟩).toList, y.born < clock + 1 := fun v y hy => by
      simp only [Array.toList_push, List.mem_append, List.mem_singleton] at hy
      rcases hy with hy | rfl
      · have := hlt y hy; omega
      · simp
    have hkv' : ∀ n : Int, (es.push ⟨.agg #[.int .u8 k.e0.toNat, .int .u8 k.e1.toNat, .int .u8 k.e2.toNat, .int .u8 k.e3.toNat, .int .u8 k.e4.toNat, .int .u8 k.e5.toNat], .int .i64 n, clock⟩).toList.map kvE = (L ++ [{ k with n := n }]).map kvM := fun n => by
      simp [hkv, kvE, kvM]
    refine ⟨.int .i64 0, clock, setBlock w r (.map (es.push ⟨.agg #[.int .u8 k.e0.toNat, .int .u8 k.e1.toNat, .int .u8 k.e2.toNat, .int .u8 k.e3.toNat, .int .u8 k.e4.toNat, .int .u8 k.e5.toNat], .int .i64 0, clock⟩) (clock + 1)), setBlock w r (.map (es.push ⟨.agg #[.int .u8 k.e0.toNat, .int .u8 k.e1.toNat, .int .u8 k.e2.toNat, .int .u8 k.e3.toNat, .int .u8 k.e4.toNat, .int .u8 k.e5.toNat], .int .i64 x, clock⟩) (clock + 1)), ?_, ?_, ?_, ?_, ⟨_, rfl⟩⟩
    · unfold Instr.mapEntry
      simp only [Sem.run_bind, run_underlying Try.underlying46, Result.andThen_ok, MapKept.run_getObj_map hb, Sem.run_pure, run_checkKey, run_findKey k w es.toList L hkv, hf, hz]
      simp [MapKept.run_setObj_map _ hb, Result.andThen, setBlock, goInt]
    · have hm : MapIs (setBlock w r (.map (es.push ⟨.agg #[.int .u8 k.e0.toNat, .int .u8 k.e1.toNat, .int .u8 k.e2.toNat, .int .u8 k.e3.toNat, .int .u8 k.e4.toNat, .int .u8 k.e5.toNat], .int .i64 0, clock⟩) (clock + 1))) r (L ++ [{ k with n := 0 }]) := ⟨_, _, hb1, hkv' 0, hlt' _, hnd' _⟩
      rw [run_lookup_map k hm, hc, coef_app hf]
      simp [coef, sameE_self]
    · have hidx : (es.push ⟨.agg #[.int .u8 k.e0.toNat, .int .u8 k.e1.toNat, .int .u8 k.e2.toNat, .int .u8 k.e3.toNat, .int .u8 k.e4.toNat, .int .u8 k.e5.toNat], .int .i64 0, clock⟩).findIdx? (fun e => ((e.born : Nat) : Int) == ((clock : Nat) : Int)) = some es.size := by
        rw [WideElems.findIdx_arr]
        exact WideElems.findIdx_born (j := es.size) (e0 := ⟨.agg #[.int .u8 k.e0.toNat, .int .u8 k.e1.toNat, .int .u8 k.e2.toNat, .int .u8 k.e3.toNat, .int .u8 k.e4.toNat, .int .u8 k.e5.toNat], .int .i64 0, clock⟩) (hnd' _) (by simp)
      have hmod : (es.push ⟨.agg #[.int .u8 k.e0.toNat, .int .u8 k.e1.toNat, .int .u8 k.e2.toNat, .int .u8 k.e3.toNat, .int .u8 k.e4.toNat, .int .u8 k.e5.toNat], .int .i64 0, clock⟩).modify es.size (fun e => { e with val := .int .i64 x }) = es.push ⟨.agg #[.int .u8 k.e0.toNat, .int .u8 k.e1.toNat, .int .u8 k.e2.toNat, .int .u8 k.e3.toNat, .int .u8 k.e4.toNat, .int .u8 k.e5.toNat], .int .i64 x, clock⟩ := by
        apply Array.ext'
        rw [Array.toList_modify, Array.toList_push, Array.toList_push, ← Array.length_toList, WideElems.modify_last]
      simp only [Instr.entryStore, Sem.run_bind, MapKept.run_getObj_map hb1, Result.andThen_ok, asInt, asIntOf, Sem.run_pure, hidx, hmod, MapKept.run_setObj_map _ hb1]
      simp [setBlock]
    · rw [hset]
      exact ⟨_, _, ChangeMaps.heap_setBlock_same hb _, hkv' x, hlt' _, hnd' _⟩
  | some p =>
    obtain ⟨j, v⟩ := p
    obtain ⟨d, m, hj, hd, hs, hv, hc, hset⟩ := findAt_some (x := x) hf
    obtain rfl : j = d := by omega
    subst hv
    have hlen : es.size = L.length := by
      have := congrArg List.length hkv
      simpa using this
    have hjl : j < es.size := by rw [hlen]; exact (List.getElem?_eq_some_iff.1 hd).1
    obtain ⟨e, he⟩ : ∃ e, es[j]? = some e := ⟨es[j], Array.getElem?_eq_getElem hjl⟩
    have hk : e.key = .agg #[.int .u8 k.e0.toNat, .int .u8 k.e1.toNat, .int .u8 k.e2.toNat, .int .u8 k.e3.toNat, .int .u8 k.e4.toNat, .int .u8 k.e5.toNat] := by
      have h1 : (es.toList.map kvE)[j]? = some (kvE e) := by simp [he]
      rw [hkv, List.getElem?_map, hd] at h1
      simp only [Option.map_some, Option.some.injEq, kvE, kvM, Prod.mk.injEq] at h1
      rw [← h1.1]
      exact sameE_key hs
    have he' : es.toList[j]? = some e := by simpa using he
    have hsame : es.modify j (fun e => { e with key := .agg #[.int .u8 k.e0.toNat, .int .u8 k.e1.toNat, .int .u8 k.e2.toNat, .int .u8 k.e3.toNat, .int .u8 k.e4.toNat, .int .u8 k.e5.toNat] }) = es := by
      apply Array.ext'
      rw [Array.toList_modify, ChangeMaps.modify_eq_set _ _ _ _ he', ← hk]
      exact WideElems.set_self _ _ _ he'
    have hb1 : (setBlock w r (.map es clock)).heap[r]? = some (.map es clock) := ChangeMaps.heap_setBlock_same hb _
    refine ⟨.int .i64 m.n, e.born, setBlock w r (.map es clock), setBlock w r (.map (es.modify j fun e => { e with val := .int .i64 x }) clock), ?_, ?_, ?_, ?_, ⟨_, rfl⟩⟩
    · unfold Instr.mapEntry
      simp only [Sem.run_bind, run_underlying Try.underlying46, Result.andThen_ok, MapKept.run_getObj_map hb, Sem.run_pure, run_checkKey, run_findKey k w es.toList L hkv, hf, he, Option.map_some, Option.getD_some, hk, run_stays]
      rw [hsame, MapKept.run_setObj_map _ hb]
      simp [setBlock, goInt]
    · exact run_lookup_map k ⟨_, _, hb1, hkv, hlt, hnd⟩
    · have hidx : es.findIdx? (fun e' => ((e'.born : Nat) : Int) == ((e.born : Nat) : Int)) = some j := by
        rw [WideElems.findIdx_arr]
        exact WideElems.findIdx_born hnd he'
      simp only [Instr.entryStore, Sem.run_bind, MapKept.run_getObj_map hb1, Result.andThen_ok, asInt, asIntOf, Sem.run_pure, hidx, MapKept.run_setObj_map _ hb1]
      simp [setBlock]
    · rw [hset]
      have hborn : (es.modify j fun e => { e with val := .int .i64 x }).toList.map (·.born) = es.toList.map (·.born) := by
        rw [Array.toList_modify, ChangeMaps.modify_eq_set _ _ _ _ he', List.map_set]
        exact WideElems.set_self _ _ _ (by simp [he'])
      refine ⟨_, _, ChangeMaps.heap_setBlock_same hb _, map_set_kv hkv hd hs he x, fun y hy => ?_, by rw [hborn]; exact hnd⟩
      have hy' : y.born ∈ es.toList.map (·.born) := by rw [← hborn]; exact List.mem_map.2 ⟨y, hy, rfl⟩
      obtain ⟨z, hz1, hz2⟩ := List.mem_map.1 hy'
      rw [← hz2]
      exact hlt z hz1

end Go.Proofs.Ytndjaogjkchpaaa
