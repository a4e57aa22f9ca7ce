/- Contract of poly.listed: the factors of a map, put in order; too many of them, or too great ones: an error. Nothing that was there is changed. -/
import Derived.Test.YtndjaogjkchpaaaOwn
import Derived.Test.YtndjaogjkchpaaaRight
import Derived.Laws.Tables
namespace Go.Proofs.Ytndjaogjkchpaaa
open Go.RowKit Go.Sort
open Go.ChangeMaps (setBlock)

theorem perm_take {α : Type} (f : α → Nat) : ∀ {l : List α}, (l.map f).Nodup → ∀ p ∈ l, l.Perm (p :: l.filter (fun q => f q != f p))
  | [], _, p, hp => by simp at hp
  | a :: l, hn, p, hp => by
    simp only [List.map_cons, List.nodup_cons] at hn
    rcases List.mem_cons.1 hp with rfl | hp'
    · have e : l.filter (fun q => f q != f p) = l := by
        rw [List.filter_eq_self]
        intro q hq
        rw [bne_iff_ne]
        intro h
        exact hn.1 (List.mem_map.2 ⟨q, hq, h⟩)
      simp [e]
    · have hne : f a ≠ f p := fun h => hn.1 (List.mem_map.2 ⟨p, hp', h.symm⟩)
      rw [List.filter_cons_of_pos (by rw [bne_iff_ne]; exact hne)]
      exact ((perm_take f hn.2 p hp').cons a).trans (List.Perm.swap _ _ _)

def leftZ (Z : List (MapEntry × Mono)) (seen : Array Nat) : List (MapEntry × Mono) := Z.filter fun p => !seen.contains p.1.born

def nz (m : Mono) : Bool := m.n != 0

theorem zip_mem {es : List MapEntry} {L : List Mono} (h : es.map kvE = L.map kvM) {p : MapEntry × Mono} (hp : p ∈ es.zip L) : kvE p.1 = kvM p.2 := by
  induction es generalizing L with
  | nil => simp at hp
  | cons e es ih =>
    cases L with
    | nil => simp at hp
    | cons m L =>
      simp only [List.map_cons, List.cons.injEq] at h
      simp only [List.zip_cons_cons, List.mem_cons] at hp
      rcases hp with rfl | hp
      · exact h.1
      · exact ih h.2 hp

theorem leftZ_fst {es : Array MapEntry} {L : List Mono} (hl : es.toList.length = L.length) (seen : Array Nat) : (leftZ (es.toList.zip L) seen).map (·.1) = (leftOf es seen).toList := by
  unfold leftZ leftOf
  rw [Array.toList_filter]
  rw [show (es.toList.zip L).filter (fun p => !seen.contains p.1.born) = (es.toList.zip L).filter ((fun e : MapEntry => !seen.contains e.born) ∘ Prod.fst) from rfl]
  rw [← List.filter_map, List.map_fst_zip (by omega)]

/-- one entry more has come -/
theorem left_step {es : Array MapEntry} {L : List Mono} (hkv : es.toList.map kvE = L.map kvM) (hnd : (es.toList.map (·.born)).Nodup) {seen : Array Nat} {e : MapEntry} (he : e ∈ (leftOf es seen).toList) :
    ∃ m, e.key = .agg #[.int .u8 m.e0.toNat, .int .u8 m.e1.toNat, .int .u8 m.e2.toNat, .int .u8 m.e3.toNat, .int .u8 m.e4.toNat, .int .u8 m.e5.toNat] ∧ e.val = .int .i64 m.n ∧ (leftZ (es.toList.zip L) seen).Perm ((e, m) :: leftZ (es.toList.zip L) (seen.push e.born)) := by
  have hl : es.toList.length = L.length := by simpa using congrArg List.length hkv
  rw [← leftZ_fst hl] at he
  obtain ⟨⟨e', m⟩, hp, rfl⟩ := List.mem_map.1 he
  have hz := zip_mem hkv (List.mem_filter.1 hp).1
  simp only [kvE, kvM, Prod.mk.injEq] at hz
  refine ⟨m, hz.1, hz.2, ?_⟩
  have hnd' : ((leftZ (es.toList.zip L) seen).map fun p => p.1.born).Nodup := by
    have h1 : ((es.toList.zip L).map fun p => p.1.born).Nodup := by
      rw [show (fun p : MapEntry × Mono => p.1.born) = (·.born) ∘ Prod.fst from rfl, ← List.map_map, List.map_fst_zip (by omega)]
      exact hnd
    exact h1.sublist (List.Sublist.map _ List.filter_sublist)
  have h := perm_take (fun p : MapEntry × Mono => p.1.born) hnd' (e', m) hp
  refine h.trans (List.Perm.of_eq ?_)
  congr 1
  unfold leftZ
  rw [List.filter_filter]
  apply List.filter_congr
  intro p _
  simp only [Array.contains_push, Bool.not_or]
  cases seen.contains p.1.born <;> simp [bne]

def listedP (L : List Mono) : List Mono × Int := if rightB (canon L) then (canon L, 0) else ([], 21)

/-- a call that answers a list of monomials and an error's number -/
def Gives (w : World) (r : List Mono × Int) (e : Ending) (w' : World) : Prop :=
  ∃ v, e = .returned (.tuple #[v, .int .i64 r.2]) ∧ Below w.heap.size w w' ∧ Res w.heap.size w' v r.1

theorem Gives.list {w w' : World} {r : List Mono × Int} {e : Ending} (h : Gives w r e w') : ∃ A c, e = .returned (.tuple #[.slice A r.1.length c, .int .i64 r.2]) ∧ Below w.heap.size w w' ∧ Monos w' A r.1 := by
  obtain ⟨v, rfl, hb, A, c, rfl, hr⟩ := h
  exact ⟨A, c, rfl, hb, (Res.monos (B := w.heap.size) ⟨A, c, rfl, hr⟩).1⟩

theorem run_build_mono (m : Mono) (w : World) : (Instr.build 39 #[(0, .int .i64 m.n), (1, .agg #[.int .u8 m.e0.toNat, .int .u8 m.e1.toNat, .int .u8 m.e2.toNat, .int .u8 m.e3.toNat, .int .u8 m.e4.toNat, .int .u8 m.e5.toNat])]).run Try.prog w = .ok (.agg #[.int .i64 m.n, .int .u8 m.e0.toNat, .int .u8 m.e1.toNat, .int .u8 m.e2.toNat, .int .u8 m.e3.toNat, .int .u8 m.e4.toNat, .int .u8 m.e5.toNat]) w := run_build w _ _ _ (by kernel_rfl)

theorem info_mono : (Try.prog.info? 39).map (fun i => (i.zero, i.size, i.bytes)) = some (some (.agg #[.int .i64 0, .int .u8 0, .int .u8 0, .int .u8 0, .int .u8 0, .int .u8 0, .int .u8 0]), 7, 16) := by kernel_rfl

theorem cells_at {W : World} {g : Nat} {t : TypeId} {m : Mono} (hb : W.heap[g]? = some (.cells #[.int .i64 m.n, .int .u8 m.e0.toNat, .int .u8 m.e1.toNat, .int .u8 m.e2.toNat, .int .u8 m.e3.toNat, .int .u8 m.e4.toNat, .int .u8 m.e5.toNat] t)) : ∀ j u, m.cells[j]? = some u → W.cell? ((⟨g, 0, none⟩ : Addr).add j) = some u := fun j u hu => by
  have e : ((⟨g, 0, none⟩ : Addr).add j) = ⟨g, j, none⟩ := by
    unfold Addr.add
    split <;> simp_all
  rw [e]
  unfold World.cell?
  rw [hb]
  simpa [Mono.cells] using hu

theorem grown_setBlock {w w1 : World} {r : Nat} (o : Obj) (h : w1 = w ∨ w1 = w.drew) : w.grownBy (setBlock w1 r o) (some r) := by
  have hs : ∀ h : Array Obj, h.size ≤ (h.setIfInBounds r o).size := fun h => by simp
  have hk : ∀ (h : Array Obj) (i : Nat), r ≠ i → (h.setIfInBounds r o)[i]? = h[i]? := fun h i hne => by simp [hne]
  rcases h with rfl | rfl <;> exact ⟨rfl, rfl, rfl, hs _, fun i hi hne => hk _ _ (fun e => hne (by rw [e]))⟩

theorem left_eq {W : World} {b r : Nat} {es : Array MapEntry} {L : List Mono} {c c' s : Nat} {x : Option Nat} {seen : Array Nat} (hl : es.toList.length = L.length) (h1 : W.heap[b]? = some (.map es c)) (h2 : W.heap[r]? = some (.mapIter x s seen c')) :
    W.rangeLeft b r = (leftZ (es.toList.zip L) seen).length := by
  unfold World.rangeLeft
  rw [h1, h2]
  show (leftOf es seen).size = _
  rw [← Array.length_toList, ← leftZ_fst hl, List.length_map]

theorem perm_skip {C F : List Mono} {Z Z' : List (MapEntry × Mono)} {e : MapEntry} {m : Mono} (h : (C ++ (Z.map (·.2)).filter nz).Perm F) (hp : Z.Perm ((e, m) :: Z')) (hm : nz m = false) : (C ++ (Z'.map (·.2)).filter nz).Perm F := by
  have h1 : (Z.map (·.2)).Perm (m :: Z'.map (·.2)) := by simpa using hp.map (·.2)
  have h2 := h1.filter nz
  rw [List.filter_cons_of_neg (by rw [hm]; simp)] at h2
  exact (h2.symm.append_left C).trans h

theorem perm_take1 {C F : List Mono} {Z Z' : List (MapEntry × Mono)} {e : MapEntry} {m : Mono} (h : (C ++ (Z.map (·.2)).filter nz).Perm F) (hp : Z.Perm ((e, m) :: Z')) (hm : nz m = true) : (C ++ [m] ++ (Z'.map (·.2)).filter nz).Perm F := by
  have h1 : (Z.map (·.2)).Perm (m :: Z'.map (·.2)) := by simpa using hp.map (·.2)
  have h2 := h1.filter nz
  rw [List.filter_cons_of_pos hm] at h2
  rw [List.append_assoc]
  exact (h2.symm.append_left C).trans h

theorem owns_far {w w' : World} {B it : Nat} {v : Value} {C : List Mono} (h : Owns w B v C) (hg : w.grownBy w' (some it)) (hit : it < B) : Owns w' B v C := by
  refine World.ownsRow.kept h hg ?_
  rcases h.2 with ⟨rfl, _⟩ | ⟨g, cap, cur, rfl, hb, _⟩
  · exact .inl rfl
  · refine .inr fun e => ?_
    simp [Value.ownBlock] at e
    omega

theorem own_ne {w : World} {B it : Nat} {v : Value} {C : List Mono} (h : Owns w B v C) (hit : it < B) : some it ≠ v.ownBlock := by
  rcases h.2 with ⟨rfl, _⟩ | ⟨g, cap, cur, rfl, hb, _⟩
  · simp [Value.ownBlock]
  · intro e
    simp [Value.ownBlock] at e
    omega

theorem below_grown {B : Nat} {a w w' : World} {row : Option Nat} (h : Below B a w) (hg : w.grownBy w' row) (hB : B ≤ w.heap.size) (hr : ∀ k, row = some k → B ≤ k) : Below B a w' := h.grown hg hB hr

set_option maxRecDepth 100000 in
set_option maxHeartbeats 1000000 in
theorem listed_any (r : Nat) (L : List Mono) (w : World) (hm : MapIs w r L) (hA : Apart L) (hL : L.length ≤ 1000000) :
    Calls Try.prog 33 #[.map (some r)] w (Gives w (listedP L)) := by
  obtain ⟨es, clock, hb, hkv, hlt, hnd⟩ := hm
  have hr : r < w.heap.size := (Array.getElem?_eq_some_iff.1 hb).1
  have hrange : (Instr.range 46 (.map (some r))).run Try.prog w = .ok (.pointer (some ⟨w.heap.size, 0, none⟩)) (w.alloc (.mapIter (some r) clock #[] clock)) := by
    unfold Instr.range
    simp only [Sem.run_bind, run_underlying Try.underlying46, Result.andThen_ok, MapKept.run_getObj_map hb, Sem.run_pure]
    rfl
  have HA := Lib.hid hA
  have Hkv := Lib.hid hkv
  have Hnd := Lib.hid hnd
  have Hlt := Lib.hid hlt
  have Hb := Lib.hid hb
  clear hA hkv hnd hlt hb
  go_enter Try.func33, Try.ntmps33
  go_wp2
  go_loopw [4] (fun v wr => ∃ (seen : Array Nat) (C : List Mono), wr.heap[w.heap.size]? = some (.mapIter (some r) clock seen clock) ∧ Owns wr (w.heap.size + 1) v C ∧ Hid ((C ++ ((leftZ (es.toList.zip L) seen).map (·.2)).filter nz).Perm (L.filter nz)) ∧ Below w.heap.size w wr) (fun _ wr => wr.rangeLeft r w.heap.size)
  case atStart =>
    refine ⟨#[], [], heap_alloc_new _ _, World.ownsRow_nil _ _ _ _, ?_, (Below.refl _ _).alloc (Nat.le_refl _) _⟩
    show List.Perm _ _
    have hl : es.toList.length = L.length := by simpa using congrArg List.length Hkv.out
    have e : leftZ (es.toList.zip L) #[] = es.toList.zip L := by simp [leftZ]
    rw [e, List.map_snd_zip (by omega)]
    simp
  case round =>
    obtain ⟨seen, C, hit, hown, hperm, hbl⟩ := hrel
    have hbr : wr.heap[r]? = some (.map es clock) := (hbl.block r hr).trans Hb.out
    rcases run_next_at (P := Try.prog) wr 0 w.heap.size r clock clock seen es clock hit hbr Hlt.out (Nat.le_refl _) with ⟨h0, hn⟩ | ⟨e, he, w1, hw1, hn⟩
    · have hl : es.toList.length = L.length := by simpa using congrArg List.length Hkv.out
      have hz : leftZ (es.toList.zip L) seen = [] := by
        have h1 := leftZ_fst hl seen
        rw [show (leftOf es seen).toList = [] from List.eq_nil_of_length_eq_zero (by simpa using h0)] at h1
        exact List.map_eq_nil_iff.1 h1
      have hpm : C.Perm (L.filter nz) := by have := hperm.out; rw [hz] at this; simpa using this
      have hCl : C.length ≤ 1000000 := by
        have h1 := hpm.length_eq
        have h2 := List.length_filter_le nz L
        omega
      have HC := Lib.hid (show ∀ T : List Mono, T.Perm C → T.Pairwise (fun a b => b.key ≤ a.key) → T = canon L from fun T h1 h2 => canon_of HA.out (h1.trans hpm) h2)
      have Hown := Lib.hid hown
      have HBL := Lib.hid hbl
      clear hit hbr hperm hpm hz hl h0 hown hbl
      rcases Hown.out.2 with ⟨hnil, hC⟩ | ⟨g, cap, cur, hv, hg, _⟩
      · go_wp2_with fail
        rw [hnil]
        refine (sort_none _ _ _).mono ?_
        rintro e w1 ⟨rfl, hb1⟩
        obtain rfl : C = [] := List.eq_nil_of_length_eq_zero hC
        have hcan : canon L = [] := (HC.out [] (List.Perm.refl _) List.Pairwise.nil).symm
        have Hcan := Lib.hid hcan
        clear hcan
        have hb1' := Lib.hid hb1
        clear hb1
        go_wp2_with fail
        refine (right_any none 0 [] _ Monos.nil (by simp)).mono ?_
        rintro e w2 ⟨rfl, hb2⟩
        have hrb : rightB [] = true := rfl
        have HB2 := Lib.hid (show Below w.heap.size w w2 from (HBL.out.trans (hb1'.out.mono HBL.out.size)).trans (hb2.mono (by have := HBL.out.size; have := hb1'.out.size; omega)))
        clear hb2 hb1' HBL
        go_wp2
        go_ret2
        have e : listedP L = ([], 0) := by unfold listedP; rw [Hcan.out]; rfl
        rw [e]
        exact ⟨_, rfl, HB2.out, Res.nil _ _ _ _⟩
      · have hrow : Row wr g C := by
          have h := Hown.out
          rw [hv] at h
          exact Owns.row h
        have hgl : g < wr.heap.size := (World.ownsRow.lt Hown.out g (by rw [hv]; rfl)).2
        have HG := Lib.hid hg
        have HR := Lib.hid hrow
        clear hrow hg
        go_wp2_with fail
        rw [hv]
        refine (sort_any g cap C wr HR.out hgl (by omega)).mono ?_
        rintro e w1 ⟨rfl, T, hTp, hTs, hTr, hsz, hos, htp, hou, hkeep⟩
        have hT : T = canon L := HC.out T hTp hTs
        have hTl : T.length = C.length := hTp.length_eq
        have hb1 : Below w.heap.size w w1 := HBL.out.trans ⟨hos, htp, hou, hsz, fun k hk => hkeep k (Nat.lt_of_lt_of_le hk HBL.out.size) (by have := HG.out; omega)⟩
        have HB1 := Lib.hid hb1
        have hgl1 : g < w1.heap.size := Nat.lt_of_lt_of_le hgl hsz
        have HTr := Lib.hid hTr
        have HT := Lib.hid hT
        have HTl := Lib.hid hTl
        clear hTp hTs hTr hsz hos htp hou hkeep hT hTl hb1 HR HBL
        go_wp2_with fail
        rw [← HTl.out]
        refine (right_any _ cap T _ HTr.out.monos (by rw [HTl.out]; omega)).mono ?_
        rintro e w2 ⟨rfl, hb2⟩
        have HB2 := Lib.hid (show Below w.heap.size w w2 from HB1.out.trans (hb2.mono HB1.out.size))
        have HTr2 := Lib.hid (show Row w2 g T from HTr.out.below hb2 hgl1)
        clear hb2 HB1 HTr
        cases hrb : rightB T
        · go_wp2
          go_ret2
          have e : listedP L = ([], 21) := by unfold listedP; rw [← HT.out, hrb]; rfl
          rw [e]
          exact ⟨_, rfl, HB2.out, Res.nil _ _ _ _⟩
        · go_wp2
          go_ret2
          have e : listedP L = (T, 0) := by unfold listedP; rw [← HT.out, hrb]; rfl
          rw [e]
          refine ⟨_, rfl, HB2.out, some ⟨g, 0, none⟩, cap, ?_, .inr ⟨g, rfl, by have := HG.out; omega, HTr2.out⟩⟩
          simp [HTl.out]
    · obtain ⟨m, hk, hv, hp⟩ := left_step Hkv.out Hnd.out he
      rw [hk, hv] at hn
      obtain ⟨W1, hW1⟩ : ∃ W1, W1 = setBlock w1 w.heap.size (.mapIter (some r) clock (seen.push e.born) clock) := ⟨_, rfl⟩
      rw [← hW1] at hn
      have hg1 : wr.grownBy W1 (some w.heap.size) := by rw [hW1]; exact grown_setBlock _ hw1
      have hit1 : W1.heap[w.heap.size]? = some (.mapIter (some r) clock (seen.push e.born) clock) := by
        rw [hW1]
        have hlt : w.heap.size < w1.heap.size := by
          have := (Array.getElem?_eq_some_iff.1 hit).1
          rcases hw1 with rfl | rfl <;> exact this
        simp [setBlock, hlt]
      have hbr1 : W1.heap[r]? = some (.map es clock) := (hg1.block r (Array.getElem?_eq_some_iff.1 hbr).1 (by intro h; injection h with h; omega)).trans hbr
      have hen : (Instr.entry (.pointer (some ⟨w.heap.size, 0, none⟩))).run Try.prog W1 = .ok (.tuple #[.agg #[.int .u8 m.e0.toNat, .int .u8 m.e1.toNat, .int .u8 m.e2.toNat, .int .u8 m.e3.toNat, .int .u8 m.e4.toNat, .int .u8 m.e5.toNat], .int .i64 m.n]) W1 := by
        have := run_entry_at (P := Try.prog) W1 w.heap.size r clock seen es clock e hit1 hbr1 (by
          have := he
          unfold leftOf at this
          rw [Array.toList_filter] at this
          exact (List.mem_filter.1 this).1) Hnd.out
        rw [hk, hv] at this
        exact this
      have Hown := Lib.hid (owns_far hown hg1 (Nat.lt_succ_self _))
      have HBL := Lib.hid (below_grown hbl hg1 hbl.size (fun k hk => by injection hk with hk; omega))
      have Hit := Lib.hid hit1
      have Hbr := Lib.hid hbr1
      have hl : es.toList.length = L.length := by simpa using congrArg List.length Hkv.out
      have Hmes := Lib.hid (show wr.rangeLeft r w.heap.size = (leftZ (es.toList.zip L) (seen.push e.born)).length + 1 by rw [left_eq hl hbr hit, hp.length_eq]; rfl)
      have Hl := Lib.hid hl
      have hCl : C.length ≤ 1000000 := by
        have h1 := hperm.out.length_eq
        have h2 := List.length_filter_le nz L
        simp only [List.length_append] at h1
        omega
      have Hp := Lib.hid hp
      clear hl hp
      clear hW1 hg1 hit1 hbr1 hit hbr hown hbl hw1 he hk hv
      have hbu := run_build_mono m
      by_cases hz : m.n = 0
      · have hz1 : (m.n != 0) = false := by simp [hz]
        have Hz := Lib.hid hz
        clear hz
        go_wp2
        have q1 : (W1.alloc (.cells #[.int .u8 m.e0.toNat, .int .u8 m.e1.toNat, .int .u8 m.e2.toNat, .int .u8 m.e3.toNat, .int .u8 m.e4.toNat, .int .u8 m.e5.toNat] 37)).heap[w.heap.size]? = some (.mapIter (some r) clock (seen.push e.born) clock) := (Below.heap_alloc _ _ _ (Array.getElem?_eq_some_iff.1 Hit.out).1).trans Hit.out
        have q2 : (W1.alloc (.cells #[.int .u8 m.e0.toNat, .int .u8 m.e1.toNat, .int .u8 m.e2.toNat, .int .u8 m.e3.toNat, .int .u8 m.e4.toNat, .int .u8 m.e5.toNat] 37)).heap[r]? = some (.map es clock) := (Below.heap_alloc _ _ _ (Array.getElem?_eq_some_iff.1 Hbr.out).1).trans Hbr.out
        go_roundw
        case rel => exact ⟨seen.push e.born, C, q1, Hown.out.alloc _, perm_skip hperm.out Hp.out (by simp [nz, Hz.out]), HBL.out.alloc HBL.out.size _⟩
        case measure => rw [left_eq Hl.out q2 q1, Hmes.out]; omega
      · have hz1 : (m.n != 0) = true := by simp [hz]
        clear hz
        obtain ⟨i0, hi0, hi1, hi2, hi3⟩ := info_parts info_mono
        go_wp2_with (at_builtin; refine wpList_append_own_at _ rfl (.tmp 16) (.tmp 20) 22 rfl (w.heap.size + 1) 39 i0 _ 7 16 Try.underlying22 hi0 hi1 hi2 hi3 rfl (by decide) _ C.length (flat C) rfl ((Hown.out.alloc _).alloc _) ⟨W1.heap.size + 1, 0, none⟩ 1 1 m.cells rfl rfl ?hx ?h1 ?h2 ?h3 ?h4 ?_)
        case hx => exact cells_at (by rw [← World.size_alloc]; exact heap_alloc_new _ _)
        case h1 => exact cells_one m
        case h2 => unfold maxLen; omega
        case h3 => omega
        case h4 => have := HBL.out.size; simp; omega
        intro v' w2 hown2 hgrow2 _ _
        have hs2 := HBL.out.size
        have e1 : ((W1.alloc (.cells #[.int .u8 m.e0.toNat, .int .u8 m.e1.toNat, .int .u8 m.e2.toNat, .int .u8 m.e3.toNat, .int .u8 m.e4.toNat, .int .u8 m.e5.toNat] 37)).alloc (.cells #[.int .i64 m.n, .int .u8 m.e0.toNat, .int .u8 m.e1.toNat, .int .u8 m.e2.toNat, .int .u8 m.e3.toNat, .int .u8 m.e4.toNat, .int .u8 m.e5.toNat] 39)).heap[w.heap.size]? = some (.mapIter (some r) clock (seen.push e.born) clock) := by
          rw [Below.heap_alloc _ _ _ (by have := (Array.getElem?_eq_some_iff.1 Hit.out).1; simp; omega), Below.heap_alloc _ _ _ (Array.getElem?_eq_some_iff.1 Hit.out).1]; exact Hit.out
        have e2 : ((W1.alloc (.cells #[.int .u8 m.e0.toNat, .int .u8 m.e1.toNat, .int .u8 m.e2.toNat, .int .u8 m.e3.toNat, .int .u8 m.e4.toNat, .int .u8 m.e5.toNat] 37)).alloc (.cells #[.int .i64 m.n, .int .u8 m.e0.toNat, .int .u8 m.e1.toNat, .int .u8 m.e2.toNat, .int .u8 m.e3.toNat, .int .u8 m.e4.toNat, .int .u8 m.e5.toNat] 39)).heap[r]? = some (.map es clock) := by
          rw [Below.heap_alloc _ _ _ (by have := (Array.getElem?_eq_some_iff.1 Hbr.out).1; simp; omega), Below.heap_alloc _ _ _ (Array.getElem?_eq_some_iff.1 Hbr.out).1]; exact Hbr.out
        have q1 : w2.heap[w.heap.size]? = some (.mapIter (some r) clock (seen.push e.born) clock) := (hgrow2.block _ (Array.getElem?_eq_some_iff.1 e1).1 (own_ne Hown.out (Nat.lt_succ_self _))).trans e1
        have q2 : w2.heap[r]? = some (.map es clock) := (hgrow2.block _ (Array.getElem?_eq_some_iff.1 e2).1 (own_ne Hown.out (by omega))).trans e2
        have hb2 : Below w.heap.size w ((W1.alloc (.cells #[.int .u8 m.e0.toNat, .int .u8 m.e1.toNat, .int .u8 m.e2.toNat, .int .u8 m.e3.toNat, .int .u8 m.e4.toNat, .int .u8 m.e5.toNat] 37)).alloc (.cells #[.int .i64 m.n, .int .u8 m.e0.toNat, .int .u8 m.e1.toNat, .int .u8 m.e2.toNat, .int .u8 m.e3.toNat, .int .u8 m.e4.toNat, .int .u8 m.e5.toNat] 39)) := (HBL.out.alloc hs2 _).alloc (by simp; omega) _
        have hb3 : Below w.heap.size w w2 := below_grown hb2 hgrow2 hb2.size (fun k hk => by
          have := (World.ownsRow.lt Hown.out k hk).1
          omega)
        have Q1 := Lib.hid q1
        have Q2 := Lib.hid q2
        have HO2 := Lib.hid (show Owns w2 (w.heap.size + 1) v' (C ++ [m]) by
          have := hown2
          unfold Owns
          rw [flat_snoc, List.length_append]
          exact this)
        have HB3 := Lib.hid hb3
        clear e1 e2 q1 q2 hb2 hb3 hown2 hgrow2 Hown HBL Hit Hbr hs2 hi0 hi1 hi2 hi3 hbu hen hn
        go_wp2
        go_roundw
        case rel => exact ⟨seen.push e.born, C ++ [m], Q1.out, HO2.out, perm_take1 hperm.out Hp.out hz1, HB3.out⟩
        case measure => rw [left_eq Hl.out Q2.out Q1.out, Hmes.out]; omega

end Go.Proofs.Ytndjaogjkchpaaa
