/- The engine: maps keyed by numbers; texts appended to rows of bytes; a row of bytes read as a text; pointers compared. -/
import Derived.Test.YtngkedmndhmjcaaGreatDoorCut
import Derived.MapKept
import Derived.ChangeMaps5
import Derived.WideKeyEntry
import Derived.Lib.AppendStr
import Derived.Lib.UnsafeStr
import Derived.Lib.Builder
namespace Go.Proofs.YtngkedmndhmjcaaGreatDoor
open Go.RowKit
open Go.ChangeMaps (setBlock)

abbrev KV := List (Int × Value)
def kvI (kk : IntKind) (kv : KV) : List (Value × Value) := kv.map fun p => (Value.int kk p.1, p.2)
def entE (e : MapEntry) : Value × Value := (e.key, e.val)
/-- the block holds these keys and values, in the order in which they came -/
def MapO (kk : IntKind) (kv : KV) (o : Option Obj) : Prop := ∃ es clock, o = some (.map es clock) ∧ es.toList.map entE = kvI kk kv
def mapC (r : Nat) (kk : IntKind) (kv : KV) : Chunk := .gen (some r) (MapO kk kv)
def mapF (r : Nat) (kk : IntKind) (kv : KV) : Fact where
  p S w := S r ∧ MapO kk kv (w.heap[r]?)
  mono := fun hs ha h => ⟨hs _ h.1, by rw [ha r h.1]; exact h.2⟩
def findM (k : Int) : KV → Nat → Option (Nat × Value)
  | [], _ => none
  | p :: r, i => if k == p.1 then some (i, p.2) else findM k r (i + 1)
def getM (k : Int) : KV → Option Value
  | [] => none
  | p :: r => if k == p.1 then some p.2 else getM k r
def setM (k : Int) (v : Value) : KV → KV
  | [] => [(k, v)]
  | p :: r => if k == p.1 then (k, v) :: r else p :: setM k v r
theorem find_get (k : Int) : ∀ (kv : KV) (i : Nat), (findM k kv i).map (·.2) = getM k kv
  | [], _ => rfl
  | p :: r, i => by
    unfold findM getM
    split
    · rfl
    · exact find_get k r (i + 1)
theorem find_none {k : Int} {v : Value} : ∀ {kv : KV} {i : Nat}, findM k kv i = none → setM k v kv = kv ++ [(k, v)]
  | [], _, _ => rfl
  | p :: r, i, h => by
    unfold findM at h
    unfold setM
    split at h
    · cases h
    · rename_i hk
      rw [if_neg hk, find_none h]
      rfl
theorem find_some {k : Int} {v : Value} {j : Nat} {u : Value} : ∀ {kv : KV} {i : Nat}, findM k kv i = some (j, u) → ∃ d, j = i + d ∧ ∃ p, kv[d]? = some p ∧ k = p.1 ∧ setM k v kv = kv.set d (k, v)
  | [], _, h => by cases h
  | p :: r, i, h => by
    unfold findM at h
    split at h
    · rename_i hk
      simp only [Option.some.injEq, Prod.mk.injEq] at h
      exact ⟨0, by omega, p, rfl, by simpa using hk, by simp [setM, hk]⟩
    · rename_i hk
      obtain ⟨d, h1, q, h2, h3, h4⟩ := find_some (v := v) h
      exact ⟨d + 1, by omega, q, h2, h3, by rw [setM, if_neg hk, h4]; rfl⟩
section
variable {P : Program} {kk : IntKind} {k : Int} {w : World} {t kt et : TypeId}
theorem run_findNow (kk : IntKind) (k : Int) : ∀ (es : List MapEntry) (kv : KV) (i : Nat), es.map entE = kvI kk kv → Instr.findNow (.int kk) (.int kk k) es i = some (findM k kv i)
  | [], [], _, _ => rfl
  | [], _ :: _, _, h => by simp [kvI] at h
  | _ :: _, [], _, h => by simp [kvI] at h
  | e :: es, p :: kv, i, h => by
    simp only [List.map_cons, List.cons.injEq, kvI, entE, Prod.mk.injEq] at h
    obtain ⟨⟨h1, h2⟩, h3⟩ := h
    have ih := run_findNow kk k es kv (i + 1) h3
    unfold Instr.findNow
    rw [h1]
    simp only [Instr.sameNow, if_true, findM]
    cases hk : k == p.1
    · simpa using ih
    · simp [h2]
theorem run_findKeyI (hk : P.underlying kt = some (.int kk)) {es : List MapEntry} {kv : KV} (h : es.map entE = kvI kk kv) : (Instr.findKey kt (.int kk k) es).run P w = .ok (findM k kv 0) w := by
  unfold Instr.findKey
  simp only [Sem.run_bind, run_underlying hk, Result.andThen_ok, run_findNow kk k es kv 0 h, Sem.run_pure]
theorem run_checkKeyI (hk : P.underlying kt = some (.int kk)) (b : Bool) : (Instr.checkKey b 10000 kt (.int kk k)).run P w = .ok () w := by
  have : ∀ n, (Instr.checkKey b (n + 1) kt (.int kk k)).run P w = .ok () w := fun n => by simp [Instr.checkKey, run_underlying hk]
  exact this 9999
theorem run_staysI : (Instr.keyThatStays (.int kk k) (.int kk k)).run P w = .ok (.int kk k) w := by
  have : ∀ n, Instr.sameBits (n + 1) (.int kk k) (.int kk k) = true := fun n => by simp [Instr.sameBits]
  unfold Instr.keyThatStays
  rw [this 9999]
  simp
theorem run_lookupI (ht : P.underlying t = some (.map kt et)) (hk : P.underlying kt = some (.int kk)) {z : Value} (hz : (zeroValue et).run P w = .ok z w) {r : Nat} {kv : KV} (h : MapO kk kv (w.heap[r]?)) :
    (Instr.lookup t (.map (some r)) (.int kk k) false).run P w = .ok ((getM k kv).getD z) w := by
  obtain ⟨es, clock, hb, hkv⟩ := h
  unfold Instr.lookup
  simp only [Sem.run_bind, run_underlying ht, Result.andThen_ok, MapKept.run_getObj_map hb, Sem.run_pure, run_checkKeyI hk, run_findKeyI hk hkv]
  rw [← find_get k kv 0]
  cases findM k kv 0 with
  | none => simp [hz]
  | some p => simp
theorem run_mapUpdateI (ht : P.underlying t = some (.map kt et)) (hk : P.underlying kt = some (.int kk)) {r : Nat} {kv : KV} (v : Value) (h : MapO kk kv (w.heap[r]?)) :
    ∃ o, (Instr.mapUpdate t (.map (some r)) (.int kk k) v).run P w = .ok () (setBlock w r o) ∧ MapO kk (setM k v kv) ((setBlock w r o).heap[r]?) := by
  obtain ⟨es, clock, hb, hkv⟩ := h
  cases hf : findM k kv 0 with
  | none =>
    refine ⟨.map (es.push ⟨.int kk k, v, clock⟩) (clock + 1), ?_, ⟨_, _, ChangeMaps.heap_setBlock_same hb _, ?_⟩⟩
    · unfold Instr.mapUpdate
      simp only [Sem.run_bind, run_underlying ht, Result.andThen_ok, MapKept.run_getObj_map hb, run_checkKeyI hk, run_findKeyI hk hkv, hf]
      rw [MapKept.run_setObj_map _ hb]
      simp [setBlock]
    · rw [find_none hf]
      simp [hkv, kvI, entE]
  | some p =>
    obtain ⟨j, u⟩ := p
    obtain ⟨d, h1, q, h2, h3, h4⟩ := find_some (v := v) hf
    obtain rfl : j = d := by omega
    have hlen : es.size = kv.length := by
      have := congrArg List.length hkv
      simpa [kvI] using this
    have hjl : j < es.size := by rw [hlen]; exact (List.getElem?_eq_some_iff.1 h2).1
    obtain ⟨e, he⟩ : ∃ e, es[j]? = some e := ⟨es[j], Array.getElem?_eq_getElem hjl⟩
    have hek : e.key = .int kk k := by
      have h1 : (es.toList.map entE)[j]? = some (entE e) := by simp [he]
      rw [hkv, kvI, List.getElem?_map, h2] at h1
      simp only [Option.map_some, Option.some.injEq, entE, Prod.mk.injEq] at h1
      rw [← h1.1, h3]
    refine ⟨.map (es.modify j fun e => { e with key := .int kk k, val := v }) clock, ?_, ⟨_, _, ChangeMaps.heap_setBlock_same hb _, ?_⟩⟩
    · unfold Instr.mapUpdate
      simp only [Sem.run_bind, run_underlying ht, Result.andThen_ok, MapKept.run_getObj_map hb, run_checkKeyI hk, run_findKeyI hk hkv, hf, he, Option.map_some, Option.getD_some, hek, run_staysI]
      rw [MapKept.run_setObj_map _ hb]
      simp [setBlock]
    · rw [h4]
      apply List.ext_getElem?
      intro i
      have hi : (es.toList.map entE)[i]? = (kvI kk kv)[i]? := by rw [hkv]
      simp only [kvI, List.getElem?_map, Array.toList_modify, List.getElem?_modify, List.getElem?_set] at hi ⊢
      by_cases e' : j = i
      · subst e'
        have : j < kv.length := by omega
        have he' : es.toList[j]? = some e := by simpa using he
        simp [this, he', entE]
      · simp only [e', if_false] at hi ⊢
        simpa using hi
end
theorem kept_setBlock {w : World} {r : Nat} {o : Obj} : Kept (fun b => b = r) w (setBlock w r o) := by
  refine ⟨rfl, rfl, rfl, by simp [setBlock], fun b hb hne => ?_⟩
  simp [setBlock, Ne.symm hne]

section
variable {P : Program} {β : Base} {n : Nat} {Γ : Env} {H : List Chunk} {F : List Fact} {Q : Exit → Act → World → Prop} {K : Act → World → Prop} {T : Tab} {ops : Array Oper} {rest : List Oper} {o : Oper}
theorem at_makeMap {d : Nat} {t : TypeId} (kk : IntKind) (hw : want ops Γ o = some true) (ho : o.op = .makeMap t none) (hd : o.dst = some d) (hn : Nat.blt d n = true) (k : ∀ b, At β n ((d, .map (some b)) :: Γ) (mapC b kk [] :: H) F (wpList P ops Q rest)) : At β n Γ H F (wpList P ops Q (o :: rest)) :=
  at_step hw fun a w S f s hk => by
    have hr : (execOp a.eval o).run P w = .ok (.value (.map (some w.heap.size))) (w.alloc (.map #[] 0)) := by
      unfold execOp
      simp only [ho, Instr.makeMap]
      rfl
    unfold Oper.wp
    rw [hr, Oper.upon_value, hd]
    have s2 := s.alloc (.map #[] 0)
    refine k w.heap.size _ _ S (f.put (by simpa [Nat.blt_eq] using hn) _) ⟨s2.kept, fun c hc => ?_, fun c hc b hb => ?_, ?_, s2.zone⟩ (All.alloc s hk _)
    · rcases List.mem_cons.1 hc with rfl | hc
      · exact ⟨#[], 0, heap_alloc_new _ _, rfl⟩
      · exact s2.ok c (List.mem_cons_of_mem _ hc)
    · rcases List.mem_cons.1 hc with rfl | hc
      · exact s2.own (.obj w.heap.size (.map #[] 0)) (List.mem_cons_self ..) b hb
      · exact s2.own c (List.mem_cons_of_mem _ hc) b hb
    · have hp := List.pairwise_cons.1 s2.sep
      exact List.pairwise_cons.2 ⟨fun d hd b hb => hp.1 d hd b hb, hp.2⟩
theorem at_mapUpdate {r : Nat} {kk : IntKind} {kv : KV} {H' : List Chunk} (hH : Take H (mapC r kk kv) H') {t kt et : TypeId} {m x y : Operand} {k : Int} {v : Value} (hw : want ops Γ o = some true) (ho : o.op = .mapUpdate t m x y ∨ o.op = .insert t m x y) (hd : o.dst = none) (ht : P.underlying t = some (.map kt et)) (hk : P.underlying kt = some (.int kk))
    (hm : Γ.ev m = some (.map (some r))) (hx : Γ.ev x = some (.int kk k)) (hy : Γ.ev y = some v) (K' : At β n Γ (mapC r kk (setM k v kv) :: H') F (wpList P ops Q rest)) : At β n Γ H F (wpList P ops Q (o :: rest)) :=
  at_step hw fun a w S f s hF => by
    have hok : MapO kk kv (w.heap[r]?) := s.ok _ hH.mem
    obtain ⟨ob, hr0, hm0⟩ := run_mapUpdateI (k := k) ht hk v hok
    have hr : (execOp a.eval o).run P w = .ok .skip (setBlock w r ob) := by
      unfold execOp
      rcases ho with ho | ho
      · simp only [ho, f.ev hm, f.ev hx, f.ev hy, Sem.run_bind, hr0]
        rfl
      · simp only [ho, f.ev hm, f.ev hx, f.ev hy, Sem.run_bind, hr0]
        rfl
    unfold Oper.wp
    rw [hr, Oper.upon_skip, hd]
    have s2 := s.perm hH.perm
    exact K' _ _ S (f.put_none _) (s2.swap kept_setBlock rfl rfl hm0) (All.mono (fun _ h => h) (s.agree kept_setBlock (fun c hc e => by subst e; exact (s2.own _ (List.mem_cons_self ..) _ rfl).2.2 hc)) hF)
def KnowsMap (β : Base) (H : List Chunk) (F : List Fact) (r : Nat) (kk : IntKind) (kv : KV) : Prop := ∀ w S, St β H S w → All F S w → MapO kk kv (w.heap[r]?)
theorem knows_mapC {r : Nat} {kk : IntKind} {kv : KV} {H' : List Chunk} (hH : Take H (mapC r kk kv) H') : KnowsMap β H F r kk kv := fun _ _ s _ => s.ok _ hH.mem
theorem knows_mapF {r : Nat} {kk : IntKind} {kv : KV} (h : Has F (mapF r kk kv)) : KnowsMap β H F r kk kv := fun w S _ k => (h S w k).2
theorem sti_lookup {r : Nat} {kk : IntKind} {kv : KV} {t kt et : TypeId} {m x : Operand} {k : Int} {z v : Value} (hkm : KnowsMap β H F r kk kv) (ho : o.op = .lookup t m x false) (ht : P.underlying t = some (.map kt et)) (hk : P.underlying kt = some (.int kk)) (hz : ∀ w, (zeroValue et).run P w = .ok z w)
    (hm : Γ.ev m = some (.map (some r))) (hx : Γ.ev x = some (.int kk k)) (hv : (getM k kv).getD z = v) : Sti P β n Γ H F o v := fun a w S f s hF => by
  have := run_lookupI (k := k) ht hk (hz w) (hkm w S s hF)
  unfold execOp
  simp only [ho, f.ev hm, f.ev hx]
  rw [Sem.run_bind, this, hv]
  rfl
theorem at_freeze_map {r : Nat} {kk : IntKind} {kv : KV} {H' : List Chunk} (hH : Take H (mapC r kk kv) H') (h : At β n Γ H' (mapF r kk kv :: F) K) : At β n Γ H F K := fun a w S f s k => by
  have s2 := s.perm hH.perm
  have hok : MapO kk kv (w.heap[r]?) := s2.ok _ (List.mem_cons_self ..)
  have hsep := List.pairwise_cons.1 s2.sep
  have hown := s2.own _ (List.mem_cons_self ..)
  have hmono : All F (fun x => S x ∨ x = r) w := All.mono (fun _ h => .inl h) (fun _ _ => rfl) k
  refine h a w (fun x => S x ∨ x = r) f ⟨s2.kept, fun c hc => s2.ok c (List.mem_cons_of_mem _ hc), fun c hc x hx => ?_, hsep.2, fun x hx => ?_⟩ (All.cons ⟨.inr rfl, hok⟩ hmono)
  · obtain ⟨h1, h2, h3⟩ := s2.own c (List.mem_cons_of_mem _ hc) x hx
    refine ⟨h1, h2, fun h => ?_⟩
    rcases h with h | h
    · exact h3 h
    · subst h
      exact hsep.1 c hc _ rfl hx
  · rcases hx with hx | hx
    · exact s2.zone x hx
    · subst hx
      obtain ⟨h1, h2, _⟩ := hown _ rfl
      exact ⟨h1, .inr h2⟩

/-! ### rows of bytes -/
def byteE : Flat UInt8 where
  size := 1
  cells := fun b => [.int .u8 b.toNat]
  len := fun _ => rfl
  one := fun x u hu => by simp at hu; subst hu; rfl
  pos := by decide
theorem byteE_all (l : Bs) : byteE.all l = Lib.byteCells l := by
  unfold Flat.all Lib.byteCells
  induction l with
  | nil => rfl
  | cons b r ih => rw [List.flatMap_cons, ih]; rfl
/-- one chunk gives way to another one, in its block or in a new one -/
theorem St.swap_row' {v v' : Value} {t : TypeId} {sz m m' : Nat} {cs cs' : List Value} {S : Zone} {w w' : World} (s : St β (.row v t sz m cs :: H) S w) (k : Kept (fun b => some b = v.ownBlock) w w') (hv : ∀ b, v'.ownBlock = some b → some b = v.ownBlock ∨ w.heap.size ≤ b) (ok : w'.ownsRow 0 t sz v' m' cs') :
    St β (.row v' t sz m' cs' :: H) S w' := by
  have hsep := List.pairwise_cons.1 s.sep
  have hown := s.own _ (List.mem_cons_self ..)
  have s' : St β H S w' := s.tail.grow k (fun b hb => (hown b hb.symm).2.1) (fun d hd b hb e => hsep.1 d hd b e.symm hb)
  have hnew : ∀ b, v'.ownBlock = some b → b < w'.heap.size ∧ (β.M b ∨ β.w.heap.size ≤ b) ∧ ¬ S b := fun b hb => by
    refine ⟨(World.ownsRow.lt ok b hb).2, ?_⟩
    rcases hv b hb with h | h
    · exact (hown b h.symm).2
    · exact ⟨.inr (Nat.le_trans s.kept.size h), fun hS => absurd (s.zone _ hS).1 (by omega)⟩
  refine ⟨s'.kept, fun d hd => ?_, fun d hd b hb => ?_, List.pairwise_cons.2 ⟨fun d hd b hb hdb => ?_, s'.sep⟩, s'.zone⟩
  · rcases List.mem_cons.1 hd with rfl | hd
    · exact ok
    · exact s'.ok d hd
  · rcases List.mem_cons.1 hd with rfl | hd
    · exact hnew b hb
    · exact s'.own d hd b hb
  · rcases hv b hb with h | h
    · exact hsep.1 d hd b h.symm hdb
    · have := (s.own d (List.mem_cons_of_mem _ hd) _ hdb).1
      omega
theorem run_append_text {w : World} (t u ty e : TypeId) (i : TypeInfo) (ht : P.underlying t = some (.slice e)) (hu : P.underlying u = some .string) (hi : P.info? e = some i) (hz : i.zero = some (.int .u8 0)) (hsize : i.size = 1) (hby : i.bytes = 1)
    (v : Value) (m : Nat) (xs : List Value) (hown : w.ownsRow 0 e 1 v m xs) (s : ByteArray) (h63 : m + s.size ≤ maxLen) (hbytes : m + s.size ≤ 140737488355328) :
    ∃ v' w', (Builtin.append_ #[t, u] ty #[v, .string s]).run P w = .ok v' w' ∧ w'.ownsRow 0 e 1 v' (m + s.size) (xs ++ Lib.strCells s) ∧ w.grownBy w' v.ownBlock ∧ (∀ b, v'.ownBlock = some b → some b = v.ownBlock ∨ w.heap.size ≤ b) := by
  obtain ⟨v', w', hr, h2, h3, _⟩ := Lib.run_append_own_string (P := P) w 0 t u ty e i ht hu hi hz hsize hby v m xs hown s h63 hbytes (Nat.zero_le _)
  refine ⟨v', w', hr, h2, h3, fun b hb => ?_⟩
  rcases hown.2 with ⟨rfl, rfl⟩ | ⟨g, cap, cur, rfl, _, hg, hnc, hcm, hcs, _⟩
  · obtain ⟨v2, w2, hr2, h4, _, _⟩ := Lib.run_append_own_string (P := P) w w.heap.size t u ty e i ht hu hi hz hsize hby (.slice none 0 0) 0 xs ⟨hown.1, .inl ⟨rfl, rfl⟩⟩ s h63 hbytes (Nat.le_refl _)
    rw [hr] at hr2
    injection hr2 with e1 e2
    subst e1 e2
    exact .inr (World.ownsRow.lt h4 b hb).1
  · by_cases hroom : m + s.size ≤ cap
    · have hcs' : cur.size = cap := by simpa using hcs
      have hr2 := Lib.run_append_room_string (P := P) w t u ty e i ht hu hi hsize g m cap cur hg s hroom (by omega)
      rw [hr] at hr2
      injection hr2 with e1 e2
      subst e1
      exact .inl hb.symm
    · have hxl : xs.length = m := by simpa using hown.1
      have hsmall : m + s.size ≤ 9223372036854775807 := by simp only [maxLen] at h63; omega
      have holds : ∀ j u, xs[j]? = some u → w.cell? ((⟨g, 0, none⟩ : Addr).add j) = some u := hown.cells (g := g) rfl
      have hr2 := Lib.run_append_grow_string (P := P) w t u ty e i (.int .u8 0) ht hu hi hz ⟨g, 0, none⟩ m cap xs (by rw [hsize]; simpa using hxl) holds s (by omega) (by omega) (by rw [hby]; exact growslice_fits (by omega) (by omega))
      rw [hr] at hr2
      injection hr2 with e1 e2
      subst e1
      injection hb with hb
      subst hb
      exact .inr (Nat.le_refl _)
/-- append of a text's bytes -/
theorem at_append_text {d : Nat} {x y : Operand} {t u e : TypeId} {i : TypeInfo} {v : Value} {xs ys : Bs} {H' : List Chunk} (hH : Take H (byteE.row v e xs) H') (hw : want ops Γ o = some true)
    (ho : o.op = .call { callee := .builtin .append, args := #[x, y], argTypes := #[t, u] }) (hd : o.dst = some d) (hn : Nat.blt d n = true) (ht : P.underlying t = some (.slice e)) (hu : P.underlying u = some .string) (hi : P.info? e = some i) (hz : i.zero = some (.int .u8 0)) (hsize : i.size = 1) (hby : i.bytes = 1)
    (hx : Γ.ev x = some v) (hy : Γ.ev y = some (.string (bs ys))) (hl : xs.length + ys.length ≤ 140737488355328)
    (k : ∀ A' cap', At β n ((d, .slice A' (xs ++ ys).length cap') :: Γ) (byteE.row (.slice A' (xs ++ ys).length cap') e (xs ++ ys) :: H') F (wpList P ops Q rest)) : At β n Γ H F (wpList P ops Q (o :: rest)) :=
  at_step hw fun a w S f s hk => by
    have hown : w.ownsRow 0 e 1 v xs.length (byteE.all xs) := s.ok _ hH.mem
    obtain ⟨v', w', hr, h2, h3, h4⟩ := run_append_text (P := P) t u o.type e i ht hu hi hz hsize hby v xs.length _ hown (bs ys) (by rw [bs_size]; unfold maxLen; omega) (by rw [bs_size]; exact hl)
    have hr' : (execOp a.eval o).run P w = .ok (.value v') w' := by
      unfold execOp
      simp only [ho, resolve, invoke, builtin, Sem.run_bind, Sem.run_pure, Result.andThen_ok, List.map_toArray, List.map_cons, List.map_nil, f.ev hx, f.ev hy, hr]
    unfold Oper.wp
    rw [hr', Oper.upon_value, hd]
    have s2 := s.perm hH.perm
    have hall : byteE.all xs ++ Lib.strCells (bs ys) = byteE.all (xs ++ ys) := by rw [byteE_all, byteE_all, Lib.strCells_eq, bs_data, Lib.byteCells_append]
    rw [hall, bs_size, ← List.length_append] at h2
    obtain ⟨A', cap', e', _⟩ : ∃ A cap, v' = .slice A (xs ++ ys).length cap ∧ True := by
      rcases h2.2 with ⟨e', e0⟩ | ⟨g, cap, cur, e', _⟩
      · exact ⟨none, 0, by rw [e', e0], trivial⟩
      · exact ⟨_, cap, e', trivial⟩
    subst e'
    exact k A' cap' _ _ S (f.put (by simpa [Nat.blt_eq] using hn) _) (s2.swap_row' (kept_grown h3) h4 h2) (All.mono (fun _ h => h) (s.agree (kept_grown h3) (fun b hb e => (s2.own _ (List.mem_cons_self ..) b e.symm).2.2 hb)) hk)
theorem sti_sliceData {x : Operand} {ts : Array TypeId} {A : Option Addr} {m c : Nat} (ho : o.op = .call { callee := .builtin .unsafeSliceData, args := #[x], argTypes := ts }) (hx : Γ.ev x = some (.slice A m c)) (hc : A = none ∨ c ≠ 0) : Sti P β n Γ H F o (.pointer A) := fun a w S f s _ => by
  have hr : (Builtin.unsafeSliceData_ ts o.type #[.slice A m c]).run P w = .ok (.pointer A) w := by
    cases A with
    | none => exact Lib.run_unsafeSliceData_nil w ts o.type m c
    | some ad => exact Lib.run_unsafeSliceData_row w ts o.type ad m c (hc.resolve_left (by simp))
  unfold execOp
  simp only [ho, resolve, invoke, builtin, Sem.run_bind, Sem.run_pure, Result.andThen_ok, List.map_toArray, List.map_cons, List.map_nil, f.ev hx, hr]
/-- a row of bytes becomes a text -/
theorem at_unsafeString {d g m cap : Nat} {x y : Operand} {pt it e : TypeId} {xs : Bs} {H' : List Chunk} (hH : Take H (byteE.row (.slice (some ⟨g, 0, none⟩) m cap) e xs) H') (hw : want ops Γ o = some true) (ho : o.op = .call { callee := .builtin .unsafeString, args := #[x, y], argTypes := #[pt, it] }) (hd : o.dst = some d) (hn : Nat.blt d n = true)
    (hp : P.underlying pt = some (.pointer e)) (hc : P.cellsOf e = 1) (hx : Γ.ev x = some (.pointer (some ⟨g, 0, none⟩))) (hy : Γ.ev y = some (.int .i64 m)) (hm : m = xs.length) (h0 : xs ≠ [])
    (k : At β n ((d, .string (bs xs)) :: Γ) H' F (wpList P ops Q rest)) : At β n Γ H F (wpList P ops Q (o :: rest)) :=
  at_step hw fun a w S f s hk => by
    subst hm
    have hown : w.ownsRow 0 e 1 (.slice (some ⟨g, 0, none⟩) xs.length cap) xs.length (byteE.all xs) := s.ok _ hH.mem
    obtain ⟨cur, hg, hsz, hcap⟩ : ∃ cur, w.heap[g]? = some (.cells cur e (0, 0)) ∧ xs.length ≤ cur.size ∧ xs.length ≤ maxLen := by
      rcases hown.2 with ⟨e1, _⟩ | ⟨g', cap', cur, e1, _, hg, h1, h2, h3, _⟩
      · cases e1
      · injection e1 with e1 e2 e3
        injection e1 with e1
        injection e1 with e1
        subst e1 e3
        exact ⟨cur, hg, by omega, by omega⟩
    have hsh : w.shape? g = some (e, cur.size) := by simp [World.shape?, hg]
    have hcell : ∀ j u, xs[j]? = some u → w.cell? ((⟨g, 0, none⟩ : Addr).add j) = some (.int .u8 u.toNat) := fun j u hj => by
      have h1 := hown.cells (g := g) rfl j (.int .u8 u.toNat) (by rw [byteE_all]; simp [Lib.byteCells, hj])
      exact h1
    have hr := Lib.run_unsafeString_row (P := P) w pt it o.type e hp hc g cur.size hsh xs h0 hsz (by simp only [maxLen] at hcap; omega) hcell
    have hr' : (execOp a.eval o).run P w = .ok (.value (.string (bs xs))) (w.freeze ⟨g, 0, none⟩ xs.length) := by
      unfold execOp
      simp only [ho, resolve, invoke, builtin, Sem.run_bind, Sem.run_pure, Result.andThen_ok, List.map_toArray, List.map_cons, List.map_nil, f.ev hx, f.ev hy, hr]
      rfl
    unfold Oper.wp
    rw [hr', Oper.upon_value, hd]
    have s2 := s.perm hH.perm
    have hkept : Kept (fun b => b = g) w (w.freeze ⟨g, 0, none⟩ xs.length) := by
      unfold World.freeze
      split
      · exact Kept.refl _ _
      · refine ⟨rfl, rfl, rfl, by simp, fun b hb hne => ?_⟩
        simp [Array.getElem?_modify, Ne.symm hne]
    have hown2 := s2.own _ (List.mem_cons_self ..) g rfl
    have hsep := List.pairwise_cons.1 s2.sep
    exact k _ _ S (f.put (by simpa [Nat.blt_eq] using hn) _) (s2.tail.grow hkept (fun b hb => by subst hb; exact hown2.2.1) (fun c hc b hb e => by subst e; exact hsep.1 c hc _ rfl hb)) (All.mono (fun _ h => h) (s.agree hkept (fun b hb e => by subst e; exact hown2.2.2 hb)) hk)
theorem sti_noString {x y : Operand} {pt it : TypeId} (ho : o.op = .call { callee := .builtin .unsafeString, args := #[x, y], argTypes := #[pt, it] }) {p : Option Addr} (hx : Γ.ev x = some (.pointer p)) (hy : Γ.ev y = some (.int .i64 0)) : Sti P β n Γ H F o (.string (bs [])) := fun a w S f s _ => by
  have hr := Lib.run_unsafeString_none (P := P) w pt it o.type p
  unfold execOp
  simp only [ho, resolve, invoke, builtin, Sem.run_bind, Sem.run_pure, Result.andThen_ok, List.map_toArray, List.map_cons, List.map_nil, f.ev hx, f.ev hy, hr]
  rfl

/-! ### pointers -/
theorem run_eqPtr {t e : TypeId} (ht : P.underlying t = some (.pointer e)) (p : Option Addr) (w : World) : (binOp .eql t (.pointer p) (.pointer none)).run P w = .ok (.bool p.isNone) w := by
  have h : ∀ k, (Op.equalIn (k + 1) t (.pointer p) (.pointer none)).run P w = .ok p.isNone w := fun k => by cases p <;> simp [Op.equalIn, run_underlying ht]
  simp only [binOp]
  rw [Sem.run_bind, show Op.equal t (.pointer p) (.pointer none) = Op.equalIn 10000 t (.pointer p) (.pointer none) from rfl, h 9999]
  rfl
theorem sti_ptr_nil {t e tt : TypeId} {x : Operand} {p : Option Addr} (ht : P.underlying t = some (.pointer e)) (ho : o.op = .binOp .eql t x (.const (.pointer none)) tt) (hx : Γ.ev x = some (.pointer p)) : Sti P β n Γ H F o (.bool p.isNone) := fun a w S f s _ => by
  have e1 : a.eval (.const (.pointer none)) = .pointer none := rfl
  have hg : (eqGuard .eql t x (.const (.pointer none)) (.pointer p) (.pointer none)).run P w = .ok () w := rfl
  unfold execOp
  simp only [ho, f.ev hx, e1]
  rw [Sem.run_bind, Sem.run_bind, hg, Result.andThen_ok, run_eqPtr ht]
  rfl
theorem sti_ptr_same {t e tt : TypeId} {j : TypeInfo} {x y : Operand} {p : Addr} (ht : P.underlying t = some (.pointer e)) (hj : P.info? e = some j) (ho : o.op = .binOp .neq t x y tt) (hx : Γ.ev x = some (.pointer (some p))) (hy : Γ.ev y = some (.pointer (some p))) : Sti P β n Γ H F o (.bool false) := fun a w S f s _ => by
  have hg : (eqGuard .neq t x y (.pointer (some p)) (.pointer (some p))).run P w = .ok () w := rfl
  unfold execOp
  simp only [ho, f.ev hx, f.ev hy]
  rw [Sem.run_bind, Sem.run_bind, hg, Result.andThen_ok, Lib.run_neq_ptr_same w p ht hj]
  rfl
theorem shape_of {b : Nat} {cs : List Value} {t : TypeId} {fz : Nat × Nat} {H' : List Chunk} (hH : Take H (.obj b (.cells cs.toArray t fz)) H') {S : Zone} {w : World} (s : St β H S w) : w.shape? b = some (t, cs.length) := by
  have h : w.heap[b]? = some (.cells cs.toArray t fz) := s.ok _ hH.mem
  simp [World.shape?, h]
theorem sti_toUnsafe {src dst t e : TypeId} {j : TypeInfo} {x : Operand} {b off : Nat} {cs : List Value} {fz : Nat × Nat} {H' : List Chunk} (hH : Take H (.obj b (.cells cs.toArray e fz)) H') (hs : P.underlying src = some (.pointer t)) (hd : P.underlying dst = some .unsafePointer) (ht : P.info? t = some j) (hj : j.size ≠ 0)
    (ho : o.op = .convert src dst x) (hx : Γ.ev x = some (.pointer (some ⟨b, off, none⟩))) (hoff : off < cs.length) : Sti P β n Γ H F o (.pointer (some ⟨b, off, none⟩)) := fun a w S f s _ => by
  have := Lib.run_to_unsafe (P := P) w ⟨b, off, none⟩ hs hd ht hj (shape_of hH s) hoff
  unfold execOp
  simp only [ho, f.ev hx]
  rw [Sem.run_bind, this]
  rfl
theorem sti_fromUnsafe {src dst u e : TypeId} {j : TypeInfo} {x : Operand} {b off : Nat} {cs : List Value} {fz : Nat × Nat} {H' : List Chunk} (hH : Take H (.obj b (.cells cs.toArray e fz)) H') (hs : P.underlying src = some .unsafePointer) (hd : P.underlying dst = some (.pointer u)) (hu : P.info? u = some j)
    (ho : o.op = .convert src dst x) (hx : Γ.ev x = some (.pointer (some ⟨b, off, none⟩))) (hl : liesAt P P.depth e (cs.length / P.cellsOf e) off u 1 = true) : Sti P β n Γ H F o (.pointer (some ⟨b, off, none⟩)) := fun a w S f s _ => by
  have := Lib.run_from_unsafe (P := P) w ⟨b, off, none⟩ hs hd hu (shape_of hH s) hl
  unfold execOp
  simp only [ho, f.ev hx]
  rw [Sem.run_bind, this]
  rfl
end
end Go.Proofs.YtngkedmndhmjcaaGreatDoor
