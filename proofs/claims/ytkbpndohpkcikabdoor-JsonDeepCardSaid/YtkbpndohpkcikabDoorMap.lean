/-
  Maps keyed by an integer kind, read as functions; a range over one with stores at keys that are there.
-/
import Derived.Test.YtkbpndohpkcikabDoorMem
import Derived.Maps.RangeWalk
import Derived.Maps.OwnSet
namespace Go.Proofs.YtkbpndohpkcikabDoor
open Go.RowKit

def keyIs (q : IntKind) (x : Int) (e : MapEntry) : Bool := match e.key with | .int k y => decide (k = q) && (x == y) | _ => false

structure Ents (q : IntKind) (es : List MapEntry) (clock : Nat) : Prop where
  keys : ∀ e ∈ es, ∃ x, e.key = .int q x
  apart : es.Pairwise (fun a b => a.key ≠ b.key)
  born : ∀ e ∈ es, e.born < clock
  stamps : (es.map (·.born)).Nodup

def entAt (q : IntKind) (es : List MapEntry) (x : Int) : Option Value := (es.find? (keyIs q x)).map (·.val)

/-- Block b is a map that reads as f. -/
def IMap (w : World) (b : Nat) (q : IntKind) (f : Int → Option Value) : Prop :=
  ∃ es clock, w.heap[b]? = some (.map es clock) ∧ Ents q es.toList clock ∧ ∀ x, f x = entAt q es.toList x

theorem keyIs_iff {q : IntKind} {x : Int} {e : MapEntry} : keyIs q x e = true ↔ e.key = .int q x := by
  unfold keyIs
  constructor
  · intro h
    split at h
    · rename_i k y he
      simp only [Bool.and_eq_true, decide_eq_true_eq, beq_iff_eq] at h
      rw [he, h.1, h.2]
    · cases h
  · intro h
    rw [h]
    simp

theorem findNow_int (q : IntKind) (x : Int) : ∀ (es : List MapEntry) (i : Nat), (∀ e ∈ es, ∃ x, e.key = .int q x) →
    Instr.findNow (.int q) (.int q x) es i = some ((es.findIdx? (keyIs q x)).bind fun j => es[j]?.map fun e => (i + j, e.val))
  | [], i, _ => by simp [Instr.findNow]
  | e :: es, i, h => by
    obtain ⟨y, hy⟩ := h e (by simp)
    have ih := findNow_int q x es (i + 1) (fun e he => h e (by simp [he]))
    by_cases hxy : x = y
    · subst hxy
      have hk : keyIs q x e = true := keyIs_iff.2 hy
      simp [Instr.findNow, hy, Instr.sameNow, List.findIdx?_cons, hk]
    · have hk : keyIs q x e = false := by
        cases hk : keyIs q x e
        · rfl
        · rw [keyIs_iff, hy] at hk; cases hk; exact absurd rfl hxy
      have hb : (x == y) = false := by simpa using hxy
      simp only [Instr.findNow, hy, Instr.sameNow, if_true, hb]
      rw [ih, List.findIdx?_cons, hk]
      cases es.findIdx? (keyIs q x) with
      | none => simp
      | some j => simp; cases es[j]? <;> simp; omega

section
variable {P : Program} {w : World} {b : Nat} {q : IntKind} {f : Int → Option Value} {K E T : TypeId}

theorem run_findKey_int (hk : P.underlying K = some (.int q)) (x : Int) (es : List MapEntry) (h : ∀ e ∈ es, ∃ x, e.key = .int q x) (w : World) :
    (Instr.findKey K (.int q x) es).run P w = .ok ((es.findIdx? (keyIs q x)).bind fun j => es[j]?.map fun e => (j, e.val)) w := by
  simp only [Instr.findKey, Sem.run_bind, run_underlying hk, Result.andThen_ok, findNow_int q x es 0 h, Nat.zero_add]
  rfl

theorem run_checkKey_int (hk : P.underlying K = some (.int q)) (em : Bool) (x : Int) (w : World) : (Instr.checkKey em 10000 K (.int q x)).run P w = .ok () w := by
  show Sem.run P (Instr.checkKey em (9999 + 1) K (.int q x)) w = _
  rw [Instr.checkKey]
  simp only [Sem.run_bind, run_underlying hk, Result.andThen_ok]
  rfl

theorem entAt_idx (es : List MapEntry) (x : Int) : (es.findIdx? (keyIs q x)).bind (fun j => es[j]?.map fun e => (j, e.val)) = (es.findIdx? (keyIs q x)).bind fun j => (entAt q es x).map fun v => (j, v) := by
  cases h : es.findIdx? (keyIs q x) with
  | none => rfl
  | some j =>
    obtain ⟨hj, hkj, hmin⟩ := List.findIdx?_eq_some_iff_getElem.1 h
    have hf : es.find? (keyIs q x) = some es[j] := by
      rw [List.find?_eq_some_iff_getElem]
      exact ⟨hkj, j, hj, rfl, fun i hi => by simpa using hmin i hi⟩
    simp [entAt, hf, List.getElem?_eq_getElem hj]
theorem entAt_none (es : List MapEntry) (x : Int) (h : es.findIdx? (keyIs q x) = none) : entAt q es x = none := by
  rw [List.findIdx?_eq_none_iff] at h
  unfold entAt
  rw [List.find?_eq_none.2 (fun e he => by simpa using h e he)]
  rfl
theorem entAt_some (es : List MapEntry) (x : Int) {j : Nat} (h : es.findIdx? (keyIs q x) = some j) : ∃ hj : j < es.length, entAt q es x = some es[j].val ∧ es[j].key = .int q x := by
  obtain ⟨hj, hkj, hmin⟩ := List.findIdx?_eq_some_iff_getElem.1 h
  have hf : es.find? (keyIs q x) = some es[j] := by
    rw [List.find?_eq_some_iff_getElem]
    exact ⟨hkj, j, hj, rfl, fun i hi => by simpa using hmin i hi⟩
  exact ⟨hj, by simp [entAt, hf], keyIs_iff.1 hkj⟩

theorem IMap.lt (h : IMap w b q f) : b < w.heap.size := by
  obtain ⟨es, clock, hb, _⟩ := h
  exact (Array.getElem?_eq_some_iff.1 hb).1
theorem IMap.same {w' : World} (h : IMap w b q f) (hs : w'.heap[b]? = w.heap[b]?) : IMap w' b q f := by
  obtain ⟨es, clock, hb, r⟩ := h
  exact ⟨es, clock, hs.trans hb, r⟩
theorem IMap.mod {F : List Nat} {w' : World} (h : IMap w b q f) (hm : Mod F w w') (hn : b ∉ F) : IMap w' b q f := h.same (hm.block b h.lt hn)
theorem IMap.made (w : World) (q : IntKind) : IMap (w.alloc (.map #[] 0)) w.heap.size q (fun _ => none) :=
  ⟨#[], 0, heap_alloc_new w _, ⟨by simp, by simp, by simp, by simp⟩, fun x => by simp [entAt]⟩

theorem IMap.lookup (h : IMap w b q f) (ht : P.underlying T = some (.map K E)) (hk : P.underlying K = some (.int q)) {z : Value} (hz : (zeroValue E).run P w = .ok z w) (x : Int) :
    (Instr.lookup T (.map (some b)) (.int q x) false).run P w = .ok ((f x).getD z) w := by
  obtain ⟨es, clock, hb, F, hf⟩ := h
  have hfk := run_findKey_int (P := P) hk x es.toList F.keys w
  rw [entAt_idx] at hfk
  rw [hf]
  cases h : es.toList.findIdx? (keyIs q x) with
  | none =>
    rw [h] at hfk
    simp only [Option.bind_none] at hfk
    simp [Instr.lookup, run_underlying ht, MapKept.run_getObj_map hb, run_checkKey_int hk, hfk, entAt_none _ _ h, hz, Result.andThen]
  | some j =>
    obtain ⟨_, h2, _⟩ := entAt_some _ _ h
    rw [h, h2] at hfk
    simp only [Option.bind_some, Option.map_some] at hfk
    simp [Instr.lookup, run_underlying ht, MapKept.run_getObj_map hb, run_checkKey_int hk, hfk, h2, Result.andThen]
theorem IMap.lookup_ok (h : IMap w b q f) (ht : P.underlying T = some (.map K E)) (hk : P.underlying K = some (.int q)) {z : Value} (hz : (zeroValue E).run P w = .ok z w) (x : Int) :
    (Instr.lookup T (.map (some b)) (.int q x) true).run P w = .ok (.tuple #[(f x).getD z, .bool (f x).isSome]) w := by
  obtain ⟨es, clock, hb, F, hf⟩ := h
  have hfk := run_findKey_int (P := P) hk x es.toList F.keys w
  rw [entAt_idx] at hfk
  rw [hf]
  cases h : es.toList.findIdx? (keyIs q x) with
  | none =>
    rw [h] at hfk
    simp only [Option.bind_none] at hfk
    simp [Instr.lookup, run_underlying ht, MapKept.run_getObj_map hb, run_checkKey_int hk, hfk, entAt_none _ _ h, hz, Result.andThen]
  | some j =>
    obtain ⟨_, h2, _⟩ := entAt_some _ _ h
    rw [h, h2] at hfk
    simp only [Option.bind_some, Option.map_some] at hfk
    simp [Instr.lookup, run_underlying ht, MapKept.run_getObj_map hb, run_checkKey_int hk, hfk, h2, Result.andThen]

def upd (f : Int → Option Value) (x : Int) (v : Option Value) : Int → Option Value := fun y => if y = x then v else f y

theorem setBlock_mod (w : World) (b : Nat) (o : Obj) : Mod [b] w (ChangeMaps.setBlock w b o) :=
  ⟨rfl, rfl, rfl, by simp [ChangeMaps.setBlock], fun k hk hn => by
    simp only [ChangeMaps.setBlock]
    rw [Array.getElem?_setIfInBounds_ne]
    simpa using fun e => hn (by simp [e])⟩

theorem entAt_modify (es : List MapEntry) (x y : Int) (v : Value) {j : Nat} (h : es.findIdx? (keyIs q x) = some j) :
    entAt q (es.modify j fun e => { e with key := .int q x, val := v }) y = if y = x then some v else entAt q es y := by
  obtain ⟨hj, _, hkj⟩ := entAt_some _ _ h
  obtain ⟨_, hk2, hmin⟩ := List.findIdx?_eq_some_iff_getElem.1 h
  have hsame : ∀ i (hi : i < es.length) (z : Int), keyIs q z ((es.modify j fun e => { e with key := .int q x, val := v })[i]'(by simpa using hi)) = keyIs q z es[i] := by
    intro i hi z
    rw [List.getElem_modify]
    split
    · rename_i hij
      subst hij
      have e1 : (keyIs q z { es[j] with key := .int q x, val := v } = true) ↔ (keyIs q z es[j] = true) := by rw [keyIs_iff, keyIs_iff, hkj]
      cases h1 : keyIs q z { es[j] with key := .int q x, val := v } <;> cases h2 : keyIs q z es[j] <;> simp_all
    · rfl
  have hidx : ∀ z, (es.modify j fun e => { e with key := .int q x, val := v }).findIdx? (keyIs q z) = es.findIdx? (keyIs q z) := by
    intro z
    cases hz : es.findIdx? (keyIs q z) with
    | none =>
      rw [List.findIdx?_eq_none_iff] at hz ⊢
      intro e he
      obtain ⟨i, hi, rfl⟩ := List.mem_iff_getElem.1 he
      have hi' : i < es.length := by simpa using hi
      rw [hsame i hi' z]
      exact hz _ (List.getElem_mem hi')
    | some i =>
      obtain ⟨hi, h1, h2⟩ := List.findIdx?_eq_some_iff_getElem.1 hz
      rw [List.findIdx?_eq_some_iff_getElem]
      refine ⟨by simpa using hi, by rw [hsame i hi z]; exact h1, fun i' hi' => ?_⟩
      rw [hsame i' (by omega) z]
      exact h2 i' hi'
  cases hy : es.findIdx? (keyIs q y) with
  | none =>
    rw [entAt_none _ _ (by rw [hidx]; exact hy), entAt_none _ _ hy, if_neg]
    rintro rfl
    rw [h] at hy; cases hy
  | some i =>
    obtain ⟨hi, h1, h2⟩ := entAt_some (q := q) (es.modify j fun e => { e with key := .int q x, val := v }) y (j := i) (by rw [hidx]; exact hy)
    obtain ⟨hi', h3, h4⟩ := entAt_some _ _ hy
    rw [h1, h3]
    by_cases hyx : y = x
    · subst hyx
      rw [if_pos rfl]
      rw [h] at hy
      cases hy
      rw [List.getElem_modify, if_pos rfl]
    · rw [if_neg hyx, List.getElem_modify, if_neg]
      rintro rfl
      rw [hkj] at h4
      cases h4
      exact hyx rfl

theorem Ents.modify {es : List MapEntry} {clock : Nat} (F : Ents q es clock) {x : Int} {j : Nat} (h : es.findIdx? (keyIs q x) = some j) (v : Value) :
    Ents q (es.modify j fun e => { e with key := .int q x, val := v }) clock := by
  obtain ⟨hj, _, hkj⟩ := entAt_some _ _ h
  have hkeys : (es.modify j fun e => { e with key := .int q x, val := v }).map (·.key) = es.map (·.key) := by
    apply List.ext_getElem
    · simp
    · intro i h1 h2
      simp only [List.getElem_map, List.getElem_modify]
      split
      · rename_i hij; subst hij; exact hkj.symm
      · rfl
  have hborn : (es.modify j fun e => { e with key := .int q x, val := v }).map (·.born) = es.map (·.born) := by
    apply List.ext_getElem
    · simp
    · intro i h1 h2
      simp only [List.getElem_map, List.getElem_modify]
      split
      · rfl
      · rfl
  refine ⟨?_, ?_, ?_, by rw [hborn]; exact F.stamps⟩
  · intro e he
    have : e.key ∈ es.map (·.key) := by rw [← hkeys]; exact List.mem_map.2 ⟨e, he, rfl⟩
    obtain ⟨e', he', h1⟩ := List.mem_map.1 this
    obtain ⟨y, hy⟩ := F.keys e' he'
    exact ⟨y, by rw [← h1, hy]⟩
  · have h1 : (es.map (·.key)).Pairwise (· ≠ ·) := List.pairwise_map.2 F.apart
    rw [← hkeys] at h1
    exact List.pairwise_map.1 h1
  · intro e he
    have : e.born ∈ es.map (·.born) := by rw [← hborn]; exact List.mem_map.2 ⟨e, he, rfl⟩
    obtain ⟨e', he', h1⟩ := List.mem_map.1 this
    rw [← h1]
    exact F.born e' he'

theorem keyThatStays_int (x : Int) (w : World) : (Instr.keyThatStays (.int q x) (.int q x)).run P w = .ok (.int q x) w := by
  have : Instr.sameBits 10000 (.int q x) (.int q x) = true := by
    show (q == q && x == x) = true
    simp
  simp [Instr.keyThatStays, this]

theorem IMap.update (h : IMap w b q f) (ht : P.underlying T = some (.map K E)) (hk : P.underlying K = some (.int q)) (x : Int) (v : Value) :
    ∃ w', (Instr.mapUpdate T (.map (some b)) (.int q x) v).run P w = .ok () w' ∧ IMap w' b q (upd f x (some v)) ∧ Mod [b] w w' ∧ w'.heap.size = w.heap.size := by
  obtain ⟨es, clock, hb, F, hf⟩ := h
  have hfk := run_findKey_int (P := P) hk x es.toList F.keys w
  cases hidx : es.toList.findIdx? (keyIs q x) with
  | none =>
    refine ⟨ChangeMaps.setBlock w b (.map (es.push { key := .int q x, val := v, born := clock }) (clock + 1)), ?_, ?_, setBlock_mod _ _ _, by simp [ChangeMaps.setBlock]⟩
    · rw [hidx] at hfk
      simp only [Option.bind_none] at hfk
      simp [Instr.mapUpdate, run_underlying ht, MapKept.run_getObj_map hb, run_checkKey_int hk, hfk, MapKept.run_setObj_map _ hb, Result.andThen, ChangeMaps.setBlock]
    · refine ⟨_, _, ChangeMaps.heap_setBlock_same hb _, ?_, ?_⟩
      · rw [List.findIdx?_eq_none_iff] at hidx
        rw [Array.toList_push]
        refine ⟨?_, ?_, ?_, ?_⟩
        · intro e he
          rcases List.mem_append.1 he with h1 | h1
          · exact F.keys e h1
          · simp at h1; exact ⟨x, by rw [h1]⟩
        · rw [List.pairwise_append]
          refine ⟨F.apart, by simp, fun a ha c hc => ?_⟩
          simp at hc
          subst hc
          intro e
          have := hidx a ha
          rw [keyIs_iff.2 e] at this
          cases this
        · intro e he
          rcases List.mem_append.1 he with h1 | h1
          · have := F.born e h1; omega
          · simp at h1; rw [h1]; simp
        · rw [List.map_append, List.nodup_append]
          refine ⟨F.stamps, by simp, fun a ha c hc => ?_⟩
          obtain ⟨e, he, rfl⟩ := List.mem_map.1 ha
          simp at hc
          have := F.born e he
          omega
      · intro y
        rw [Array.toList_push]
        unfold upd entAt
        rw [List.find?_append]
        by_cases hyx : y = x
        · subst hyx
          rw [if_pos rfl]
          rw [List.findIdx?_eq_none_iff] at hidx
          rw [List.find?_eq_none.2 (fun e he => by simpa using hidx e he)]
          have : keyIs q y { key := .int q y, val := v, born := clock } = true := keyIs_iff.2 rfl
          simp [this]
        · rw [if_neg hyx, hf]
          have : keyIs q y { key := .int q x, val := v, born := clock } = false := by
            cases hk : keyIs q y { key := .int q x, val := v, born := clock }
            · rfl
            · rw [keyIs_iff] at hk; cases hk; exact absurd rfl hyx
          simp [this, entAt]
  | some j =>
    obtain ⟨hj, hval, hkj⟩ := entAt_some _ _ hidx
    refine ⟨ChangeMaps.setBlock w b (.map (es.modify j fun e => { e with key := .int q x, val := v }) clock), ?_, ?_, setBlock_mod _ _ _, by simp [ChangeMaps.setBlock]⟩
    · rw [hidx] at hfk
      have e1 : es.toList[j]? = some es.toList[j] := List.getElem?_eq_getElem hj
      have hj' : j < es.size := by simpa using hj
      have e2 : es[j]? = some es.toList[j] := by rw [Array.getElem?_eq_getElem hj']; simp
      simp only [Option.bind_some, e1, Option.map_some] at hfk
      simp [Instr.mapUpdate, run_underlying ht, MapKept.run_getObj_map hb, run_checkKey_int hk, hfk, Result.andThen, ChangeMaps.setBlock]
      have e3 : es[j].key = .int q x := by simpa using hkj
      simp [hj', e3, keyThatStays_int, MapKept.run_setObj_map _ hb]
    · refine ⟨_, _, ChangeMaps.heap_setBlock_same hb _, ?_, ?_⟩
      · rw [Array.toList_modify]
        exact F.modify hidx v
      · intro y
        rw [Array.toList_modify, entAt_modify es.toList x y v hidx]
        unfold upd
        rw [hf]

/-! ### a range under way -/
/-- Block r is an iterator over the map in block b, which reads as f; left: the keys that are still to come. -/
def IIter (w : World) (b r : Nat) (q : IntKind) (f : Int → Option Value) (left : Int → Bool) (cnt : Nat) : Prop :=
  ∃ es clock since seen c0, w.heap[b]? = some (.map es clock) ∧ Ents q es.toList clock ∧ (∀ x, f x = entAt q es.toList x) ∧ w.heap[r]? = some (.mapIter (some b) since seen c0) ∧
    (∀ e ∈ es.toList, e.born < since) ∧ (leftOf es seen).size = cnt ∧ (∀ x, left x = true ↔ ∃ e ∈ es.toList, e.key = .int q x ∧ seen.contains e.born = false) ∧ since ≤ c0 ∧ since ≤ clock

theorem IIter.owns {left : Int → Bool} {cnt r : Nat} (h : IIter w b r q f left cnt) : IMap w b q f := by
  obtain ⟨es, clock, _, _, _, hb, F, hf, _⟩ := h
  exact ⟨es, clock, hb, F, hf⟩
theorem IIter.lt {left : Int → Bool} {cnt r : Nat} (h : IIter w b r q f left cnt) : r < w.heap.size := by
  obtain ⟨es, clock, since, seen, c0, _, _, _, hr, _⟩ := h
  exact (Array.getElem?_eq_some_iff.1 hr).1
theorem IIter.ne {left : Int → Bool} {cnt r : Nat} (h : IIter w b r q f left cnt) : r ≠ b := by
  obtain ⟨es, clock, since, seen, c0, hb, _, _, hr, _⟩ := h
  rintro rfl
  rw [hb] at hr; cases hr
theorem IIter.left_eq {left : Int → Bool} {cnt r : Nat} (h : IIter w b r q f left cnt) : w.rangeLeft b r = cnt := by
  obtain ⟨es, clock, since, seen, c0, hb, _, _, hr, _, hc, _⟩ := h
  simp only [World.rangeLeft, hb, hr]
  exact hc
theorem IIter.mod {F : List Nat} {w' : World} {left : Int → Bool} {cnt r : Nat} (h : IIter w b r q f left cnt) (hm : Mod F w w') (h1 : b ∉ F) (h2 : r ∉ F) : IIter w' b r q f left cnt := by
  have hbl := h.owns.lt
  have hrl := h.lt
  obtain ⟨es, clock, since, seen, c0, hb, F', hf, hr, rest⟩ := h
  exact ⟨es, clock, since, seen, c0, (hm.block b hbl h1).trans hb, F', hf, (hm.block r hrl h2).trans hr, rest⟩

theorem entAt_isSome (es : List MapEntry) (x : Int) : (entAt q es x).isSome = true ↔ ∃ e ∈ es, e.key = .int q x := by
  unfold entAt
  rw [Option.isSome_map, List.find?_isSome]
  constructor
  · rintro ⟨e, he, h⟩; exact ⟨e, he, keyIs_iff.1 h⟩
  · rintro ⟨e, he, h⟩; exact ⟨e, he, keyIs_iff.2 h⟩

theorem entAt_mem {es : List MapEntry} {clock : Nat} (F : Ents q es clock) {e : MapEntry} (he : e ∈ es) {x : Int} (hx : e.key = .int q x) : entAt q es x = some e.val := by
  unfold entAt
  have hs : (es.find? (keyIs q x)).isSome = true := by rw [List.find?_isSome]; exact ⟨e, he, keyIs_iff.2 hx⟩
  obtain ⟨e', he'⟩ := Option.isSome_iff_exists.1 hs
  have h1 := List.mem_of_find?_eq_some he'
  have h2 := keyIs_iff.1 (by simpa using List.find?_some he')
  have : e' = e := entry_eq_of_key F.apart h1 he (by rw [h2, hx])
  rw [he', this]
  rfl

theorem IMap.range (h : IMap w b q f) (ht : P.underlying T = some (.map K E)) :
    ∃ w' cnt, (Instr.range T (.map (some b))).run P w = .ok (.pointer (some ⟨w.heap.size, 0, none⟩)) w' ∧ IIter w' b w.heap.size q f (fun x => (f x).isSome) cnt ∧ Mod [] w w' ∧ w'.heap.size = w.heap.size + 1 := by
  have hlt := h.lt
  obtain ⟨es, clock, hb, F, hf⟩ := h
  refine ⟨_, _, run_range_map w T K E b es clock ht hb, ⟨es, clock, clock, #[], clock, (Below.heap_alloc w _ b hlt).trans hb, F, hf, heap_alloc_new w _, F.born, rfl, ?_, Nat.le_refl _, Nat.le_refl _⟩, (Mod.refl _ _).alloc _, by simp⟩
  intro x
  show (f x).isSome = true ↔ _
  rw [hf, entAt_isSome]
  simp

/-- THE STEP: nothing is left; or some key that is left comes. -/
theorem IIter.next {left : Int → Bool} {cnt r : Nat} (h : IIter w b r q f left cnt) (ty : TypeId) :
    (cnt = 0 ∧ (∀ x, left x = false) ∧ (Instr.next (.pointer (some ⟨r, 0, none⟩)) false ty).run P w = .ok (.tuple #[.bool false]) w) ∨
    ∃ (x : Int) (v : Value) (w' : World) (cnt' : Nat), left x = true ∧ f x = some v ∧ (Instr.next (.pointer (some ⟨r, 0, none⟩)) false ty).run P w = .ok (.tuple #[.bool true, .int q x, v]) w' ∧
      IIter w' b r q f (fun z => left z && !(z == x)) cnt' ∧ cnt' < cnt ∧ Mod [r] w w' ∧ w'.heap.size = w.heap.size ∧ (Instr.entry (.pointer (some ⟨r, 0, none⟩))).run P w' = .ok (.tuple #[.int q x, v]) w' := by
  have hne := h.ne
  obtain ⟨es, clock, since, seen, c0, hb, F, hf, hr, hold, rfl, hl, hsc, hsk⟩ := h
  rcases run_next_at (P := P) w ty r b since c0 seen es clock hr hb hold hsc with ⟨h0, hrun⟩ | ⟨e, he, w1, hal, hrun⟩
  · refine Or.inl ⟨h0, fun x => ?_, hrun⟩
    cases hk : left x
    · rfl
    · obtain ⟨e, he, _, hs⟩ := (hl x).1 hk
      rw [all_seen es seen h0 e he] at hs
      cases hs
  · obtain ⟨hem, hes⟩ := mem_left he
    obtain ⟨x, hx⟩ := F.keys e hem
    have hr1 : w1.heap[r]? = some (.mapIter (some b) since seen c0) := by rcases hal with rfl | rfl <;> exact hr
    have hb1 : w1.heap[b]? = some (.map es clock) := by rcases hal with rfl | rfl <;> exact hb
    have hset : (ChangeMaps.setBlock w1 r (.mapIter (some b) since (seen.push e.born) clock)).heap[r]? = some (.mapIter (some b) since (seen.push e.born) clock) := by
      simp only [ChangeMaps.setBlock]
      rw [Array.getElem?_setIfInBounds_self, if_pos (Array.getElem?_eq_some_iff.1 hr1).1]
    have hb' : (ChangeMaps.setBlock w1 r (.mapIter (some b) since (seen.push e.born) clock)).heap[b]? = some (.map es clock) := by
      simp only [ChangeMaps.setBlock]
      rw [Array.getElem?_setIfInBounds_ne hne]
      exact hb1
    refine Or.inr ⟨x, e.val, _, _, (hl x).2 ⟨e, hem, hx, by simpa using hes⟩, by rw [hf, entAt_mem F hem hx], by rw [hrun, hx], ⟨es, clock, since, seen.push e.born, clock, hb', F, hf, hset, hold, rfl, ?_, hsk, hsk⟩, left_shrinks es seen e he, ?_, ?_,
      by rw [← hx]; exact run_entry_at _ r b since seen es clock e hset hb' hem F.stamps⟩
    · intro z
      simp only [Bool.and_eq_true, Bool.not_eq_true', beq_eq_false_iff_ne]
      rw [hl]
      constructor
      · rintro ⟨⟨e', he', h1, h2⟩, h3⟩
        refine ⟨e', he', h1, ?_⟩
        rw [contains_push, h2]
        have : ¬ e'.born = e.born := by
          intro hbb
          have : e' = e := born_inj F.stamps he' hem hbb
          subst this
          rw [hx] at h1
          cases h1
          exact h3 rfl
        simpa using this
      · rintro ⟨e', he', h1, h2⟩
        rw [contains_push] at h2
        simp only [Bool.or_eq_false_iff] at h2
        refine ⟨⟨e', he', h1, h2.1⟩, ?_⟩
        rintro rfl
        have : e' = e := entry_eq_of_key F.apart he' hem (by rw [h1, hx])
        subst this
        simp at h2
    · rcases hal with rfl | rfl
      · exact setBlock_mod _ _ _
      · exact ((Mod.refl [r] w).drew).trans (setBlock_mod _ _ _) (by simp)
    · rcases hal with rfl | rfl <;> simp [ChangeMaps.setBlock]

/-- A store at a key that is there, in the round. -/
theorem IIter.update {left : Int → Bool} {cnt r : Nat} (h : IIter w b r q f left cnt) (ht : P.underlying T = some (.map K E)) (hk : P.underlying K = some (.int q)) (x : Int) (hx : (f x).isSome = true) (v : Value) :
    ∃ w', (Instr.mapUpdate T (.map (some b)) (.int q x) v).run P w = .ok () w' ∧ IIter w' b r q (upd f x (some v)) left cnt ∧ Mod [b] w w' ∧ w'.heap.size = w.heap.size := by
  have hne := h.ne
  obtain ⟨es, clock, since, seen, c0, hb, F, hf, hr, hold, rfl, hl, hsc, hsk⟩ := h
  have hfk := run_findKey_int (P := P) hk x es.toList F.keys w
  cases hidx : es.toList.findIdx? (keyIs q x) with
  | none => rw [hf, entAt_none _ _ hidx] at hx; cases hx
  | some j =>
    obtain ⟨hj, hval, hkj⟩ := entAt_some _ _ hidx
    have hj' : j < es.size := by simpa using hj
    have hmem : ∀ e' ∈ (es.modify j fun e => { e with key := .int q x, val := v }).toList, ∃ e ∈ es.toList, e.key = e'.key ∧ e.born = e'.born := by
      intro e' he'
      rw [Array.toList_modify] at he'
      obtain ⟨i, hi, rfl⟩ := List.mem_iff_getElem.1 he'
      have hi' : i < es.toList.length := by simpa using hi
      refine ⟨es.toList[i], List.getElem_mem hi', ?_⟩
      rw [List.getElem_modify]
      split
      · rename_i hij; subst hij; exact ⟨hkj, rfl⟩
      · exact ⟨rfl, rfl⟩
    have hmem2 : ∀ e ∈ es.toList, ∃ e' ∈ (es.modify j fun e => { e with key := .int q x, val := v }).toList, e.key = e'.key ∧ e.born = e'.born := by
      intro e he
      rw [Array.toList_modify]
      obtain ⟨i, hi, rfl⟩ := List.mem_iff_getElem.1 he
      have hi2 : i < (es.toList.modify j fun e => { e with key := .int q x, val := v }).length := by simpa using hi
      refine ⟨_, List.getElem_mem hi2, ?_⟩
      rw [List.getElem_modify]
      split
      · rename_i hij; subst hij; exact ⟨hkj, rfl⟩
      · exact ⟨rfl, rfl⟩
    refine ⟨ChangeMaps.setBlock w b (.map (es.modify j fun e => { e with key := .int q x, val := v }) clock), ?_, ?_, setBlock_mod _ _ _, by simp [ChangeMaps.setBlock]⟩
    · rw [hidx] at hfk
      have e1 : es.toList[j]? = some es.toList[j] := List.getElem?_eq_getElem hj
      simp only [Option.bind_some, e1, Option.map_some] at hfk
      simp [Instr.mapUpdate, run_underlying ht, MapKept.run_getObj_map hb, run_checkKey_int hk, hfk, Result.andThen, ChangeMaps.setBlock]
      have e3 : es[j].key = .int q x := by simpa using hkj
      simp [hj', e3, keyThatStays_int, MapKept.run_setObj_map _ hb]
    · refine ⟨_, clock, since, seen, c0, ChangeMaps.heap_setBlock_same hb _, by rw [Array.toList_modify]; exact F.modify hidx v, ?_, (ChangeMaps.heap_setBlock_other hb _ hne).trans hr, ?_, ?_, ?_, hsc, hsk⟩
      · intro y
        rw [Array.toList_modify, entAt_modify es.toList x y v hidx]
        unfold upd
        rw [hf]
      · intro e' he'
        obtain ⟨e, he, _, h2⟩ := hmem e' he'
        rw [← h2]; exact hold e he
      · have e1 : ∀ a : Array MapEntry, (leftOf a seen).size = (a.toList.map (·.born)).countP (fun n => !seen.contains n) := fun a => by
          unfold leftOf
          rw [← Array.length_toList, Array.toList_filter, List.countP_map, List.countP_eq_length_filter]
          rfl
        rw [e1, e1]
        congr 1
        rw [Array.toList_modify]
        apply List.ext_getElem
        · simp
        · intro i h1 h2
          simp only [List.getElem_map, List.getElem_modify]
          split <;> rfl
      · intro z
        rw [hl]
        constructor
        · rintro ⟨e, he, h1, h2⟩
          obtain ⟨e', he', h3, h4⟩ := hmem2 e he
          exact ⟨e', he', by rw [← h3]; exact h1, by rw [← h4]; exact h2⟩
        · rintro ⟨e', he', h1, h2⟩
          obtain ⟨e, he, h3, h4⟩ := hmem e' he'
          exact ⟨e, he, by rw [h3]; exact h1, by rw [h4]; exact h2⟩
end
end Go.Proofs.YtkbpndohpkcikabDoor
