/-
  Contracts and plain laws that the proofs of this seat share, part 4 of 11: Map, SoKeys, SoSorted, IbLib, Ib, IbMem.
-/
import Derived.Test.YtjdfemfobcjecaaGreatG1
import Derived.Maps.RangeWalk
import Derived.Maps.OwnSet
import Derived.Test.YtjdfemfobcjecaaGreatG3
import Derived.RangeFuncBox
import Derived.RangeFuncLeaves
import Derived.OwnWalkIn
import Derived.TacticsInMore
import Derived.LoopNIn
import Derived.LoopIn
import Derived.Shelf.Strconv.Clone
import Derived.Lib.Strings

/-
  Maps keyed by an integer kind, read as functions; a range over one with stores at keys that are there.
-/
namespace Go.Proofs.YtjdfemfobcjecaaGreat
open Go.RowKit

def keyIs (q : IntKind) (x : Int) (e : MapEntry) : Bool := match e.key with | .int k y => decide (k = q) && (x == y) | _ => false

structure Ents (q : IntKind) (es : List MapEntry) (clock : Nat) : Prop where
  keys : ∀ e ∈ es, ∃ x, e.key = .int q x
  apart : es.Pairwise (fun a b => a.key ≠ b.key)
  born : ∀ e ∈ es, e.born < clock
  stamps : (es.map (·.born)).Nodup

def entAt (q : IntKind) (es : List MapEntry) (x : Int) : Option Value := (es.find? (keyIs q x)).map (·.val)

/-- Block b is a map that reads as f. -/
def IMap (w : World) (b : Nat) (q : IntKind) (f : Int → Option Value) : Prop :=
  ∃ es clock, w.heap[b]? = some (.map es clock) ∧ Ents q es.toList clock ∧ ∀ x, f x = entAt q es.toList x

theorem keyIs_iff {q : IntKind} {x : Int} {e : MapEntry} : keyIs q x e = true ↔ e.key = .int q x := by
  unfold keyIs
  constructor
  · intro h
    split at h
    · rename_i k y he
      simp only [Bool.and_eq_true, decide_eq_true_eq, beq_iff_eq] at h
      rw [he, h.1, h.2]
    · cases h
  · intro h
    rw [h]
    simp

theorem findNow_int (q : IntKind) (x : Int) : ∀ (es : List MapEntry) (i : Nat), (∀ e ∈ es, ∃ x, e.key = .int q x) →
    Instr.findNow (.int q) (.int q x) es i = some ((es.findIdx? (keyIs q x)).bind fun j => es[j]?.map fun e => (i + j, e.val))
  | [], i, _ => by simp [Instr.findNow]
  | e :: es, i, h => by
    obtain ⟨y, hy⟩ := h e (by simp)
    have ih := findNow_int q x es (i + 1) (fun e he => h e (by simp [he]))
    by_cases hxy : x = y
    · subst hxy
      have hk : keyIs q x e = true := keyIs_iff.2 hy
      simp [Instr.findNow, hy, Instr.sameNow, List.findIdx?_cons, hk]
    · have hk : keyIs q x e = false := by
        cases hk : keyIs q x e
        · rfl
        · rw [keyIs_iff, hy] at hk; cases hk; exact absurd rfl hxy
      have hb : (x == y) = false := by simpa using hxy
      simp only [Instr.findNow, hy, Instr.sameNow, if_true, hb]
      rw [ih, List.findIdx?_cons, hk]
      cases es.findIdx? (keyIs q x) with
      | none => simp
      | some j => simp; cases es[j]? <;> simp; omega

section
variable {P : Program} {w : World} {b : Nat} {q : IntKind} {f : Int → Option Value} {K E T : TypeId}

theorem run_findKey_int (hk : P.underlying K = some (.int q)) (x : Int) (es : List MapEntry) (h : ∀ e ∈ es, ∃ x, e.key = .int q x) (w : World) :
    (Instr.findKey K (.int q x) es).run P w = .ok ((es.findIdx? (keyIs q x)).bind fun j => es[j]?.map fun e => (j, e.val)) w := by
  simp only [Instr.findKey, Sem.run_bind, run_underlying hk, Result.andThen_ok, findNow_int q x es 0 h, Nat.zero_add]
  rfl

theorem run_checkKey_int (hk : P.underlying K = some (.int q)) (em : Bool) (x : Int) (w : World) : (Instr.checkKey em 10000 K (.int q x)).run P w = .ok () w := by
  show Sem.run P (Instr.checkKey em (9999 + 1) K (.int q x)) w = _
  rw [Instr.checkKey]
  simp only [Sem.run_bind, run_underlying hk, Result.andThen_ok]
  rfl

theorem entAt_idx (es : List MapEntry) (x : Int) : (es.findIdx? (keyIs q x)).bind (fun j => es[j]?.map fun e => (j, e.val)) = (es.findIdx? (keyIs q x)).bind fun j => (entAt q es x).map fun v => (j, v) := by
  cases h : es.findIdx? (keyIs q x) with
  | none => rfl
  | some j =>
    obtain ⟨hj, hkj, hmin⟩ := List.findIdx?_eq_some_iff_getElem.1 h
    have hf : es.find? (keyIs q x) = some es[j] := by
      rw [List.find?_eq_some_iff_getElem]
      exact ⟨hkj, j, hj, rfl, fun i hi => by simpa using hmin i hi⟩
    simp [entAt, hf, List.getElem?_eq_getElem hj]
theorem entAt_none (es : List MapEntry) (x : Int) (h : es.findIdx? (keyIs q x) = none) : entAt q es x = none := by
  rw [List.findIdx?_eq_none_iff] at h
  unfold entAt
  rw [List.find?_eq_none.2 (fun e he => by simpa using h e he)]
  rfl
theorem entAt_some (es : List MapEntry) (x : Int) {j : Nat} (h : es.findIdx? (keyIs q x) = some j) : ∃ hj : j < es.length, entAt q es x = some es[j].val ∧ es[j].key = .int q x := by
  obtain ⟨hj, hkj, hmin⟩ := List.findIdx?_eq_some_iff_getElem.1 h
  have hf : es.find? (keyIs q x) = some es[j] := by
    rw [List.find?_eq_some_iff_getElem]
    exact ⟨hkj, j, hj, rfl, fun i hi => by simpa using hmin i hi⟩
  exact ⟨hj, by simp [entAt, hf], keyIs_iff.1 hkj⟩

theorem IMap.lt (h : IMap w b q f) : b < w.heap.size := by
  obtain ⟨es, clock, hb, _⟩ := h
  exact (Array.getElem?_eq_some_iff.1 hb).1
theorem IMap.same {w' : World} (h : IMap w b q f) (hs : w'.heap[b]? = w.heap[b]?) : IMap w' b q f := by
  obtain ⟨es, clock, hb, r⟩ := h
  exact ⟨es, clock, hs.trans hb, r⟩
theorem IMap.mod {F : List Nat} {w' : World} (h : IMap w b q f) (hm : Mod F w w') (hn : b ∉ F) : IMap w' b q f := h.same (hm.block b h.lt hn)
theorem IMap.made (w : World) (q : IntKind) : IMap (w.alloc (.map #[] 0)) w.heap.size q (fun _ => none) :=
  ⟨#[], 0, heap_alloc_new w _, ⟨by simp, by simp, by simp, by simp⟩, fun x => by simp [entAt]⟩

theorem IMap.lookup (h : IMap w b q f) (ht : P.underlying T = some (.map K E)) (hk : P.underlying K = some (.int q)) {z : Value} (hz : (zeroValue E).run P w = .ok z w) (x : Int) :
    (Instr.lookup T (.map (some b)) (.int q x) false).run P w = .ok ((f x).getD z) w := by
  obtain ⟨es, clock, hb, F, hf⟩ := h
  have hfk := run_findKey_int (P := P) hk x es.toList F.keys w
  rw [entAt_idx] at hfk
  rw [hf]
  cases h : es.toList.findIdx? (keyIs q x) with
  | none =>
    rw [h] at hfk
    simp only [Option.bind_none] at hfk
    simp [Instr.lookup, run_underlying ht, MapKept.run_getObj_map hb, run_checkKey_int hk, hfk, entAt_none _ _ h, hz, Result.andThen]
  | some j =>
    obtain ⟨_, h2, _⟩ := entAt_some _ _ h
    rw [h, h2] at hfk
    simp only [Option.bind_some, Option.map_some] at hfk
    simp [Instr.lookup, run_underlying ht, MapKept.run_getObj_map hb, run_checkKey_int hk, hfk, h2, Result.andThen]
theorem IMap.lookup_ok (h : IMap w b q f) (ht : P.underlying T = some (.map K E)) (hk : P.underlying K = some (.int q)) {z : Value} (hz : (zeroValue E).run P w = .ok z w) (x : Int) :
    (Instr.lookup T (.map (some b)) (.int q x) true).run P w = .ok (.tuple #[(f x).getD z, .bool (f x).isSome]) w := by
  obtain ⟨es, clock, hb, F, hf⟩ := h
  have hfk := run_findKey_int (P := P) hk x es.toList F.keys w
  rw [entAt_idx] at hfk
  rw [hf]
  cases h : es.toList.findIdx? (keyIs q x) with
  | none =>
    rw [h] at hfk
    simp only [Option.bind_none] at hfk
    simp [Instr.lookup, run_underlying ht, MapKept.run_getObj_map hb, run_checkKey_int hk, hfk, entAt_none _ _ h, hz, Result.andThen]
  | some j =>
    obtain ⟨_, h2, _⟩ := entAt_some _ _ h
    rw [h, h2] at hfk
    simp only [Option.bind_some, Option.map_some] at hfk
    simp [Instr.lookup, run_underlying ht, MapKept.run_getObj_map hb, run_checkKey_int hk, hfk, h2, Result.andThen]

def upd (f : Int → Option Value) (x : Int) (v : Option Value) : Int → Option Value := fun y => if y = x then v else f y

theorem setBlock_mod (w : World) (b : Nat) (o : Obj) : Mod [b] w (ChangeMaps.setBlock w b o) :=
  ⟨rfl, rfl, rfl, by simp [ChangeMaps.setBlock], fun k hk hn => by
    simp only [ChangeMaps.setBlock]
    rw [Array.getElem?_setIfInBounds_ne]
    simpa using fun e => hn (by simp [e])⟩

theorem entAt_modify (es : List MapEntry) (x y : Int) (v : Value) {j : Nat} (h : es.findIdx? (keyIs q x) = some j) :
    entAt q (es.modify j fun e => { e with key := .int q x, val := v }) y = if y = x then some v else entAt q es y := by
  obtain ⟨hj, _, hkj⟩ := entAt_some _ _ h
  obtain ⟨_, hk2, hmin⟩ := List.findIdx?_eq_some_iff_getElem.1 h
  have hsame : ∀ i (hi : i < es.length) (z : Int), keyIs q z ((es.modify j fun e => { e with key := .int q x, val := v })[i]'(by simpa using hi)) = keyIs q z es[i] := by
    intro i hi z
    rw [List.getElem_modify]
    split
    · rename_i hij
      subst hij
      have e1 : (keyIs q z { es[j] with key := .int q x, val := v } = true) ↔ (keyIs q z es[j] = true) := by rw [keyIs_iff, keyIs_iff, hkj]
      cases h1 : keyIs q z { es[j] with key := .int q x, val := v } <;> cases h2 : keyIs q z es[j] <;> simp_all
    · rfl
  have hidx : ∀ z, (es.modify j fun e => { e with key := .int q x, val := v }).findIdx? (keyIs q z) = es.findIdx? (keyIs q z) := by
    intro z
    cases hz : es.findIdx? (keyIs q z) with
    | none =>
      rw [List.findIdx?_eq_none_iff] at hz ⊢
      intro e he
      obtain ⟨i, hi, rfl⟩ := List.mem_iff_getElem.1 he
      have hi' : i < es.length := by simpa using hi
      rw [hsame i hi' z]
      exact hz _ (List.getElem_mem hi')
    | some i =>
      obtain ⟨hi, h1, h2⟩ := List.findIdx?_eq_some_iff_getElem.1 hz
      rw [List.findIdx?_eq_some_iff_getElem]
      refine ⟨by simpa using hi, by rw [hsame i hi z]; exact h1, fun i' hi' => ?_⟩
      rw [hsame i' (by omega) z]
      exact h2 i' hi'
  cases hy : es.findIdx? (keyIs q y) with
  | none =>
    rw [entAt_none _ _ (by rw [hidx]; exact hy), entAt_none _ _ hy, if_neg]
    rintro rfl
    rw [h] at hy; cases hy
  | some i =>
    obtain ⟨hi, h1, h2⟩ := entAt_some (q := q) (es.modify j fun e => { e with key := .int q x, val := v }) y (j := i) (by rw [hidx]; exact hy)
    obtain ⟨hi', h3, h4⟩ := entAt_some _ _ hy
    rw [h1, h3]
    by_cases hyx : y = x
    · subst hyx
      rw [if_pos rfl]
      rw [h] at hy
      cases hy
      rw [List.getElem_modify, if_pos rfl]
    · rw [if_neg hyx, List.getElem_modify, if_neg]
      rintro rfl
      rw [hkj] at h4
      cases h4
      exact hyx rfl

theorem Ents.modify {es : List MapEntry} {clock : Nat} (F : Ents q es clock) {x : Int} {j : Nat} (h : es.findIdx? (keyIs q x) = some j) (v : Value) :
    Ents q (es.modify j fun e => { e with key := .int q x, val := v }) clock := by
  obtain ⟨hj, _, hkj⟩ := entAt_some _ _ h
  have hkeys : (es.modify j fun e => { e with key := .int q x, val := v }).map (·.key) = es.map (·.key) := by
    apply List.ext_getElem
    · simp
    · intro i h1 h2
      simp only [List.getElem_map, List.getElem_modify]
      split
      · rename_i hij; subst hij; exact hkj.symm
      · rfl
  have hborn : (es.modify j fun e => { e with key := .int q x, val := v }).map (·.born) = es.map (·.born) := by
    apply List.ext_getElem
    · simp
    · intro i h1 h2
      simp only [List.getElem_map, List.getElem_modify]
      split
      · rfl
      · rfl
  refine ⟨?_, ?_, ?_, by rw [hborn]; exact F.stamps⟩
  · intro e he
    have : e.key ∈ es.map (·.key) := by rw [← hkeys]; exact List.mem_map.2 ⟨e, he, rfl⟩
    obtain ⟨e', he', h1⟩ := List.mem_map.1 this
    obtain ⟨y, hy⟩ := F.keys e' he'
    exact ⟨y, by rw [← h1, hy]⟩
  · have h1 : (es.map (·.key)).Pairwise (· ≠ ·) := List.pairwise_map.2 F.apart
    rw [← hkeys] at h1
    exact List.pairwise_map.1 h1
  · intro e he
    have : e.born ∈ es.map (·.born) := by rw [← hborn]; exact List.mem_map.2 ⟨e, he, rfl⟩
    obtain ⟨e', he', h1⟩ := List.mem_map.1 this
    rw [← h1]
    exact F.born e' he'

theorem keyThatStays_int (x : Int) (w : World) : (Instr.keyThatStays (.int q x) (.int q x)).run P w = .ok (.int q x) w := by
  have : Instr.sameBits 10000 (.int q x) (.int q x) = true := by
    show (q == q && x == x) = true
    simp
  simp [Instr.keyThatStays, this]

theorem IMap.update (h : IMap w b q f) (ht : P.underlying T = some (.map K E)) (hk : P.underlying K = some (.int q)) (x : Int) (v : Value) :
    ∃ w', (Instr.mapUpdate T (.map (some b)) (.int q x) v).run P w = .ok () w' ∧ IMap w' b q (upd f x (some v)) ∧ Mod [b] w w' ∧ w'.heap.size = w.heap.size := by
  obtain ⟨es, clock, hb, F, hf⟩ := h
  have hfk := run_findKey_int (P := P) hk x es.toList F.keys w
  cases hidx : es.toList.findIdx? (keyIs q x) with
  | none =>
    refine ⟨ChangeMaps.setBlock w b (.map (es.push { key := .int q x, val := v, born := clock }) (clock + 1)), ?_, ?_, setBlock_mod _ _ _, by simp [ChangeMaps.setBlock]⟩
    · rw [hidx] at hfk
      simp only [Option.bind_none] at hfk
      simp [Instr.mapUpdate, run_underlying ht, MapKept.run_getObj_map hb, run_checkKey_int hk, hfk, MapKept.run_setObj_map _ hb, Result.andThen, ChangeMaps.setBlock]
    · refine ⟨_, _, ChangeMaps.heap_setBlock_same hb _, ?_, ?_⟩
      · rw [List.findIdx?_eq_none_iff] at hidx
        rw [Array.toList_push]
        refine ⟨?_, ?_, ?_, ?_⟩
        · intro e he
          rcases List.mem_append.1 he with h1 | h1
          · exact F.keys e h1
          · simp at h1; exact ⟨x, by rw [h1]⟩
        · rw [List.pairwise_append]
          refine ⟨F.apart, by simp, fun a ha c hc => ?_⟩
          simp at hc
          subst hc
          intro e
          have := hidx a ha
          rw [keyIs_iff.2 e] at this
          cases this
        · intro e he
          rcases List.mem_append.1 he with h1 | h1
          · have := F.born e h1; omega
          · simp at h1; rw [h1]; simp
        · rw [List.map_append, List.nodup_append]
          refine ⟨F.stamps, by simp, fun a ha c hc => ?_⟩
          obtain ⟨e, he, rfl⟩ := List.mem_map.1 ha
          simp at hc
          have := F.born e he
          omega
      · intro y
        rw [Array.toList_push]
        unfold upd entAt
        rw [List.find?_append]
        by_cases hyx : y = x
        · subst hyx
          rw [if_pos rfl]
          rw [List.findIdx?_eq_none_iff] at hidx
          rw [List.find?_eq_none.2 (fun e he => by simpa using hidx e he)]
          have : keyIs q y { key := .int q y, val := v, born := clock } = true := keyIs_iff.2 rfl
          simp [this]
        · rw [if_neg hyx, hf]
          have : keyIs q y { key := .int q x, val := v, born := clock } = false := by
            cases hk : keyIs q y { key := .int q x, val := v, born := clock }
            · rfl
            · rw [keyIs_iff] at hk; cases hk; exact absurd rfl hyx
          simp [this, entAt]
  | some j =>
    obtain ⟨hj, hval, hkj⟩ := entAt_some _ _ hidx
    refine ⟨ChangeMaps.setBlock w b (.map (es.modify j fun e => { e with key := .int q x, val := v }) clock), ?_, ?_, setBlock_mod _ _ _, by simp [ChangeMaps.setBlock]⟩
    · rw [hidx] at hfk
      have e1 : es.toList[j]? = some es.toList[j] := List.getElem?_eq_getElem hj
      have hj' : j < es.size := by simpa using hj
      have e2 : es[j]? = some es.toList[j] := by rw [Array.getElem?_eq_getElem hj']; simp
      simp only [Option.bind_some, e1, Option.map_some] at hfk
      simp [Instr.mapUpdate, run_underlying ht, MapKept.run_getObj_map hb, run_checkKey_int hk, hfk, Result.andThen, ChangeMaps.setBlock]
      have e3 : es[j].key = .int q x := by simpa using hkj
      simp [hj', e3, keyThatStays_int, MapKept.run_setObj_map _ hb]
    · refine ⟨_, _, ChangeMaps.heap_setBlock_same hb _, ?_, ?_⟩
      · rw [Array.toList_modify]
        exact F.modify hidx v
      · intro y
        rw [Array.toList_modify, entAt_modify es.toList x y v hidx]
        unfold upd
        rw [hf]

/-! ### a range under way -/
/-- Block r is an iterator over the map in block b, which reads as f; left: the keys that are still to come. -/
def IIter (w : World) (b r : Nat) (q : IntKind) (f : Int → Option Value) (left : Int → Bool) (cnt : Nat) : Prop :=
  ∃ es clock since seen c0, w.heap[b]? = some (.map es clock) ∧ Ents q es.toList clock ∧ (∀ x, f x = entAt q es.toList x) ∧ w.heap[r]? = some (.mapIter (some b) since seen c0) ∧
    (∀ e ∈ es.toList, e.born < since) ∧ (leftOf es seen).size = cnt ∧ (∀ x, left x = true ↔ ∃ e ∈ es.toList, e.key = .int q x ∧ seen.contains e.born = false) ∧ since ≤ c0 ∧ since ≤ clock

theorem IIter.owns {left : Int → Bool} {cnt r : Nat} (h : IIter w b r q f left cnt) : IMap w b q f := by
  obtain ⟨es, clock, _, _, _, hb, F, hf, _⟩ := h
  exact ⟨es, clock, hb, F, hf⟩
theorem IIter.lt {left : Int → Bool} {cnt r : Nat} (h : IIter w b r q f left cnt) : r < w.heap.size := by
  obtain ⟨es, clock, since, seen, c0, _, _, _, hr, _⟩ := h
  exact (Array.getElem?_eq_some_iff.1 hr).1
theorem IIter.ne {left : Int → Bool} {cnt r : Nat} (h : IIter w b r q f left cnt) : r ≠ b := by
  obtain ⟨es, clock, since, seen, c0, hb, _, _, hr, _⟩ := h
  rintro rfl
  rw [hb] at hr; cases hr
theorem IIter.left_eq {left : Int → Bool} {cnt r : Nat} (h : IIter w b r q f left cnt) : w.rangeLeft b r = cnt := by
  obtain ⟨es, clock, since, seen, c0, hb, _, _, hr, _, hc, _⟩ := h
  simp only [World.rangeLeft, hb, hr]
  exact hc
theorem IIter.mod {F : List Nat} {w' : World} {left : Int → Bool} {cnt r : Nat} (h : IIter w b r q f left cnt) (hm : Mod F w w') (h1 : b ∉ F) (h2 : r ∉ F) : IIter w' b r q f left cnt := by
  have hbl := h.owns.lt
  have hrl := h.lt
  obtain ⟨es, clock, since, seen, c0, hb, F', hf, hr, rest⟩ := h
  exact ⟨es, clock, since, seen, c0, (hm.block b hbl h1).trans hb, F', hf, (hm.block r hrl h2).trans hr, rest⟩

theorem entAt_isSome (es : List MapEntry) (x : Int) : (entAt q es x).isSome = true ↔ ∃ e ∈ es, e.key = .int q x := by
  unfold entAt
  rw [Option.isSome_map, List.find?_isSome]
  constructor
  · rintro ⟨e, he, h⟩; exact ⟨e, he, keyIs_iff.1 h⟩
  · rintro ⟨e, he, h⟩; exact ⟨e, he, keyIs_iff.2 h⟩

theorem entAt_mem {es : List MapEntry} {clock : Nat} (F : Ents q es clock) {e : MapEntry} (he : e ∈ es) {x : Int} (hx : e.key = .int q x) : entAt q es x = some e.val := by
  unfold entAt
  have hs : (es.find? (keyIs q x)).isSome = true := by rw [List.find?_isSome]; exact ⟨e, he, keyIs_iff.2 hx⟩
  obtain ⟨e', he'⟩ := Option.isSome_iff_exists.1 hs
  have h1 := List.mem_of_find?_eq_some he'
  have h2 := keyIs_iff.1 (by simpa using List.find?_some he')
  have : e' = e := entry_eq_of_key F.apart h1 he (by rw [h2, hx])
  rw [he', this]
  rfl

theorem IMap.range (h : IMap w b q f) (ht : P.underlying T = some (.map K E)) :
    ∃ w' cnt, (Instr.range T (.map (some b))).run P w = .ok (.pointer (some ⟨w.heap.size, 0, none⟩)) w' ∧ IIter w' b w.heap.size q f (fun x => (f x).isSome) cnt ∧ Mod [] w w' ∧ w'.heap.size = w.heap.size + 1 := by
  have hlt := h.lt
  obtain ⟨es, clock, hb, F, hf⟩ := h
  refine ⟨_, _, run_range_map w T K E b es clock ht hb, ⟨es, clock, clock, #[], clock, (Below.heap_alloc w _ b hlt).trans hb, F, hf, heap_alloc_new w _, F.born, rfl, ?_, Nat.le_refl _, Nat.le_refl _⟩, (Mod.refl _ _).alloc _, by simp⟩
  intro x
  show (f x).isSome = true ↔ _
  rw [hf, entAt_isSome]
  simp

/-- THE STEP: nothing is left; or some key that is left comes. -/
theorem IIter.next {left : Int → Bool} {cnt r : Nat} (h : IIter w b r q f left cnt) (ty : TypeId) :
    (cnt = 0 ∧ (∀ x, left x = false) ∧ (Instr.next (.pointer (some ⟨r, 0, none⟩)) false ty).run P w = .ok (.tuple #[.bool false]) w) ∨
    ∃ (x : Int) (v : Value) (w' : World) (cnt' : Nat), left x = true ∧ f x = some v ∧ (Instr.next (.pointer (some ⟨r, 0, none⟩)) false ty).run P w = .ok (.tuple #[.bool true, .int q x, v]) w' ∧
      IIter w' b r q f (fun z => left z && !(z == x)) cnt' ∧ cnt' < cnt ∧ Mod [r] w w' ∧ w'.heap.size = w.heap.size ∧ (Instr.entry (.pointer (some ⟨r, 0, none⟩))).run P w' = .ok (.tuple #[.int q x, v]) w' := by
  have hne := h.ne
  obtain ⟨es, clock, since, seen, c0, hb, F, hf, hr, hold, rfl, hl, hsc, hsk⟩ := h
  rcases run_next_at (P := P) w ty r b since c0 seen es clock hr hb hold hsc with ⟨h0, hrun⟩ | ⟨e, he, w1, hal, hrun⟩
  · refine Or.inl ⟨h0, fun x => ?_, hrun⟩
    cases hk : left x
    · rfl
    · obtain ⟨e, he, _, hs⟩ := (hl x).1 hk
      rw [all_seen es seen h0 e he] at hs
      cases hs
  · obtain ⟨hem, hes⟩ := mem_left he
    obtain ⟨x, hx⟩ := F.keys e hem
    have hr1 : w1.heap[r]? = some (.mapIter (some b) since seen c0) := by rcases hal with rfl | rfl <;> exact hr
    have hb1 : w1.heap[b]? = some (.map es clock) := by rcases hal with rfl | rfl <;> exact hb
    have hset : (ChangeMaps.setBlock w1 r (.mapIter (some b) since (seen.push e.born) clock)).heap[r]? = some (.mapIter (some b) since (seen.push e.born) clock) := by
      simp only [ChangeMaps.setBlock]
      rw [Array.getElem?_setIfInBounds_self, if_pos (Array.getElem?_eq_some_iff.1 hr1).1]
    have hb' : (ChangeMaps.setBlock w1 r (.mapIter (some b) since (seen.push e.born) clock)).heap[b]? = some (.map es clock) := by
      simp only [ChangeMaps.setBlock]
      rw [Array.getElem?_setIfInBounds_ne hne]
      exact hb1
    refine Or.inr ⟨x, e.val, _, _, (hl x).2 ⟨e, hem, hx, by simpa using hes⟩, by rw [hf, entAt_mem F hem hx], by rw [hrun, hx], ⟨es, clock, since, seen.push e.born, clock, hb', F, hf, hset, hold, rfl, ?_, hsk, hsk⟩, left_shrinks es seen e he, ?_, ?_,
      by rw [← hx]; exact run_entry_at _ r b since seen es clock e hset hb' hem F.stamps⟩
    · intro z
      simp only [Bool.and_eq_true, Bool.not_eq_true', beq_eq_false_iff_ne]
      rw [hl]
      constructor
      · rintro ⟨⟨e', he', h1, h2⟩, h3⟩
        refine ⟨e', he', h1, ?_⟩
        rw [contains_push, h2]
        have : ¬ e'.born = e.born := by
          intro hbb
          have : e' = e := born_inj F.stamps he' hem hbb
          subst this
          rw [hx] at h1
          cases h1
          exact h3 rfl
        simpa using this
      · rintro ⟨e', he', h1, h2⟩
        rw [contains_push] at h2
        simp only [Bool.or_eq_false_iff] at h2
        refine ⟨⟨e', he', h1, h2.1⟩, ?_⟩
        rintro rfl
        have : e' = e := entry_eq_of_key F.apart he' hem (by rw [h1, hx])
        subst this
        simp at h2
    · rcases hal with rfl | rfl
      · exact setBlock_mod _ _ _
      · exact ((Mod.refl [r] w).drew).trans (setBlock_mod _ _ _) (by simp)
    · rcases hal with rfl | rfl <;> simp [ChangeMaps.setBlock]

/-- A store at a key that is there, in the round. -/
theorem IIter.update {left : Int → Bool} {cnt r : Nat} (h : IIter w b r q f left cnt) (ht : P.underlying T = some (.map K E)) (hk : P.underlying K = some (.int q)) (x : Int) (hx : (f x).isSome = true) (v : Value) :
    ∃ w', (Instr.mapUpdate T (.map (some b)) (.int q x) v).run P w = .ok () w' ∧ IIter w' b r q (upd f x (some v)) left cnt ∧ Mod [b] w w' ∧ w'.heap.size = w.heap.size := by
  have hne := h.ne
  obtain ⟨es, clock, since, seen, c0, hb, F, hf, hr, hold, rfl, hl, hsc, hsk⟩ := h
  have hfk := run_findKey_int (P := P) hk x es.toList F.keys w
  cases hidx : es.toList.findIdx? (keyIs q x) with
  | none => rw [hf, entAt_none _ _ hidx] at hx; cases hx
  | some j =>
    obtain ⟨hj, hval, hkj⟩ := entAt_some _ _ hidx
    have hj' : j < es.size := by simpa using hj
    have hmem : ∀ e' ∈ (es.modify j fun e => { e with key := .int q x, val := v }).toList, ∃ e ∈ es.toList, e.key = e'.key ∧ e.born = e'.born := by
      intro e' he'
      rw [Array.toList_modify] at he'
      obtain ⟨i, hi, rfl⟩ := List.mem_iff_getElem.1 he'
      have hi' : i < es.toList.length := by simpa using hi
      refine ⟨es.toList[i], List.getElem_mem hi', ?_⟩
      rw [List.getElem_modify]
      split
      · rename_i hij; subst hij; exact ⟨hkj, rfl⟩
      · exact ⟨rfl, rfl⟩
    have hmem2 : ∀ e ∈ es.toList, ∃ e' ∈ (es.modify j fun e => { e with key := .int q x, val := v }).toList, e.key = e'.key ∧ e.born = e'.born := by
      intro e he
      rw [Array.toList_modify]
      obtain ⟨i, hi, rfl⟩ := List.mem_iff_getElem.1 he
      have hi2 : i < (es.toList.modify j fun e => { e with key := .int q x, val := v }).length := by simpa using hi
      refine ⟨_, List.getElem_mem hi2, ?_⟩
      rw [List.getElem_modify]
      split
      · rename_i hij; subst hij; exact ⟨hkj, rfl⟩
      · exact ⟨rfl, rfl⟩
    refine ⟨ChangeMaps.setBlock w b (.map (es.modify j fun e => { e with key := .int q x, val := v }) clock), ?_, ?_, setBlock_mod _ _ _, by simp [ChangeMaps.setBlock]⟩
    · rw [hidx] at hfk
      have e1 : es.toList[j]? = some es.toList[j] := List.getElem?_eq_getElem hj
      simp only [Option.bind_some, e1, Option.map_some] at hfk
      simp [Instr.mapUpdate, run_underlying ht, MapKept.run_getObj_map hb, run_checkKey_int hk, hfk, Result.andThen, ChangeMaps.setBlock]
      have e3 : es[j].key = .int q x := by simpa using hkj
      simp [hj', e3, keyThatStays_int, MapKept.run_setObj_map _ hb]
    · refine ⟨_, clock, since, seen, c0, ChangeMaps.heap_setBlock_same hb _, by rw [Array.toList_modify]; exact F.modify hidx v, ?_, (ChangeMaps.heap_setBlock_other hb _ hne).trans hr, ?_, ?_, ?_, hsc, hsk⟩
      · intro y
        rw [Array.toList_modify, entAt_modify es.toList x y v hidx]
        unfold upd
        rw [hf]
      · intro e' he'
        obtain ⟨e, he, _, h2⟩ := hmem e' he'
        rw [← h2]; exact hold e he
      · have e1 : ∀ a : Array MapEntry, (leftOf a seen).size = (a.toList.map (·.born)).countP (fun n => !seen.contains n) := fun a => by
          unfold leftOf
          rw [← Array.length_toList, Array.toList_filter, List.countP_map, List.countP_eq_length_filter]
          rfl
        rw [e1, e1]
        congr 1
        rw [Array.toList_modify]
        apply List.ext_getElem
        · simp
        · intro i h1 h2
          simp only [List.getElem_map, List.getElem_modify]
          split <;> rfl
      · intro z
        rw [hl]
        constructor
        · rintro ⟨e, he, h1, h2⟩
          obtain ⟨e', he', h3, h4⟩ := hmem2 e he
          exact ⟨e', he', by rw [← h3]; exact h1, by rw [← h4]; exact h2⟩
        · rintro ⟨e', he', h1, h2⟩
          obtain ⟨e, he, h3, h4⟩ := hmem e' he'
          exact ⟨e, he, by rw [h3]; exact h1, by rw [h4]; exact h2⟩
end
end Go.Proofs.YtjdfemfobcjecaaGreat

/-
  maps.Keys at a map keyed by uint64: its iterator gives each key once, in some order.
-/
namespace Go.Proofs.YtjdfemfobcjecaaGreat
open Go.RowKit Go.Sort Go.Shelf

theorem Mod.grow1 {w w' : World} {r : Nat} (h : Mod [r] w w') : w.grownBy w' (some r) :=
  ⟨h.os, h.tape, h.output, h.size, fun k hk hn => h.block k hk (by simpa using fun e => hn (by rw [e]))⟩
theorem Mod.grow0 {w w' : World} (h : Mod [] w w') : w.grownBy w' none :=
  ⟨h.os, h.tape, h.output, h.size, fun k hk _ => h.block k hk (by simp)⟩
theorem IIter.walks {w w' : World} {b r : Nat} {q : IntKind} {f : Int → Option Value} {left : Int → Bool} {cnt : Nat} (h : IIter w b r q f left cnt) (hk : KeepsWalks w w') : IIter w' b r q f left cnt := by
  obtain ⟨es, clock, since, seen, c0, hb, F', hf, hr, rest⟩ := h
  exact ⟨es, clock, since, seen, c0, hk.same b _ hb rfl, F', hf, hk.same r _ hr rfl, rest⟩
theorem IIter.walk {w : World} {b r : Nat} {q : IntKind} {f : Int → Option Value} {left : Int → Bool} {cnt : Nat} (h : IIter w b r q f left cnt) : ∃ o : Obj, w.heap[r]? = some o ∧ o.isWalk = true := by
  obtain ⟨es, clock, since, seen, c0, _, _, _, hr, _⟩ := h
  exact ⟨_, hr, rfl⟩
theorem nodup_le : ∀ (l K : List Int), l.Nodup → (∀ x ∈ l, x ∈ K) → l.length ≤ K.length
  | [], K, _, _ => by simp
  | x :: t, K, h, hs => by
    have h1 := List.nodup_cons.1 h
    have hx : x ∈ K := hs x (by simp)
    have := nodup_le t (K.erase x) h1.2 (fun y hy => (List.mem_erase_of_ne (fun e => h1.1 (by rw [← e]; exact hy))).2 (hs y (by simp [hy])))
    have h2 := List.length_erase_of_mem hx
    have h3 := List.length_pos_of_mem hx
    simp only [List.length_cons]
    omega
theorem IIter.cnt_le {w : World} {b r : Nat} {q : IntKind} {f : Int → Option Value} {left : Int → Bool} {cnt : Nat} (h : IIter w b r q f left cnt) (K : List Int) (hK : ∀ x, left x = true → x ∈ K) : cnt ≤ K.length := by
  obtain ⟨es, clock, since, seen, c0, hb, F, hf, hr, ho, hc, hl, _⟩ := h
  have e1 : (leftOf es seen).size = (es.toList.filter fun e => !seen.contains e.born).length := by
    unfold leftOf
    rw [← Array.toList_filter, Array.length_toList]
  rw [← hc, e1]
  have hsub : ∀ e ∈ es.toList.filter (fun e => !seen.contains e.born), ∃ x, e.key = .int q x ∧ x ∈ K := fun e he => by
    obtain ⟨h1, h2⟩ := List.mem_filter.1 he
    obtain ⟨x, hx⟩ := F.keys e h1
    exact ⟨x, hx, hK x ((hl x).2 ⟨e, h1, hx, by simpa using h2⟩)⟩
  have hap : (es.toList.filter fun e => !seen.contains e.born).Pairwise (fun a b => a.key ≠ b.key) := F.apart.filter _
  have := nodup_le ((es.toList.filter fun e => !seen.contains e.born).map fun e => intOf e.key) K (by
    rw [List.Nodup, List.pairwise_map]
    refine hap.imp_of_mem fun {a b} ha hb hne e => hne ?_
    obtain ⟨x, hx, _⟩ := hsub a ha
    obtain ⟨y, hy, _⟩ := hsub b hb
    rw [hx, hy] at e ⊢
    simp [intOf] at e
    rw [e]) (fun x hx => by
    obtain ⟨e, he, rfl⟩ := List.mem_map.1 hx
    obtain ⟨y, hy, hk⟩ := hsub e he
    rw [hy]
    simpa [intOf] using hk)
  simpa using this

/-- ss: the keys of f, each once. -/
def KeysOf (f : Int → Option Value) (ss : List Int) : Prop := ss.Nodup ∧ ∀ x, x ∈ ss ↔ (f x).isSome = true

set_option maxRecDepth 100000 in
set_option maxHeartbeats 2000000 in
theorem keys1_u64 (F : Fence) (n : Nat) (hf1 : F.fn 117) (hro : F.round = none) (l Bm b N : Nat) (f : Int → Option Value) (J Jx : List Int → World → Prop)
    (hY : ∀ pre x W, J pre W → pre.length < N → YieldAt F (n - 1) Tryz.prog l #[.int .u64 x] W fun e W' =>
      (e = .returned (.bool true) ∧ J (pre ++ [x]) W' ∧ KeepsWalks W W') ∨ (e = .returned (.bool false) ∧ Jx (pre ++ [x]) W'))
    (W : World) (hJ : AbidesFrom W.heap.size J) (hm : W.cell? ⟨Bm, 0, none⟩ = some (.map (some b))) (hown : IMap W b .u64 f) (K : List Int) (hK : ∀ x, (f x).isSome = true → x ∈ K) (hKN : K.length ≤ N) (h0 : J [] W) (hn : 1 ≤ n) :
    CallsIn F n Tryz.prog 117 #[.func (.yield l) #[] #[], .pointer (some ⟨Bm, 0, none⟩)] W fun e W' => (∃ v, e = .returned v) ∧
      ((∃ ss, KeysOf f ss ∧ J ss W') ∨ (∃ pre, True ∧ Jx pre W')) := by
  obtain ⟨w0, cnt0, hrun, hit, hm0, hs0⟩ := hown.range (P := Tryz.prog) (T := 119) Tryz.underlying119
  have hJ0 : J [] w0 := hJ [] W w0 none h0 hm0.grow0 (fun r e => by cases e)
  have hc0 : cnt0 ≤ N := Nat.le_trans (hit.cnt_le K hK) hKN
  have HIT := hide hit
  have HJ0 := hide hJ0
  have HK := hide hK
  clear hit hJ0 h0 hown hK
  refine callsIn_of_wp Tryz.func117 rfl hf1 ?_ hro
  simp only [Tryz.ntmps117, List.size_toArray, List.length_cons, List.length_nil, Nat.reduceAdd, Nat.reduceSub, Array.replicate_succ, Array.replicate_zero, List.push_toArray, List.append_toArray, List.nil_append, List.cons_append]
  gi_wp2
  gi_loopw [3] (fun _ wr => ∃ (left : Int → Bool) (cnt : Nat) (ss : List Int), IIter wr b W.heap.size .u64 f left cnt ∧ ss.length + cnt ≤ N ∧ (ss.Nodup ∧ ∀ x, x ∈ ss ↔ ((f x).isSome = true ∧ left x = false)) ∧ J ss wr)
    (fun _ wr => wr.rangeLeft b W.heap.size)
  case atStart => exact ⟨_, _, [], HIT.out, by simpa using hc0, ⟨List.nodup_nil, fun x => by cases (f x).isSome <;> simp⟩, HJ0.out⟩
  case round =>
    obtain ⟨left, cnt, ss, hit, hcs, hC, hJs⟩ := hrel
    have HC := hide hC
    clear hC
    rcases hit.next (P := Tryz.prog) 0 with ⟨hz, hl0, hnx⟩ | ⟨x, v, w2, cnt2, hlx, hfx, hnx, hit2, hlt, hm2, hs2, hen⟩
    · have hks : Hid (KeysOf f ss) := hide ⟨HC.out.1, fun x => by rw [HC.out.2 x, hl0]; simp⟩
      clear hit
      gi_wp2
      go_end0
      exact ⟨⟨_, rfl⟩, .inl ⟨ss, hks.out, hJs⟩⟩
    · have hJ2 : J ss w2 := hJ ss wr w2 (some W.heap.size) hJs hm2.grow1 (fun r e => by cases e; exact ⟨Nat.le_refl _, hit.walk⟩)
      obtain ⟨fn, tmps, assign, body, hy, hR⟩ := hY ss x w2 hJ2 (by omega)
      have HIT2 := hide hit2
      have Hle := hide hit.left_eq
      clear hit hJs hit2
      gi_wp2
      refine hR.mono ?_
      rintro e W3 (⟨rfl, hJ3, hk3⟩ | ⟨rfl, hJx3⟩)
      · have hit3 := HIT2.out.walks hk3
        gi_wp2
        go_roundw
        case rel => exact ⟨_, cnt2, ss ++ [x], hit3, by simp; omega, ⟨List.nodup_append.2 ⟨HC.out.1, by simp, fun a ha b' hb' e => by
          simp at hb'
          have := ((HC.out.2 a).1 ha).2
          rw [e, hb', hlx] at this
          cases this⟩, fun y => by
            rw [List.mem_append, List.mem_singleton, HC.out.2 y]
            by_cases hyx : y = x
            · subst hyx; simp [hfx]
            · simp [hyx]⟩, hJ3⟩
        case measure => rw [hit3.left_eq, Hle.out]; exact hlt
      · gi_wp2
        refine bodyPost_ret (results_none rfl _ _ _) rfl ?_
        exact ⟨⟨_, rfl⟩, .inr ⟨ss ++ [x], trivial, hJx3⟩⟩

set_option maxHeartbeats 1000000 in
theorem keys_u64 (F : Fence) (n : Nat) (hf : F.fn 102) (hro : F.round = none) (mb : Option Nat) (w : World) :
    CallsIn F n Tryz.prog 102 #[.map mb] w fun e w' => e = .returned (.func (.func 117) #[] #[.pointer (some ⟨w.heap.size, 0, none⟩)]) ∧ w' = w.alloc (.cells #[.map mb] 119) := by
  refine callsIn_of_wp Tryz.func102 rfl hf ?_ hro
  simp only [Tryz.ntmps102, List.size_toArray, List.length_cons, List.length_nil, Nat.reduceAdd, Nat.reduceSub, Array.replicate_succ, Array.replicate_zero, List.push_toArray, List.append_toArray, List.nil_append, List.cons_append]
  gi_wp2
  go_ret
  exact ⟨rfl, rfl⟩

/-- what maps.Keys hands back, as the law on a loop over it asks -/
theorem keys_stops (F : Fence) (n : Nat) (hf1 : F.fn 117) (hro : F.round = none) (hn : 1 ≤ n) (Bm b N : Nat) (f : Int → Option Value) (w : World) (hBm : Bm < w.heap.size)
    (hc : w.cell? ⟨Bm, 0, none⟩ = some (.map (some b))) (hown : IMap w b .u64 f) (K : List Int) (hK : ∀ x, (f x).isSome = true → x ∈ K) (hKN : K.length ≤ N) :
    SeqStopsK F n Tryz.prog 117 #[.pointer (some ⟨Bm, 0, none⟩)] (fun x : Int => #[Value.int .u64 x]) KeepsWalks (KeysOf f) (fun _ => True) N w := fun l J Jx W hW hJ _ hY h0 =>
  keys1_u64 F n hf1 hro l Bm b N f J Jx hY W hJ ((hW.cell (p := ⟨Bm, 0, none⟩) hBm).trans hc) (hown.same (hW.block b hown.lt)) K hK hKN h0 hn
end Go.Proofs.YtjdfemfobcjecaaGreat

/-
  slices.Sorted(maps.Keys(m)) at a map keyed by uint64.
-/
namespace Go.Proofs.YtjdfemfobcjecaaGreat
open Go.RowKit Go.Sort Go.Shelf

attribute [local go_sem] Oper.semAt_some

theorem info_u64 : (Tryz.prog.info? 22).map (fun i => (i.zero, i.size, i.bytes)) = some (some (.int .u64 0), 1, 8) := by kernel_rfl

set_option maxRecDepth 100000 in
set_option maxHeartbeats 2000000 in
/-- slices.AppendSeq(nil, seq): what the iterator gives, in its order. -/
theorem appendSeq_u64 (F : Fence) (n : Nat) (hf : F.fn 78) (hro : F.round = none) (hn : 2 ≤ n) (gf : Nat) (lb : Array Value) (hFg : F.fn gf) (eg : ∀ args w, (callFunc gf args).run Tryz.prog w = .ok (.enter gf args) w)
    (S : List Int → Prop) (N : Nat) (hN : N ≤ 65536) (w : World) (hseq : SeqStopsK F (n - 1) Tryz.prog gf lb (fun x : Int => #[Value.int .u64 x]) KeepsWalks S (fun _ => True) N w) :
    CallsIn F n Tryz.prog 78 #[.slice none 0 0, .func (.func gf) #[] lb] w fun e w' => ∃ (v : Value) (ss : List Int), e = .returned v ∧ S ss ∧
      w'.ownsRow w.heap.size 22 1 v ss.length (ss.map U) ∧ (v = .slice none 0 0 ↔ ss = []) ∧ Go.RowKit.Below w.heap.size w w' := by
  have h1 : 1 ≤ n := by omega
  obtain ⟨i0, hi, hz0, hz1, hz2⟩ := info_parts info_u64
  refine callsIn_of_wp_marks Tryz.func78 rfl hf ?_ hro
  simp only [Tryz.ntmps78, List.size_toArray, List.length_cons, List.length_nil, Nat.reduceAdd, Nat.reduceSub, Array.replicate_succ, Array.replicate_zero, List.push_toArray, List.append_toArray, List.nil_append, List.cons_append]
  gi_wp2
  have bO := Boxed.new w 32 (.slice none 0 0)
  have hB0 : Go.RowKit.Below w.heap.size w (w.alloc (.cells #[.slice none 0 0] 32)) := (Go.RowKit.Below.refl _ w).alloc (Nat.le_refl _) _
  refine wpIn_rangeFunc_ownG hro h1 (gf := gf) (lb := lb) rfl hFg eg hseq walksK_t walksK_b hB0 (fun _ => rfl)
    (fun pre W => (∃ v, Boxed W w.heap.size 32 v ∧ W.ownsRow w.heap.size 22 1 v pre.length (pre.map U) ∧ (v = .slice none 0 0 ↔ pre = [])) ∧ Go.RowKit.Below w.heap.size w W)
    (fun _ _ _ => False)
    (OwnFrom.and (Own.from (holdsRow_own w.heap.size w.heap.size 32 22 1 (fun pre : List Int => pre.length) (fun pre => pre.map U) (fun pre v => v = .slice none 0 0 ↔ pre = [])) _) (ownFrom_below (Nat.le_refl _) (by simp)))
    (fun _ _ _ _ _ hs _ _ => hs)
    ⟨⟨_, bO, World.ownsRow_nil _ _ _ _, by simp⟩, hB0⟩
    (fun x => { tmps := #[.slice none 0 0, .func (.func gf) #[] lb, .pointer (some ⟨w.heap.size, 0, none⟩), undef, .slice none 0 0, .int .u64 x, .func (.func gf) #[] lb, .int .u64 x, undef, undef, undef, undef, undef], defers := [] }) ?assign ?body ?done ?stop
  case assign =>
    intro l x W K hK
    gi_wp2
    exact hK
  case body =>
    rintro l pre x W ⟨⟨v, hv, hrow, hnil⟩, hB⟩ hlt
    have hc := hv.cell
    gi_wp2_with (gi_at_builtin; refine wpListIn_append_own _ rfl _ _ 32 rfl w.heap.size 22 i0 (.int .u64 0) 1 8 Tryz.underlying32 hi hz0 hz1 hz2 rfl (by decide) _ _ _ rfl (hrow.alloc _) ⟨W.heap.size, 0, none⟩ 1 1 [.int .u64 x] rfl rfl (cell_one_new _ _ _) (by simp [Value.oneCell']) (by unfold maxLen; omega) (by omega) (by have := hB.size; simp; omega) ?_; intro v' w1 hown' hgrow _; obtain ⟨g', cap', rfl⟩ := ownsRow_succ hown'; obtain ⟨hv1, hv2, hr2, hk2, hb2⟩ := hv.appended (by decide) hrow hB.size (Nat.le_refl _) hown' hgrow; have hc1 := hv1.cell; have hf1 := hv1.frozen)
    exact ⟨hk2.from _, hk2.walks, ⟨_, hv2, by simpa [U] using hr2, by simp⟩, hB.trans hb2⟩
  case done =>
    rintro D ys W hD hS ⟨⟨v, hv, hrow, hnil⟩, hB⟩ hK
    have hc := hv.cell
    gi_wp2
    refine ⟨by simp, .inl ⟨_, _, rfl, run_takeDeferred hK, ?_⟩⟩
    exact ⟨_, results_tmp rfl _ _ _, v, ys, rfl, hS, ownsRow_putObj hrow _ hK rfl, hnil, hB.trans (belowK_b (w := w) (Nat.le_refl _) W D _ _ (by simp at hD; omega) hK rfl rfl)⟩
  case stop =>
    rintro D c pre W _ _ h _
    exact h.elim

set_option maxHeartbeats 1000000 in
theorem collect_u64 (F : Fence) (n : Nat) (hf : F.fn 52) (hf2 : F.fn 78) (hro : F.round = none) (hn : 3 ≤ n) (gf : Nat) (lb : Array Value) (hFg : F.fn gf) (eg : ∀ args w, (callFunc gf args).run Tryz.prog w = .ok (.enter gf args) w)
    (S : List Int → Prop) (N : Nat) (hN : N ≤ 65536) (w : World) (hseq : SeqStopsK F (n - 1 - 1) Tryz.prog gf lb (fun x : Int => #[Value.int .u64 x]) KeepsWalks S (fun _ => True) N w) :
    CallsIn F n Tryz.prog 52 #[.func (.func gf) #[] lb] w fun e w' => ∃ (v : Value) (ss : List Int), e = .returned v ∧ S ss ∧
      w'.ownsRow w.heap.size 22 1 v ss.length (ss.map U) ∧ (v = .slice none 0 0 ↔ ss = []) ∧ Go.RowKit.Below w.heap.size w w' := by
  have h1 : 1 ≤ n := by omega
  refine callsIn_of_wp Tryz.func52 rfl hf ?_ hro
  simp only [Tryz.ntmps52, List.size_toArray, List.length_cons, List.length_nil, Nat.reduceAdd, Nat.reduceSub, Array.replicate_succ, Array.replicate_zero, List.push_toArray, List.append_toArray, List.nil_append, List.cons_append]
  gi_wp2_with (gi_at_call 78; refine (appendSeq_u64 F (n - 1) hf2 hro (by omega) gf lb hFg eg S N hN _ hseq).mono ?_; rintro e w' ⟨v, ss, rfl, hS, hrow, hnil, hb⟩)
  go_ret
  exact ⟨v, ss, rfl, hS, hrow, hnil, hb⟩

theorem own_row {w : World} {base g n cap : Nat} {ss : List Int} (h : w.ownsRow base 22 1 (.slice (some ⟨g, 0, none⟩) n cap) n (ss.map U)) :
    ∃ R, Row w g ss.toArray R ∧ base ≤ g ∧ n ≤ cap ∧ cap ≤ maxLen ∧ (ss ++ R.map fun _ => 0).length = cap ∧ ss.length = n := by
  have hl : ss.length = n := by have := h.1; simpa using this
  rcases h.2 with ⟨h0, _⟩ | ⟨g', cap', cur, hv, hb, hg, h1, h2, h3, h4⟩
  · cases h0
  · cases hv
    simp only [Nat.mul_one] at h3 h4
    have he : cur.toList = ss.map U ++ cur.toList.drop n := by rw [← h4]; exact (List.take_append_drop n cur.toList).symm
    refine ⟨cur.toList.drop n, ?_, hb, h1, h2, ?_, hl⟩
    · have : cur = (ss.toArray.toList.map U ++ cur.toList.drop n).toArray := by
        apply Array.ext'
        simpa using he
      exact (congrArg (fun c => w.heap[g]? = some (.cells c 22 (0, 0))) this).mp hg
    · simp; omega
theorem row_own {w : World} {base g n cap : Nat} {d : Array Int} {R : List Value} (h : Row w g d R) (hb : base ≤ g) (hd : d.size = n) (h1 : n ≤ cap) (h2 : cap ≤ maxLen) (h3 : n + R.length = cap) :
    w.ownsRow base 22 1 (.slice (some ⟨g, 0, none⟩) n cap) n (d.toList.map U) := by
  refine ⟨by simp [hd], .inr ⟨g, cap, _, rfl, hb, h, h1, h2, by simp; omega, ?_⟩⟩
  simp only [Nat.mul_one]
  rw [List.take_left' (by simp [hd])]

theorem sorted_lt {ss : List Int} {d : Array Int} {n : Nat} (hn : ss.length = n) (hnd : ss.Nodup) (hp : PermIn 0 n ss.toArray d) (hs : SortedIn ltInt 0 n d) : d.toList.Perm ss ∧ d.toList.Pairwise (· < ·) := by
  have hsz : d.size = n := by rw [hp.1]; simpa using hn
  have e1 : (d.extract 0 n).toList = d.toList := by rw [← hsz]; simp
  have e2 : (ss.toArray.extract 0 n).toList = ss := by rw [← hn]; simp
  have hperm : d.toList.Perm ss := by have := hp.2.2; rw [e1, e2] at this; exact this
  refine ⟨hperm, ?_⟩
  have hnd' : d.toList.Nodup := hperm.nodup_iff.2 hnd
  rw [List.pairwise_iff_getElem]
  intro i j hi hj hij
  have hi' : i < d.size := by simpa using hi
  have hj' : j < d.size := by simpa using hj
  have h1 := hs i j (Nat.zero_le _) hij (by omega)
  have h2 : d.toList[i] ≠ d.toList[j] := List.pairwise_iff_getElem.1 hnd' i j hi hj hij
  simp only [ltInt, decide_eq_false_iff_not] at h1
  rw [getElem!_pos d j hj', getElem!_pos d i hi'] at h1
  simp only [Array.getElem_toList] at h2 ⊢
  omega
theorem KeysOf.perm {f : Int → Option Value} {ss ts : List Int} (h : KeysOf f ss) (hp : ts.Perm ss) : KeysOf f ts := ⟨hp.nodup_iff.2 h.1, fun x => by rw [hp.mem_iff]; exact h.2 x⟩

set_option maxHeartbeats 1000000 in
theorem insertion_nil (w : World) :
    Calls Tryz.prog 91 #[.slice none 0 0, .int .i64 0, .int .i64 0] w fun e w' => e = .returned (.tuple #[]) ∧ w' = w := by
  go_enter Tryz.func91, Tryz.ntmps91
  go_wp2_with fail
  go_loopw [6] (fun v wr => v = .int .i64 1 ∧ wr = w) (fun _ _ => 0)
  case atStart => exact ⟨by simp, rfl⟩
  case round =>
    obtain ⟨rfl, rfl⟩ := hrel
    go_wp2_with fail
    go_end0
    exact ⟨rfl, rfl⟩
set_option maxHeartbeats 1000000 in
theorem pdq_nil (w : World) (lim : Int) :
    Calls Tryz.prog 79 #[.slice none 0 0, .int .i64 0, .int .i64 0, .int .i64 lim] w fun e w' => e = .returned (.tuple #[]) ∧ w' = w := by
  go_enter Tryz.func79, Tryz.ntmps79
  go_wp2_with fail
  go_loopw [1, 2] (fun x y wr => x = .int .i64 0 ∧ y = .int .i64 0 ∧ wr = w) (fun _ _ _ => 0)
  case atStart => exact ⟨rfl, rfl, rfl⟩
  case round =>
    obtain ⟨rfl, rfl, rfl⟩ := hrel
    go_wp2_with fail
    refine (insertion_nil _).mono ?_
    rintro e w' ⟨rfl, rfl⟩
    go_wp2_with fail
    refine bodyPost_ret (results_none rfl _ _ _) rfl ?_
    exact ⟨rfl, rfl⟩
set_option maxHeartbeats 1000000 in
theorem sort_nil (w : World) :
    Calls Tryz.prog 53 #[.slice none 0 0] w fun e w' => e = .returned (.tuple #[]) ∧ w' = w := by
  go_enter Tryz.func53, Tryz.ntmps53
  go_wp2_with fail
  refine (len_u64 w 0 (by omega)).mono ?_
  rintro e w' ⟨rfl, rfl⟩
  go_wp2_with fail
  refine (pdq_nil w' _).mono ?_
  rintro e w2 ⟨rfl, rfl⟩
  go_wp2_with fail
  go_end0
  exact ⟨rfl, rfl⟩

set_option maxHeartbeats 2000000 in
/-- slices.Sorted of what maps.Keys hands back: a new slice of the keys, each once, ascending. -/
theorem sorted_u64 (w : World) (Bm b : Nat) (f : Int → Option Value) (hBm : Bm < w.heap.size) (hc : w.cell? ⟨Bm, 0, none⟩ = some (.map (some b))) (hown : IMap w b .u64 f) (K : List Int) (hK : ∀ x, (f x).isSome = true → x ∈ K) (hKN : K.length < 65536) :
    Calls Tryz.prog 26 #[.func (.func 117) #[] #[.pointer (some ⟨Bm, 0, none⟩)]] w fun e w' => ∃ (v : Value) (ss : List Int), e = .returned v ∧ KeysOf f ss ∧ ss.Pairwise (· < ·) ∧
      w'.ownsRow w.heap.size 22 1 v ss.length (ss.map U) ∧ Mod [] w w' := by
  have hcol : Calls Tryz.prog 52 _ w _ := callsIn_wide.1 (collect_u64 Fence.wide 5 trivial trivial rfl (by omega) 117 #[.pointer (some ⟨Bm, 0, none⟩)] trivial (enters_of Tryz.func117 (by kernel_rfl) rfl) _ 65535 (by omega) w
    (keys_stops Fence.wide _ trivial rfl (by omega) Bm b 65535 f w hBm hc hown K hK (by omega)))
  have Hcol := hide hcol
  have HK := hide hK
  clear hcol hown hK
  go_enter Tryz.func26, Tryz.ntmps26
  go_wp2_with fail
  refine Hcol.out.mono ?_
  rintro e w1 ⟨v, ss, rfl, hS, hrow, hnil, hb⟩
  have hm1 : Mod [] w w1 := Mod.of_below hb
  rcases hrow.2 with ⟨rfl, hz⟩ | ⟨g, cap, cur, rfl, hbase, hgb, r1, r2, r3, r4⟩
  · have hss : ss = [] := List.eq_nil_of_length_eq_zero hz
    subst hss
    go_wp2_with fail
    refine (sort_nil _).mono ?_
    rintro e w2 ⟨rfl, rfl⟩
    go_wp2_with fail
    go_ret
    exact ⟨_, [], rfl, hS, List.Pairwise.nil, hrow, hm1⟩
  · obtain ⟨R, hr, _, h1, h2, h3, hl⟩ := own_row hrow
    have hlen : ss.length < 65536 := by have := nodup_le ss K hS.1 (fun x hx => HK.out x ((hS.2 x).1 hx)); omega
    have hsz : ss.toArray.size = ss.length := by simp
    clear hrow hgb r1 r2 r3 r4 hnil
    go_wp2_with fail
    refine (sort_u64 w1 g cap ss.toArray R hr (by rw [hsz]; exact hlen) ss.length hsz).mono ?_
    rintro e w2 ⟨rfl, d', hp, hs, hr2, hm2⟩
    obtain ⟨k1, k2⟩ := sorted_lt rfl hS.1 hp hs
    have hd : d'.size = ss.length := by rw [hp.1]; exact hsz
    have hown := row_own (n := ss.length) (cap := cap) hr2 hbase hd h1 h2 (by simpa using h3)
    have hdl : d'.toList.length = ss.length := by simpa using hd
    have hown' : w2.ownsRow w.heap.size 22 1 (.slice (some ⟨g, 0, none⟩) ss.length cap) d'.toList.length (d'.toList.map U) := by rw [hdl]; exact hown
    go_wp2_with fail
    go_ret
    exact ⟨_, d'.toList, rfl, hS.perm k1, k2, hown', hm1.trans hm2 (by simpa using hbase)⟩
end Go.Proofs.YtjdfemfobcjecaaGreat

/-
  strings.Clone; delete on a map keyed by an integer kind.
-/
namespace Go.Proofs.YtjdfemfobcjecaaGreat
open Go.RowKit

def cloneRen : Go.Shelf.Ren := ⟨fun | 316 => 87 | n => n, fun | 0 => 0 | 3 => 3 | 4 => 4 | 5 => 5 | 9 => 9 | 37 => 105 | 127 => 117 | n => n, fun n => n⟩
theorem cloneLays : Go.Proofs.LaysM.n316 Tryz.prog cloneRen := {
  mixed := by kernel_rfl,
  f316 := Tryz.func87.trans (congrArg some (by kernel_rfl)),
  t0 := Tryz.underlying0,
  a0 := Tryz.isAgg0,
  z0 := Tryz.sizeOf0,
  v0 := Tryz.zeroValue0,
  t3 := Tryz.underlying3,
  a3 := Tryz.isAgg3,
  z3 := Tryz.sizeOf3,
  v3 := Tryz.zeroValue3,
  t4 := Tryz.underlying4,
  a4 := Tryz.isAgg4,
  z4 := Tryz.sizeOf4,
  v4 := Tryz.zeroValue4,
  t9 := Tryz.underlying9,
  a9 := Tryz.isAgg9,
  z9 := Tryz.sizeOf9,
  v9 := Tryz.zeroValue9,
  t37 := Tryz.underlying105,
  a37 := Tryz.isAgg105,
  z37 := Tryz.sizeOf105,
  v37 := Tryz.zeroValue105,
  t127 := Tryz.underlying117,
  a127 := Tryz.isAgg117,
  z127 := Tryz.sizeOf117,
  v127 := Tryz.zeroValue117,
  t5 := Tryz.underlying5,
  a5 := Tryz.isAgg5,
  z5 := Tryz.sizeOf5,
  v5 := Tryz.zeroValue5,
  i0 := by kernel_rfl,
  i3 := by kernel_rfl,
  i4 := by kernel_rfl,
  i5 := by kernel_rfl,
  i9 := by kernel_rfl,
  i37 := by kernel_rfl,
  i127 := by kernel_rfl }

set_option maxHeartbeats 400000 in
theorem clone_any (w : World) (s : ByteArray) (h : s.size ≤ 281474976710656) :
    Calls Tryz.prog 75 #[.string s] w fun e w' => e = .returned (.string s) ∧ Mod [] w w' := by
  have hc : Calls Tryz.prog 87 #[.string s] w _ := Any.stringslite_Clone cloneLays s w h
  go_enter Tryz.func75, Tryz.ntmps75
  go_wp2_with fail
  refine hc.mono ?_
  rintro e w' ⟨rfl, hb⟩
  go_wp2_with fail
  go_ret
  exact ⟨rfl, Mod.of_below hb⟩

/-- how many entries a map has: for a loop's measure -/
def mapLen (w : World) (b : Nat) : Nat := match w.heap[b]? with | some (.map es _) => es.size | _ => 0

section
variable {P : Program} {w : World} {b : Nat} {q : IntKind} {f : Int → Option Value} {T K E : TypeId}
theorem eraseIdx_split {α : Type} (l : List α) (j : Nat) (hj : j < l.length) : l = l.take j ++ l[j] :: l.drop (j + 1) ∧ l.eraseIdx j = l.take j ++ l.drop (j + 1) :=
  ⟨by rw [List.getElem_cons_drop]; exact (List.take_append_drop j l).symm, List.eraseIdx_eq_take_drop_succ l j⟩
theorem entAt_erase {es : List MapEntry} {clock : Nat} (F : Ents q es clock) {x : Int} {j : Nat} (h : es.findIdx? (keyIs q x) = some j) (y : Int) :
    entAt q (es.eraseIdx j) y = if y = x then none else entAt q es y := by
  obtain ⟨hj, _, hkj⟩ := entAt_some _ _ h
  obtain ⟨e1, e2⟩ := eraseIdx_split es j hj
  have hap := F.apart
  by_cases hyx : y = x
  · subst hyx
    rw [if_pos rfl]
    unfold entAt
    rw [List.find?_eq_none.2, Option.map_none]
    intro e he hke
    have hke' := keyIs_iff.1 hke
    rw [e1, List.pairwise_append, List.pairwise_cons] at hap
    rw [e2, List.mem_append] at he
    rcases he with he | he
    · exact hap.2.2 e he es[j] (List.Mem.head _) (by rw [hke', hkj])
    · exact hap.2.1.1 e he (by rw [hke', hkj])
  · rw [if_neg hyx]
    have hn : keyIs q y es[j] = false := by
      cases hk : keyIs q y es[j]
      · rfl
      · rw [keyIs_iff, hkj] at hk
        cases hk
        exact absurd rfl hyx
    unfold entAt
    congr 1
    rw [e2]
    conv => rhs; rw [e1]
    rw [List.find?_append, List.find?_append, List.find?_cons, hn]
theorem IMap.delete (h : IMap w b q f) (ht : P.underlying T = some (.map K E)) (hk : P.underlying K = some (.int q)) (x : Int) (hx : (f x).isSome = true) (ty : TypeId) :
    ∃ w', (Builtin.delete_ #[T, K] ty #[.map (some b), .int q x]).run P w = .ok (.tuple #[]) w' ∧ IMap w' b q (upd f x none) ∧ Mod [b] w w' ∧ w'.heap.size = w.heap.size ∧ mapLen w' b < mapLen w b := by
  obtain ⟨es, clock, hb, F, hf⟩ := h
  have hfk := run_findKey_int (P := P) hk x es.toList F.keys w
  cases hidx : es.toList.findIdx? (keyIs q x) with
  | none =>
    rw [hf, entAt_none _ _ hidx] at hx
    cases hx
  | some j =>
    obtain ⟨hj, hval, hkj⟩ := entAt_some _ _ hidx
    have hj' : j < es.size := by simpa using hj
    refine ⟨ChangeMaps.setBlock w b (.map (es.eraseIdxIfInBounds j) clock), ?_, ?_, setBlock_mod _ _ _, by simp [ChangeMaps.setBlock], ?_⟩
    · rw [hidx] at hfk
      have e1 : es.toList[j]? = some es.toList[j] := List.getElem?_eq_getElem hj
      simp only [Option.bind_some, e1, Option.map_some] at hfk
      simp [Builtin.delete_, run_underlying ht, MapKept.run_getObj_map hb, run_checkKey_int hk, hfk, MapKept.run_setObj_map _ hb, Result.andThen, ChangeMaps.setBlock]
    · have e2 : (es.eraseIdxIfInBounds j).toList = es.toList.eraseIdx j := by
        rw [Array.eraseIdxIfInBounds, dif_pos hj', Array.toList_eraseIdx]
      have hsub : (es.toList.eraseIdx j).Sublist es.toList := List.eraseIdx_sublist _ _
      refine ⟨_, _, ChangeMaps.heap_setBlock_same hb _, ?_, ?_⟩
      · rw [e2]
        exact ⟨fun e he => F.keys e (hsub.subset he), F.apart.sublist hsub, fun e he => F.born e (hsub.subset he), (F.stamps.sublist (hsub.map _))⟩
      · intro y
        rw [e2, entAt_erase F hidx y]
        unfold upd
        rw [hf]
    · unfold mapLen
      rw [ChangeMaps.heap_setBlock_same hb _, hb]
      simp only [Array.eraseIdxIfInBounds, dif_pos hj', Array.size_eraseIdx]
      omega
end
end Go.Proofs.YtjdfemfobcjecaaGreat

/-
  inbox, plain: what an inbox knows; the parts behind a gap, as a map that covers what came. No program.
-/
namespace Go.Proofs.YtjdfemfobcjecaaGreat
open Go.RowKit

theorem str_inj {a b : List UInt8} (h : str a = str b) : a = b := by simpa [str] using h

theorem str_extract (l : List UInt8) (a b : Nat) : ((⟨l.toArray⟩ : ByteArray).extract a b) = ⟨((l.drop a).take (b - a)).toArray⟩ := by
  apply ByteArray.ext
  apply Array.ext'
  rw [Lib.extract_data]

structure Ib where
  limit : Nat
  taken : Nat
  ready : Nat
  far : Nat
  final : Nat
  known : Bool
  reset : Bool
  B : Nat → Option UInt8
  supp : List Nat

/-- the bytes from a up to b -/
def run (B : Nat → Option UInt8) (a b : Nat) : List UInt8 := (List.range' a (b - a)).map fun n => (B n).getD 0
theorem run_take (B : Nat → Option UInt8) (a b n : Nat) (h : a + n ≤ b) : (run B a b).take n = run B a (a + n) := by
  apply List.ext_getElem
  · simp [run]; omega
  · intro i h1 h2
    simp [run]
theorem run_drop (B : Nat → Option UInt8) (a b n : Nat) : (run B a b).drop n = run B (a + n) b := by
  apply List.ext_getElem
  · simp [run]; omega
  · intro i h1 h2
    simp [run, Nat.add_assoc]
theorem run_empty (B : Nat → Option UInt8) (a : Nat) : run B a a = [] := by simp [run]
theorem run_congr {B B' : Nat → Option UInt8} {a b : Nat} (h : ∀ n, a ≤ n → n < b → B' n = B n) : run B' a b = run B a b := by
  unfold run
  apply List.map_congr_left
  intro n hn
  rw [List.mem_range'_1] at hn
  rw [h n (by omega) (by omega)]
theorem run_length (B : Nat → Option UInt8) (a b : Nat) : (run B a b).length = b - a := by simp [run]

structure Ib.WF (o : Ib) : Prop where
  lim : o.limit ≤ 4611686018427387903
  tk : o.taken ≤ o.ready
  fill : ∀ n, n < o.ready → (o.B n).isSome = true
  gap : o.B o.ready = none
  bound : ∀ n, (o.B n).isSome = true → n < o.far
  top : o.far ≤ o.limit
  fin : o.known = true → o.far ≤ o.final ∧ o.final ≤ o.limit
  fin0 : o.known = false → o.final = 0
  supp : ∀ n, (o.B n).isSome = true → n ∈ o.supp
  cut : o.reset = true → o.ready = o.taken ∧ ∀ n, o.taken ≤ n → o.B n = none
theorem Ib.WF.rd {o : Ib} (h : o.WF) : o.ready ≤ o.far := by
  rcases Nat.eq_zero_or_pos o.ready with h0 | h0
  · omega
  · have := h.bound (o.ready - 1) (h.fill _ (by omega)); omega

/-- The map f covers what C says: each part lies at its place, none is empty, no two have a place in common. -/
structure Cov (f : Int → Option Value) (C : Nat → Option UInt8) : Prop where
  val : ∀ x v, f x = some v → ∃ (k : Nat) (s : List UInt8), x = k ∧ v = str s ∧ s ≠ [] ∧ ∀ i c, s[i]? = some c → C (k + i) = some c
  cov : ∀ n, (C n).isSome = true → ∃ (k : Nat) (s : List UInt8), f k = some (str s) ∧ k ≤ n ∧ n < k + s.length
  apart : ∀ (k k' : Nat) (s s' : List UInt8), f k = some (str s) → f k' = some (str s') → k < k' → k + s.length ≤ k'

section
variable {f : Int → Option Value} {C : Nat → Option UInt8}
theorem Cov.at_ (h : Cov f C) {k : Nat} {s : List UInt8} (hk : f k = some (str s)) : s ≠ [] ∧ ∀ i c, s[i]? = some c → C (k + i) = some c := by
  obtain ⟨k', s', h1, h2, h3, h4⟩ := h.val _ _ hk
  obtain rfl : k = k' := by omega
  obtain rfl := str_inj h2
  exact ⟨h3, h4⟩
theorem Cov.in_ (h : Cov f C) {k n : Nat} {s : List UInt8} (hk : f k = some (str s)) (h1 : k ≤ n) (h2 : n < k + s.length) : C n = some s[n - k] := by
  have := (h.at_ hk).2 (n - k) s[n - k] (List.getElem?_eq_getElem (by omega))
  rwa [Nat.add_sub_cancel' h1] at this
theorem Cov.key (h : Cov f C) {x : Int} (hx : (f x).isSome = true) : ∃ (k : Nat) (s : List UInt8), x = k ∧ f k = some (str s) ∧ s ≠ [] ∧ (C k).isSome = true := by
  obtain ⟨v, hv⟩ := Option.isSome_iff_exists.1 hx
  obtain ⟨k, s, rfl, rfl, h3, h4⟩ := h.val _ _ hv
  refine ⟨k, s, rfl, hv, h3, ?_⟩
  cases s with
  | nil => exact absurd rfl h3
  | cons c t => rw [show k = k + 0 from rfl, h4 0 c rfl]; rfl
theorem Cov.empty : Cov (fun _ => none) (fun _ => none) := ⟨fun _ _ h => (by cases h), fun _ h => (by cases h), fun _ _ _ _ h => (by cases h)⟩
theorem Cov.congr {C' : Nat → Option UInt8} (h : Cov f C) (hc : ∀ n, C' n = C n) : Cov f C' := by
  have : C' = C := funext hc
  rw [this]; exact h
/-- a part more, where nothing was -/
theorem Cov.add (h : Cov f C) (a : Nat) (s : List UInt8) (hs : s ≠ []) (hfree : ∀ i, i < s.length → C (a + i) = none) :
    Cov (upd f a (some (str s))) (fun n => if a ≤ n ∧ n < a + s.length then s[n - a]? else C n) := by
  have hpos : 0 < s.length := List.length_pos_iff.2 hs
  have old : ∀ (k : Nat) (t : List UInt8), f k = some (str t) → k ≠ a → k + t.length ≤ a ∨ a + s.length ≤ k := fun k t hk hne => by
    rcases Nat.lt_or_ge k a with h1 | h1
    · left
      refine Decidable.byContradiction fun h2 => ?_
      have := h.in_ hk (n := a) (by omega) (by omega)
      have h0 : C a = none := hfree 0 hpos
      rw [h0] at this
      cases this
    · right
      refine Decidable.byContradiction fun h2 => ?_
      have hp := List.length_pos_iff.2 (h.at_ hk).1
      have := h.in_ hk (n := k) (by omega) (by omega)
      have h0 := hfree (k - a) (by omega)
      rw [show a + (k - a) = k by omega] at h0
      rw [h0] at this
      cases this
  refine ⟨?_, ?_, ?_⟩
  · intro x v hx
    unfold upd at hx
    split at hx
    · rename_i e
      cases hx
      refine ⟨a, s, e, rfl, hs, fun i c hc => ?_⟩
      have hi : i < s.length := by
        rcases Nat.lt_or_ge i s.length with h1 | h1
        · exact h1
        · rw [List.getElem?_eq_none h1] at hc; cases hc
      rw [if_pos ⟨by omega, by omega⟩, Nat.add_sub_cancel_left]
      exact hc
    · rename_i e
      obtain ⟨k, t, rfl, rfl, h3, h4⟩ := h.val _ _ hx
      refine ⟨k, t, rfl, rfl, h3, fun i c hc => ?_⟩
      have hi : i < t.length := by
        rcases Nat.lt_or_ge i t.length with h1 | h1
        · exact h1
        · rw [List.getElem?_eq_none h1] at hc; cases hc
      have := old k t hx (fun e' => e (by rw [e']))
      rw [if_neg (by omega)]
      exact h4 i c hc
  · intro n hn
    split at hn
    · rename_i hr
      exact ⟨a, s, by simp [upd], hr.1, hr.2⟩
    · obtain ⟨k, t, h1, h2, h3⟩ := h.cov n hn
      refine ⟨k, t, ?_, h2, h3⟩
      unfold upd
      rw [if_neg, h1]
      intro e
      have e' : k = a := by omega
      subst e'
      have := h.in_ h1 (n := k) (Nat.le_refl _) (by omega)
      have h0 : C k = none := hfree 0 hpos
      rw [h0] at this
      cases this
  · intro k k' t t' h1 h2 hlt
    unfold upd at h1 h2
    split at h1
    · rename_i e1
      have e1' : k = a := by omega
      subst e1'
      have := str_inj (Option.some.inj h1)
      subst this
      rw [if_neg (by omega)] at h2
      rcases old k' t' h2 (by omega) with h3 | h3
      · omega
      · exact h3
    · rename_i e1
      split at h2
      · rename_i e2
        have e2' : k' = a := by omega
        subst e2'
        rcases old k t h1 (by omega) with h3 | h3
        · exact h3
        · omega
      · exact h.apart k k' t t' h1 h2 hlt
/-- a part less -/
theorem Cov.del (h : Cov f C) {k : Nat} {s : List UInt8} (hk : f k = some (str s)) : Cov (upd f k none) (fun n => if k ≤ n ∧ n < k + s.length then none else C n) := by
  refine ⟨?_, ?_, ?_⟩
  · intro x v hx
    unfold upd at hx
    split at hx
    · cases hx
    · rename_i e
      obtain ⟨j, t, rfl, rfl, h3, h4⟩ := h.val _ _ hx
      refine ⟨j, t, rfl, rfl, h3, fun i c hc => ?_⟩
      have hi : i < t.length := by
        rcases Nat.lt_or_ge i t.length with h1 | h1
        · exact h1
        · rw [List.getElem?_eq_none h1] at hc; cases hc
      have hne : j ≠ k := fun e' => e (by rw [e'])
      have : j + t.length ≤ k ∨ k + s.length ≤ j := by
        rcases Nat.lt_or_ge j k with h1 | h1
        · exact .inl (h.apart j k t s hx hk h1)
        · exact .inr (h.apart k j s t hk hx (by omega))
      rw [if_neg (by omega)]
      exact h4 i c hc
  · intro n hn
    split at hn
    · cases hn
    · rename_i hr
      obtain ⟨j, t, h1, h2, h3⟩ := h.cov n hn
      refine ⟨j, t, ?_, h2, h3⟩
      unfold upd
      rw [if_neg, h1]
      intro e
      have e' : j = k := by omega
      subst e'
      rw [hk] at h1
      have := str_inj (Option.some.inj h1)
      subst this
      exact hr ⟨h2, h3⟩
  · intro j j' t t' h1 h2 hlt
    unfold upd at h1 h2
    split at h1
    · cases h1
    · split at h2
      · cases h2
      · exact h.apart j j' t t' h1 h2 hlt
/-- no part begins where nothing came -/
theorem Cov.none_of (h : Cov f C) {n : Nat} (hn : C n = none) : f n = none := by
  cases hf : f n with
  | none => rfl
  | some v =>
    obtain ⟨k, s, h1, h2, h3, h4⟩ := h.key (x := n) (by rw [hf]; rfl)
    obtain rfl : n = k := by omega
    rw [hn] at h4
    cases h4
end

/-- what came, and D at a behind it: bytes that came first stay -/
def over (C : Nat → Option UInt8) (a : Nat) (D : List UInt8) (n : Nat) : Option UInt8 := (C n).or (if a ≤ n then D[n - a]? else none)
theorem over_some {C : Nat → Option UInt8} {a : Nat} {D : List UInt8} {n : Nat} {c : UInt8} (h : C n = some c) : over C a D n = some c := by simp [over, h]
theorem over_none {C : Nat → Option UInt8} {a : Nat} {D : List UInt8} {n : Nat} (h : C n = none) : over C a D n = if a ≤ n then D[n - a]? else none := by simp [over, h]
end Go.Proofs.YtjdfemfobcjecaaGreat

/-
  inbox: what an inbox is in memory; what only reads; Raise, New, Read, Reset.
-/
namespace Go.Proofs.YtjdfemfobcjecaaGreat
open Go.RowKit

/-- what the parts hold -/
def Ib.rest (o : Ib) : Nat → Option UInt8 := fun n => if o.ready ≤ n then o.B n else none
structure IBox (w : World) (b m : Nat) (o : Ib) : Prop where
  blk : Blk w b 121 #[.int .u64 (o.limit : Int), .int .u64 (o.taken : Int), str (run o.B o.taken o.ready), .map (some m), .int .u64 (o.far : Int), .int .u64 (o.final : Int), .bool o.known, .bool o.reset]
  map : ∃ f, IMap w m .u64 f ∧ Cov f o.rest
  ne : b ≠ m
  wf : o.WF

def IStep (w : World) (b m : Nat) (o' : Ib) (w' : World) : Prop := ∃ m', IBox w' b m' o' ∧ Mod [b, m] w w' ∧ (m' = m ∨ w.heap.size ≤ m')

section
variable {w w' : World} {b m : Nat} {o : Ib}
theorem IBox.mod {F : List Nat} (h : IBox w b m o) (hm : Mod F w w') (h1 : b ∉ F) (h2 : m ∉ F) : IBox w' b m o := by
  obtain ⟨f, hf, hc⟩ := h.map
  exact ⟨hm.blk h.blk h1, ⟨f, hf.mod hm h2, hc⟩, h.ne, h.wf⟩
theorem IBox.mlt (h : IBox w b m o) : m < w.heap.size := by
  obtain ⟨f, hf, hc⟩ := h.map
  exact hf.lt
theorem IBox.c0 (h : IBox w b m o) : w.cell? ⟨b, 0, none⟩ = some (.int .u64 (o.limit : Int)) := h.blk.cell 0
theorem IBox.c1 (h : IBox w b m o) : w.cell? ⟨b, 1, none⟩ = some (.int .u64 (o.taken : Int)) := h.blk.cell 1
theorem IBox.c2 (h : IBox w b m o) : w.cell? ⟨b, 2, none⟩ = some (.string ⟨(run o.B o.taken o.ready).toArray⟩) := h.blk.cell 2
theorem IBox.c3 (h : IBox w b m o) : w.cell? ⟨b, 3, none⟩ = some (.map (some m)) := h.blk.cell 3
theorem IBox.c4 (h : IBox w b m o) : w.cell? ⟨b, 4, none⟩ = some (.int .u64 (o.far : Int)) := h.blk.cell 4
theorem IBox.c5 (h : IBox w b m o) : w.cell? ⟨b, 5, none⟩ = some (.int .u64 (o.final : Int)) := h.blk.cell 5
theorem IBox.c6 (h : IBox w b m o) : w.cell? ⟨b, 6, none⟩ = some (.bool o.known) := h.blk.cell 6
theorem IBox.c7 (h : IBox w b m o) : w.cell? ⟨b, 7, none⟩ = some (.bool o.reset) := h.blk.cell 7
theorem IStep.of_drew (h : IBox w b m o) (n : Nat) : IStep w b m o (w.drewN n) := ⟨m, h.mod ((Mod.refl [] w).drewN n) (by simp) (by simp), (Mod.refl _ _).drewN n, .inl rfl⟩
end

def Ib.top (o : Ib) : Nat := if o.known then o.final else o.far
def Ib.done (o : Ib) : Bool := o.known && (o.taken == o.final)
def Ib.over (o : Ib) : Bool := o.reset || o.done
def Ib.raise (o : Ib) (l : Nat) : Ib := { o with limit := max o.limit (min l 4611686018427387903) }
def Ib.fresh (l : Nat) : Ib := ⟨min l 4611686018427387903, 0, 0, 0, 0, false, false, fun _ => none, []⟩

theorem Ib.WF.final_le {o : Ib} (h : o.WF) : o.final ≤ 4611686018427387903 := by
  cases hk : o.known
  · rw [h.fin0 hk]; omega
  · have := h.fin hk; have := h.lim; omega
theorem Ib.WF.raise {o : Ib} (h : o.WF) (l : Nat) : (o.raise l).WF := by
  have := h.lim
  have := h.top
  exact ⟨by simp only [Ib.raise]; omega, h.tk, h.fill, h.gap, h.bound, by simp only [Ib.raise]; omega, fun hk => by have := h.fin hk; simp only [Ib.raise]; omega, h.fin0, h.supp, h.cut⟩
theorem Ib.WF.fresh (l : Nat) : (Ib.fresh l).WF :=
  ⟨by simp only [Ib.fresh]; omega, by simp [Ib.fresh], by simp [Ib.fresh], by simp [Ib.fresh], by simp [Ib.fresh], by simp [Ib.fresh], by simp [Ib.fresh], by simp [Ib.fresh], by simp [Ib.fresh], by simp [Ib.fresh]⟩

set_option maxHeartbeats 400000 in
theorem ilimit_any (w : World) (b m : Nat) (o : Ib) (h : IBox w b m o) :
    Calls Tryz.prog 47 #[.pointer (some ⟨b, 0, none⟩)] w fun e w' => e = .returned (.int .u64 (o.limit : Nat)) ∧ ∃ n, w' = w.drewN n := by
  have c0 := h.c0
  go_enter Tryz.func47, Tryz.ntmps47
  go_wp2
  go_ret
  exact ⟨rfl, 0, rfl⟩
set_option maxHeartbeats 400000 in
theorem itaken_any (w : World) (b m : Nat) (o : Ib) (h : IBox w b m o) :
    Calls Tryz.prog 48 #[.pointer (some ⟨b, 0, none⟩)] w fun e w' => e = .returned (.int .u64 (o.taken : Nat)) ∧ ∃ n, w' = w.drewN n := by
  have c1 := h.c1
  go_enter Tryz.func48, Tryz.ntmps48
  go_wp2
  go_ret
  exact ⟨rfl, 0, rfl⟩
set_option maxHeartbeats 400000 in
theorem iready_any (w : World) (b m : Nat) (o : Ib) (h : IBox w b m o) :
    Calls Tryz.prog 51 #[.pointer (some ⟨b, 0, none⟩)] w fun e w' => e = .returned (.int .i64 ((o.ready - o.taken : Nat) : Int)) ∧ ∃ n, w' = w.drewN n := by
  have c2 := h.c2
  have hl := run_length o.B o.taken o.ready
  obtain ⟨S, hS⟩ : ∃ S, S = run o.B o.taken o.ready := ⟨_, rfl⟩
  rw [← hS] at c2 hl
  have Hl := hide hl
  clear hS hl
  go_enter Tryz.func51, Tryz.ntmps51
  go_wp2
  go_ret
  exact ⟨by rw [← Hl.out]; rfl, 0, rfl⟩
set_option maxHeartbeats 400000 in
theorem itop_any (w : World) (b m : Nat) (o : Ib) (h : IBox w b m o) :
    Calls Tryz.prog 73 #[.pointer (some ⟨b, 0, none⟩)] w fun e w' => e = .returned (.int .u64 (o.top : Nat)) ∧ ∃ n, w' = w.drewN n := by
  have c4 := h.c4
  have c5 := h.c5
  have c6 := h.c6
  have HT : Hid (o.top = if o.known then o.final else o.far) := hide rfl
  cases hk : o.known
  · rw [hk] at c6 HT
    have Hk := hide hk
    clear hk
    go_enter Tryz.func73, Tryz.ntmps73
    go_wp2
    go_ret
    exact ⟨by rw [HT.out]; rfl, 0, rfl⟩
  · rw [hk] at c6 HT
    have Hk := hide hk
    clear hk
    go_enter Tryz.func73, Tryz.ntmps73
    go_wp2
    go_ret
    exact ⟨by rw [HT.out]; rfl, 0, rfl⟩
set_option maxHeartbeats 400000 in
theorem ifinal_any (w : World) (b m : Nat) (o : Ib) (h : IBox w b m o) :
    Calls Tryz.prog 46 #[.pointer (some ⟨b, 0, none⟩)] w fun e w' => e = .returned (.tuple #[.int .u64 (o.final : Nat), .bool o.known]) ∧ ∃ n, w' = w.drewN n := by
  have c5 := h.c5
  have c6 := h.c6
  go_enter Tryz.func46, Tryz.ntmps46
  go_wp2
  go_quiet (fail)
  go_wp2
  go_ret2
  exact ⟨rfl, _, rfl⟩
set_option maxHeartbeats 400000 in
theorem idone_any (w : World) (b m : Nat) (o : Ib) (h : IBox w b m o) :
    Calls Tryz.prog 76 #[.pointer (some ⟨b, 0, none⟩)] w fun e w' => e = .returned (.bool o.done) ∧ ∃ n, w' = w.drewN n := by
  have c1 := h.c1
  have c5 := h.c5
  have c6 := h.c6
  have HD : Hid (o.done = (o.known && (o.taken == o.final))) := hide rfl
  cases hk : o.known
  · rw [hk] at c6 HD
    clear hk
    go_enter Tryz.func76, Tryz.ntmps76
    go_wp2
    go_quiet (fail)
    go_wp2
    go_ret
    exact ⟨by rw [HD.out]; rfl, _, rfl⟩
  · rw [hk] at c6 HD
    clear hk
    go_enter Tryz.func76, Tryz.ntmps76
    go_wp2
    go_quiet (fail)
    go_wp2
    go_ret
    exact ⟨by rw [HD.out, Bool.true_and]; exact ret_bool (beq_nat _ _), _, rfl⟩
set_option maxHeartbeats 400000 in
theorem iover_any (w : World) (b m : Nat) (o : Ib) (h : IBox w b m o) :
    Calls Tryz.prog 72 #[.pointer (some ⟨b, 0, none⟩)] w fun e w' => e = .returned (.bool o.over) ∧ ∃ n, w' = w.drewN n := by
  have c7 := h.c7
  have HD : Hid (o.over = (o.reset || o.done)) := hide rfl
  cases hk : o.reset
  · rw [hk] at c7 HD
    clear hk
    have hd := idone_any w b m o h
    have Hdn := hide hd
    clear hd h
    go_enter Tryz.func72, Tryz.ntmps72
    go_wp2_with fail
    refine Hdn.out.mono ?_
    rintro e w' ⟨rfl, n, rfl⟩
    go_wp2_with fail
    go_ret
    exact ⟨by rw [HD.out]; rfl, n, rfl⟩
  · rw [hk] at c7 HD
    clear hk
    go_enter Tryz.func72, Tryz.ntmps72
    go_wp2_with fail
    go_ret
    exact ⟨by rw [HD.out]; rfl, 0, rfl⟩

/-- A cell of the struct is written; the parts stay. -/
theorem IBox.set {w : World} {b m : Nat} {o o' : Ib} (h : IBox w b m o) (i : Nat) (u : Value)
    (hc : (#[.int .u64 (o.limit : Int), .int .u64 (o.taken : Int), str (run o.B o.taken o.ready), .map (some m), .int .u64 (o.far : Int), .int .u64 (o.final : Int), .bool o.known, .bool o.reset] : Array Value).setIfInBounds i u =
      #[.int .u64 (o'.limit : Int), .int .u64 (o'.taken : Int), str (run o'.B o'.taken o'.ready), .map (some m), .int .u64 (o'.far : Int), .int .u64 (o'.final : Int), .bool o'.known, .bool o'.reset])
    (hr : o'.rest = o.rest) (hwf : o'.WF) : IBox (w.setCell ⟨b, i, none⟩ u) b m o' := by
  obtain ⟨f, hf, hcv⟩ := h.map
  exact ⟨hc ▸ h.blk.set_ i u, ⟨f, hf.mod ((Mod.refl [b] w).setCell (p := ⟨b, i, none⟩) (.inl (by simp)) u) (by simpa using Ne.symm h.ne), by rw [hr]; exact hcv⟩, h.ne, hwf⟩

set_option maxHeartbeats 400000 in
theorem iraise_any (w : World) (b m : Nat) (o : Ib) (h : IBox w b m o) (l : Nat) (hl : l ≤ 18446744073709551615) :
    Calls Tryz.prog 49 #[.pointer (some ⟨b, 0, none⟩), .int .u64 l] w fun e w' => e = .returned (.tuple #[]) ∧ IStep w b m (o.raise l) w' := by
  have c0 := h.c0
  have f0 := h.blk.frozen 0
  have hlim := h.wf.lim
  have H := hide (h.set (o' := o.raise l) 0 (.int .u64 (max (o.limit : Int) (min (l : Int) 4611686018427387903))) (by
      have : ((max o.limit (min l 4611686018427387903) : Nat) : Int) = max (o.limit : Int) (min (l : Int) 4611686018427387903) := by omega
      simp only [Ib.raise, this]; rfl) rfl (h.wf.raise l))
  clear h
  go_enter Tryz.func49, Tryz.ntmps49
  go_wp2
  go_end0
  exact ⟨rfl, m, H.out, (Mod.refl _ _).setCell (.inl (by simp)) _, .inl rfl⟩

set_option maxHeartbeats 400000 in
theorem inew_any (w : World) (l : Nat) (hl : l ≤ 18446744073709551615) :
    Calls Tryz.prog 62 #[.int .u64 l] w fun e w' => ∃ b m, e = .returned (.pointer (some ⟨b, 0, none⟩)) ∧ IBox w' b m (Ib.fresh l) ∧ Mod [] w w' ∧ w.heap.size ≤ b ∧ w.heap.size ≤ m := by
  have hmm := @run_makeMap Tryz.prog
  go_enter Tryz.func62, Tryz.ntmps62
  go_wp2
  go_ret
  have hrun : str (run (Ib.fresh l).B (Ib.fresh l).taken (Ib.fresh l).ready) = .string ⟨#[]⟩ := by simp [Ib.fresh, run_empty, str]
  have hmin : ((min l 4611686018427387903 : Nat) : Int) = min (l : Int) 4611686018427387903 := by omega
  refine ⟨w.heap.size + 1, w.heap.size, rfl, ⟨?_, ⟨_, (IMap.made w .u64).same (Below.heap_alloc _ _ _ (by simp)), ?_⟩, by omega, Ib.WF.fresh l⟩, ((Mod.refl _ _).alloc _).alloc _, by omega, Nat.le_refl _⟩
  · have := Blk.new (w.alloc (.map #[] 0)) 121 #[.int .u64 (min (l : Int) 4611686018427387903), .int .u64 0, .string ⟨#[]⟩, .map (some w.heap.size), .int .u64 0, .int .u64 0, .bool false, .bool false]
    rw [hrun]
    simp only [World.size_alloc] at this
    simp only [Ib.fresh, hmin]
    exact this
  · exact Cov.empty.congr (fun n => by simp [Ib.rest, Ib.fresh])

/-! ### what may come -/
def Ib.fitErr (o : Ib) (e : Nat) (fin : Bool) : Int :=
  if o.limit < e then 20 else if (o.known = true ∧ (o.final < e ∨ (fin = true ∧ e ≠ o.final))) ∨ (fin = true ∧ e < o.far) then 23 else 0

set_option maxHeartbeats 2000000 in
theorem ifits_any (w : World) (b m : Nat) (o : Ib) (h : IBox w b m o) (e : Nat) (fin : Bool) :
    Calls Tryz.prog 81 #[.pointer (some ⟨b, 0, none⟩), .int .u64 e, .bool fin] w fun x w' => x = .returned (.int .i64 (o.fitErr e fin)) ∧ ∃ n, w' = w.drewN n := by
  have c0 := h.c0
  have c4 := h.c4
  have c5 := h.c5
  have c6 := h.c6
  have HE : Hid (o.fitErr e fin = if o.limit < e then 20 else if (o.known = true ∧ (o.final < e ∨ (fin = true ∧ e ≠ o.final))) ∨ (fin = true ∧ e < o.far) then 23 else 0) := hide rfl
  clear h
  by_cases h1 : o.limit < e
  · have h1' : (o.limit : Int) < e := by omega
    go_enter Tryz.func81, Tryz.ntmps81
    go_wp2
    go_ret
    exact ⟨by rw [HE.out, if_pos h1]; rfl, 0, rfl⟩
  · have h1' : ¬ (o.limit : Int) < e := by omega
    have h4a : ((e : Int) != o.final) = (e != o.final) := by unfold bne; rw [beq_nat]
    cases hk : o.known <;> cases hf : fin
    all_goals
      rw [hk] at c6
      have Hk := hide hk
      have Hf := hide hf
      clear hk hf
      by_cases h2 : o.final < e <;> by_cases h3 : e < o.far <;> by_cases h4 : e = o.final
      all_goals first
        | (exfalso; omega)
        | skip
      all_goals
        have h2' : decide ((o.final : Int) < e) = decide (o.final < e) := decide_eq_decide.2 (by omega)
        have h3' : decide ((e : Int) < o.far) = decide (e < o.far) := decide_eq_decide.2 (by omega)
        have h4' : ((e : Int) != o.final) = !decide (e = o.final) := by rw [h4a]; rfl
        clear h4a
        simp only [h2, decide_true, decide_false] at h2'
        simp only [h3, decide_true, decide_false] at h3'
        first | rw [decide_eq_true h4, Bool.not_true] at h4' | rw [decide_eq_false h4, Bool.not_false] at h4'
        have H4 := hide h4
        clear h4
        go_enter Tryz.func81, Tryz.ntmps81
        go_wp2
        go_ret
        have hE := HE.out
        rw [Hf.out, if_neg h1, Hk.out] at hE
        have h4 := H4.out
        refine ⟨?_, 0, rfl⟩
        rw [hE]
        first
          | (rw [if_pos (by simp <;> omega)]; rfl)
          | (rw [if_neg (by simp <;> omega)]; rfl)
end Go.Proofs.YtjdfemfobcjecaaGreat
