/-
  strings.Clone; delete on a map keyed by an integer kind.
-/
import Derived.Test.YtfbcbddfmiiilaaSoSorted
import Derived.Shelf.Strconv.Clone
namespace Go.Proofs.Ytfbcbddfmiiilaa
open Go.RowKit

def cloneRen : Go.Shelf.Ren := ⟨fun | 316 => 29 | n => n, fun | 0 => 0 | 3 => 3 | 4 => 4 | 5 => 5 | 9 => 9 | 37 => 23 | 127 => 63 | n => n, fun n => n⟩
theorem cloneLays : Go.Proofs.LaysM.n316 Try.prog cloneRen := {
  mixed := by kernel_rfl,
  f316 := Try.func29.trans (congrArg some (by kernel_rfl)),
  t0 := Try.underlying0,
  a0 := Try.isAgg0,
  z0 := Try.sizeOf0,
  v0 := Try.zeroValue0,
  t3 := Try.underlying3,
  a3 := Try.isAgg3,
  z3 := Try.sizeOf3,
  v3 := Try.zeroValue3,
  t4 := Try.underlying4,
  a4 := Try.isAgg4,
  z4 := Try.sizeOf4,
  v4 := Try.zeroValue4,
  t9 := Try.underlying9,
  a9 := Try.isAgg9,
  z9 := Try.sizeOf9,
  v9 := Try.zeroValue9,
  t37 := Try.underlying23,
  a37 := Try.isAgg23,
  z37 := Try.sizeOf23,
  v37 := Try.zeroValue23,
  t127 := Try.underlying63,
  a127 := Try.isAgg63,
  z127 := Try.sizeOf63,
  v127 := Try.zeroValue63,
  t5 := Try.underlying5,
  a5 := Try.isAgg5,
  z5 := Try.sizeOf5,
  v5 := Try.zeroValue5,
  i0 := by kernel_rfl,
  i3 := by kernel_rfl,
  i4 := by kernel_rfl,
  i5 := by kernel_rfl,
  i9 := by kernel_rfl,
  i37 := by kernel_rfl,
  i127 := by kernel_rfl }

set_option maxHeartbeats 400000 in
theorem clone_any (w : World) (s : ByteArray) (h : s.size ≤ 281474976710656) :
    Calls Try.prog 25 #[.string s] w fun e w' => e = .returned (.string s) ∧ Mod [] w w' := by
  have hc : Calls Try.prog 29 #[.string s] w _ := Any.stringslite_Clone cloneLays s w h
  go_enter Try.func25, Try.ntmps25
  go_wp2_with fail
  refine hc.mono ?_
  rintro e w' ⟨rfl, hb⟩
  go_wp2_with fail
  go_ret
  exact ⟨rfl, Mod.of_below hb⟩

/-- how many entries a map has: for a loop's measure -/
def mapLen (w : World) (b : Nat) : Nat := match w.heap[b]? with | some (.map es _) => es.size | _ => 0

section
variable {P : Program} {w : World} {b : Nat} {q : IntKind} {f : Int → Option Value} {T K E : TypeId}
theorem eraseIdx_split {α : Type} (l : List α) (j : Nat) (hj : j < l.length) : l = l.take j ++ l[j] :: l.drop (j + 1) ∧ l.eraseIdx j = l.take j ++ l.drop (j + 1) :=
  ⟨by rw [List.getElem_cons_drop]; exact (List.take_append_drop j l).symm, List.eraseIdx_eq_take_drop_succ l j⟩
theorem entAt_erase {es : List MapEntry} {clock : Nat} (F : Ents q es clock) {x : Int} {j : Nat} (h : es.findIdx? (keyIs q x) = some j) (y : Int) :
    entAt q (es.eraseIdx j) y = if y = x then none else entAt q es y := by
  obtain ⟨hj, _, hkj⟩ := entAt_some _ _ h
  obtain ⟨e1, e2⟩ := eraseIdx_split es j hj
  have hap := F.apart
  by_cases hyx : y = x
  · subst hyx
    rw [if_pos rfl]
    unfold entAt
    rw [List.find?_eq_none.2, Option.map_none]
    intro e he hke
    have hke' := keyIs_iff.1 hke
    rw [e1, List.pairwise_append, List.pairwise_cons] at hap
    rw [e2, List.mem_append] at he
    rcases he with he | he
    · exact hap.2.2 e he es[j] (List.Mem.head _) (by rw [hke', hkj])
    · exact hap.2.1.1 e he (by rw [hke', hkj])
  · rw [if_neg hyx]
    have hn : keyIs q y es[j] = false := by
      cases hk : keyIs q y es[j]
      · rfl
      · rw [keyIs_iff, hkj] at hk
        cases hk
        exact absurd rfl hyx
    unfold entAt
    congr 1
    rw [e2]
    conv => rhs; rw [e1]
    rw [List.find?_append, List.find?_append, List.find?_cons, hn]
theorem IMap.delete (h : IMap w b q f) (ht : P.underlying T = some (.map K E)) (hk : P.underlying K = some (.int q)) (x : Int) (hx : (f x).isSome = true) (ty : TypeId) :
    ∃ w', (Builtin.delete_ #[T, K] ty #[.map (some b), .int q x]).run P w = .ok (.tuple #[]) w' ∧ IMap w' b q (upd f x none) ∧ Mod [b] w w' ∧ w'.heap.size = w.heap.size ∧ mapLen w' b < mapLen w b := by
  obtain ⟨es, clock, hb, F, hf⟩ := h
  have hfk := run_findKey_int (P := P) hk x es.toList F.keys w
  cases hidx : es.toList.findIdx? (keyIs q x) with
  | none =>
    rw [hf, entAt_none _ _ hidx] at hx
    cases hx
  | some j =>
    obtain ⟨hj, hval, hkj⟩ := entAt_some _ _ hidx
    have hj' : j < es.size := by simpa using hj
    refine ⟨ChangeMaps.setBlock w b (.map (es.eraseIdxIfInBounds j) clock), ?_, ?_, setBlock_mod _ _ _, by simp [ChangeMaps.setBlock], ?_⟩
    · rw [hidx] at hfk
      have e1 : es.toList[j]? = some es.toList[j] := List.getElem?_eq_getElem hj
      simp only [Option.bind_some, e1, Option.map_some] at hfk
      simp [Builtin.delete_, run_underlying ht, MapKept.run_getObj_map hb, run_checkKey_int hk, hfk, MapKept.run_setObj_map _ hb, Result.andThen, ChangeMaps.setBlock]
    · have e2 : (es.eraseIdxIfInBounds j).toList = es.toList.eraseIdx j := by
        rw [Array.eraseIdxIfInBounds, dif_pos hj', Array.toList_eraseIdx]
      have hsub : (es.toList.eraseIdx j).Sublist es.toList := List.eraseIdx_sublist _ _
      refine ⟨_, _, ChangeMaps.heap_setBlock_same hb _, ?_, ?_⟩
      · rw [e2]
        exact ⟨fun e he => F.keys e (hsub.subset he), F.apart.sublist hsub, fun e he => F.born e (hsub.subset he), (F.stamps.sublist (hsub.map _))⟩
      · intro y
        rw [e2, entAt_erase F hidx y]
        unfold upd
        rw [hf]
    · unfold mapLen
      rw [ChangeMaps.heap_setBlock_same hb _, hb]
      simp only [Array.eraseIdxIfInBounds, dif_pos hj', Array.size_eraseIdx]
      omega
end
end Go.Proofs.Ytfbcbddfmiiilaa
