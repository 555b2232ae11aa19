/-
  parameters: the document's May; the statements' own and same.
-/
import Derived.Test.YtampdiplodhkbaaPmRef
namespace Go.Proofs.Ytampdiplodhkbaa
open Go.RowKit

theorem small_all {p : PP} (hs : p.Std) : (List.range 11).all (small p) = true ↔ ∀ i, i < 15 → p.N i < 4611686018427387904 := by
  rw [List.all_eq_true]
  constructor
  · intro h i hi
    cases hp : pidx (i : Int) with
    | none => rw [hs i hp]; omega
    | some t =>
      obtain ⟨ht, he⟩ := pidx_some hp
      have e : i = nkey t := by omega
      have := h t (List.mem_range.2 ht)
      unfold small at this
      rw [e]
      simp at this
      omega
  · intro h t ht
    unfold small
    have := h (nkey t) (nkey_lt t)
    simp; omega

set_option maxRecDepth 100000 in
set_option maxHeartbeats 4000000 in
theorem rmay_any (w : World) (g : Nat) (p : PP) (hs : p.Std) (hb : Blk w g 23 (rcells p)) :
    Calls Try.prog 19 #[rval g p] w fun e w' => e = .returned (.bool (may p)) ∧ Mod [] w w' := by
  have hall := small_all hs
  have hat := fun i hi => (hb.cell i).trans (rcells_at hs (i := i) hi)
  have hgl := hb.lt
  have hmm : may p = ((List.range 11).all (small p) && (decide (1200 ≤ p.N 3) && decide (p.N 3 ≤ 65527) && decide (p.N 10 ≤ 20) && decide (p.N 11 ≤ 16383) && decide (2 ≤ p.N 14) && decide (p.N 8 ≤ 1152921504606846976) && decide (p.N 9 ≤ 1152921504606846976) && decide (p.src.size ≠ 0) && decide (p.src.size ≤ 20))) := rfl
  have HAll := hide hall
  have HAt := hide hat
  have HMm := hide hmm
  clear hs hb hall hat hmm
  unfold rval
  go_enter Try.func19, Try.ntmps19
  go_wp2_with fail
  go_loop [3] (fun iv => ∃ j : Nat, j ≤ 15 ∧ iv = .int .i64 (j : Int) ∧ ∀ i, i < j → p.N i < 4611686018427387904) (fun iv => 15 - (intOf iv).toNat)
  case atStart => exact ⟨0, by omega, rfl, fun i hi => by omega⟩
  case round =>
    obtain ⟨j, hj, rfl, hC⟩ := hrel
    have HC := hide hC
    clear hC
    by_cases h : j < 15
    · have c0 := HAt.out j h
      obtain ⟨n, hn⟩ : ∃ n, p.N j = n := ⟨_, rfl⟩
      rw [hn] at c0
      have hC' : n < 4611686018427387904 → ∀ i, i < j + 1 → p.N i < 4611686018427387904 := fun hlt i hi => by
        by_cases e : i = j
        · subst e; rw [hn]; exact hlt
        · exact HC.out i (by omega)
      have hbad : ¬ n < 4611686018427387904 → may p = false := fun hge => by
        have : (List.range 11).all (small p) = false := by
          cases ha : (List.range 11).all (small p)
          · rfl
          · exact absurd (HAll.out.1 ha j h) (by rw [hn]; exact hge)
        rw [HMm.out, this]; rfl
      have HC' := hide hC'
      have HBad := hide hbad
      clear hn hC' hbad
      by_cases hgt : n < 4611686018427387904
      · have hgt' : ¬ (4611686018427387904 : Int) ≤ n := by omega
        go_wp2_with fail
        go_round
        case rel => exact ⟨j + 1, by omega, by go_num, HC'.out hgt⟩
        case measure => simp [intOf]; omega
      · have hgt' : (4611686018427387904 : Int) ≤ n := by omega
        go_wp2_with fail
        go_ret
        exact ⟨by rw [HBad.out hgt]; rfl, (Mod.refl _ _).alloc _⟩
    · have hj15 : j = 15 := by omega
      subst hj15
      have hal := HAll.out.2 HC.out
      have HAl := hide hal
      have d3 := HAt.out 3 (by omega)
      have d8 := HAt.out 8 (by omega)
      have d9 := HAt.out 9 (by omega)
      have d10 := HAt.out 10 (by omega)
      have d11 := HAt.out 11 (by omega)
      have d14 := HAt.out 14 (by omega)
      clear hal HC HAll
      go_wp2_with fail
      all_goals
        go_ret
        refine ⟨rbool ?_, (Mod.refl _ _).alloc _⟩
        rw [HMm.out, HAl.out]
        simp only [Bool.true_and, ← Bool.decide_and]
        symm
        first
        | exact decide_eq_true (by omega)
        | exact decide_eq_false (by omega)
        | exact decide_eq_decide.2 (by omega)

set_option maxRecDepth 100000 in
set_option maxHeartbeats 4000000 in
theorem own_any (w : World) (p : PP) :
    Calls Try.prog 17 #[pval p] w fun e w' => ∃ g, e = .returned (rval g p) ∧ Blk w' g 23 (rcells p) ∧ w.heap.size ≤ g ∧ Mod [] w w' := by
  unfold pval pcells
  go_enter Try.func17, Try.ntmps17
  go_wp2_with fail
  refine bodyPost_ret (results_cell_row rfl _ _ (w.heap.size + 1) 31 #[.slice (some ⟨w.heap.size + 2, 0, none⟩) 15 15, .bool p.mig, .string p.src] (0, 0) _ rfl ?_ Try.underlying31 rfl (by kernel_rfl)) rfl ⟨w.heap.size + 2, rfl, ?_, by omega, ?_⟩
  · have := Blk.new (w.alloc (.cells (pcells p) 25)) 31 #[.slice (some ⟨w.heap.size + 2, 0, none⟩) 15 15, .bool p.mig, .string p.src]
    rw [World.size_alloc] at this
    exact this.alloc _
  · have := Blk.new ((w.alloc (.cells (pcells p) 25)).alloc (.cells #[.slice (some ⟨w.heap.size + 2, 0, none⟩) 15 15, .bool p.mig, .string p.src] 31)) 23 (rcells p)
    rw [World.size_alloc, World.size_alloc] at this
    exact this
  · exact (((Mod.refl _ _).alloc _).alloc _).alloc _
end Go.Proofs.Ytampdiplodhkbaa
