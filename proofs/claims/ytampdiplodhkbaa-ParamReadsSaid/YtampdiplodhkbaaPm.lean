/-
  parameters: in memory; the walk of numbers.
-/
import Derived.Test.YtampdiplodhkbaaProg
import Derived.Test.YtampdiplodhkbaaVarR
import Derived.Test.YtampdiplodhkbaaMap
import Derived.Test.YtampdiplodhkbaaBag
namespace Go.Proofs.Ytampdiplodhkbaa
open Go.RowKit

structure PP where
  N : Nat → Nat
  mig : Bool
  src : ByteArray

/-- the ids of numbers, as their fields lie -/
def nkey (t : Nat) : Nat := match t with | 0 => 1 | 1 => 3 | 2 => 4 | 3 => 5 | 4 => 6 | 5 => 7 | 6 => 8 | 7 => 9 | 8 => 10 | 9 => 11 | _ => 14
def pidx (x : Int) : Option Nat := match x with | 1 => some 0 | 3 => some 1 | 4 => some 2 | 5 => some 3 | 6 => some 4 | 7 => some 5 | 8 => some 6 | 9 => some 7 | 10 => some 8 | 11 => some 9 | 14 => some 10 | _ => none
def pcells (p : PP) : Array Value := #[.int .u64 (p.N 1 : Nat), .int .u64 (p.N 3 : Nat), .int .u64 (p.N 4 : Nat), .int .u64 (p.N 5 : Nat), .int .u64 (p.N 6 : Nat), .int .u64 (p.N 7 : Nat), .int .u64 (p.N 8 : Nat), .int .u64 (p.N 9 : Nat), .int .u64 (p.N 10 : Nat), .int .u64 (p.N 11 : Nat), .int .u64 (p.N 14 : Nat), .bool p.mig, .string p.src]
def pptr (b t : Nat) : Value := .pointer (some ⟨b, t, none⟩)
def numMap (b : Nat) (x : Int) : Option Value := (pidx x).map (pptr b)

theorem pidx_key {t : Nat} (ht : t < 11) : pidx (nkey t) = some t := by
  match t, ht with
  | 0, _ => rfl
  | 1, _ => rfl
  | 2, _ => rfl
  | 3, _ => rfl
  | 4, _ => rfl
  | 5, _ => rfl
  | 6, _ => rfl
  | 7, _ => rfl
  | 8, _ => rfl
  | 9, _ => rfl
  | 10, _ => rfl
theorem pidx_some {x : Int} {t : Nat} (h : pidx x = some t) : t < 11 ∧ x = nkey t := by
  unfold pidx at h
  split at h <;> first | (cases h; exact ⟨by omega, rfl⟩) | cases h

/-- what the map holds, when the insertions rem are to come -/
structure NInv (W : World) (g b : Nat) (rem : List Nat) (w : World) : Prop where
  map : ∃ f, IMap w g .u64 f ∧ (∀ t, t < 11 → f (nkey t) = if 4 + 4 * t ∈ rem then none else some (pptr b t)) ∧ ∀ x, pidx x = none → f x = none
  mod : Mod [] W w
theorem NInv.done {W w : World} {g b : Nat} (h : NInv W g b [] w) : IMap w g .u64 (numMap b) := by
  obtain ⟨f, hf, h1, h2⟩ := h.map
  have : f = numMap b := by
    funext x
    unfold numMap
    cases hx : pidx x with
    | none => exact h2 x hx
    | some t =>
      obtain ⟨ht, rfl⟩ := pidx_some hx
      rw [h1 t ht]; simp
  rw [← this]; exact hf
theorem NInv.start {W w : World} {g b : Nat} (h : IMap w g .u64 (fun _ => none)) (hm : Mod [] W w) : NInv W g b [4, 8, 12, 16, 20, 24, 28, 32, 36, 40, 44] w :=
  ⟨⟨_, h, fun t ht => by rw [if_pos]; (have : t = 0 ∨ t = 1 ∨ t = 2 ∨ t = 3 ∨ t = 4 ∨ t = 5 ∨ t = 6 ∨ t = 7 ∨ t = 8 ∨ t = 9 ∨ t = 10 := by omega); rcases this with rfl | rfl | rfl | rfl | rfl | rfl | rfl | rfl | rfl | rfl | rfl <;> decide,
    fun _ _ => rfl⟩, hm⟩
theorem NInv.step {W w : World} {g b : Nat} {rem : List Nat} (h : NInv W g b rem w) (hnd : rem.Nodup) (hg : W.heap.size ≤ g) (t : Nat) (ht : t < 11) :
    ∃ w', (Instr.mapUpdate 65 (.map (some g)) (.int .u64 (nkey t)) (pptr b t)).run Try.prog w = .ok () w' ∧ NInv W g b (rem.erase (4 + 4 * t)) w' := by
  obtain ⟨f, hf, h1, h2⟩ := h.map
  obtain ⟨w', hr, hf', hm, _⟩ := hf.update (P := Try.prog) Try.underlying65 Try.underlying23 (nkey t) (pptr b t)
  refine ⟨w', hr, ⟨⟨_, hf', fun t' ht' => ?_, fun x hx => ?_⟩, h.mod.trans hm (fun y hy => by simp at hy; right; omega)⟩⟩
  · unfold upd
    by_cases e : t' = t
    · subst e
      rw [if_pos rfl, if_neg]
      rw [hnd.mem_erase_iff]; simp
    · have hk : (nkey t' : Int) ≠ nkey t := fun hk => by
        have e1 := pidx_key ht'
        rw [hk, pidx_key ht] at e1
        exact e (Option.some.inj e1).symm
      rw [if_neg hk, h1 t' ht']
      simp only [List.mem_erase_of_ne (show 4 + 4 * t' ≠ 4 + 4 * t by omega)]
  · unfold upd
    rw [if_neg]
    · exact h2 x hx
    · rintro rfl
      rw [pidx_key ht] at hx; cases hx

set_option maxRecDepth 100000 in
set_option maxHeartbeats 8000000 in
theorem numbers_any (w : World) (b : Nat) :
    Calls Try.prog 28 #[.pointer (some ⟨b, 0, none⟩)] w fun e w' => ∃ m, e = .returned (.map (some m)) ∧ w.heap.size ≤ m ∧ IMap w' m .u64 (numMap b) ∧ Mod [] w w' := by
  go_enter Try.func28, Try.ntmps28
  go_wp2_with fail
  refine wp_region_noPanic ?_
  refine wp_region_held_drew (S := fun _ => True) (by kernel_rfl) trivial (fun _ => ?_)
  refine take_dst (i := 1) (v := ?_) 4 rfl rfl (by kernel_rfl) (by kernel_rfl) (by kernel_rfl) (fun _ _ _ h => h) (Or.inl ⟨by rfl, ?_⟩) trivial ?_
  rotate_left
  · intro w _; go_simp; first | done | (with_reducible rfl)
  simp only [Act.put, List.setIfInBounds_toArray, List.set_cons_zero, List.set_cons_succ]
  refine take_dst (i := 2) (v := ?_) 5 rfl rfl (by kernel_rfl) (by kernel_rfl) (by kernel_rfl) (fun _ _ _ h => h) (Or.inl ⟨by rfl, ?_⟩) trivial ?_
  rotate_left
  · intro w _; go_simp; first | done | (with_reducible rfl)
  simp only [Act.put, List.setIfInBounds_toArray, List.set_cons_zero, List.set_cons_succ]
  refine take_dst (i := 3) (v := ?_) 6 rfl rfl (by kernel_rfl) (by kernel_rfl) (by kernel_rfl) (fun _ _ _ h => h) (Or.inl ⟨by rfl, ?_⟩) trivial ?_
  rotate_left
  · intro w _; go_simp; first | done | (with_reducible rfl)
  simp only [Act.put, List.setIfInBounds_toArray, List.set_cons_zero, List.set_cons_succ]
  refine take_dst (i := 5) (v := ?_) 7 rfl rfl (by kernel_rfl) (by kernel_rfl) (by kernel_rfl) (fun _ _ _ h => h) (Or.inl ⟨by rfl, ?_⟩) trivial ?_
  rotate_left
  · intro w _; go_simp; first | done | (with_reducible rfl)
  simp only [Act.put, List.setIfInBounds_toArray, List.set_cons_zero, List.set_cons_succ]
  refine take_dst (i := 6) (v := ?_) 8 rfl rfl (by kernel_rfl) (by kernel_rfl) (by kernel_rfl) (fun _ _ _ h => h) (Or.inl ⟨by rfl, ?_⟩) trivial ?_
  rotate_left
  · intro w _; go_simp; first | done | (with_reducible rfl)
  simp only [Act.put, List.setIfInBounds_toArray, List.set_cons_zero, List.set_cons_succ]
  refine take_dst (i := 7) (v := ?_) 9 rfl rfl (by kernel_rfl) (by kernel_rfl) (by kernel_rfl) (fun _ _ _ h => h) (Or.inl ⟨by rfl, ?_⟩) trivial ?_
  rotate_left
  · intro w _; go_simp; first | done | (with_reducible rfl)
  simp only [Act.put, List.setIfInBounds_toArray, List.set_cons_zero, List.set_cons_succ]
  refine take_dst (i := 9) (v := ?_) 10 rfl rfl (by kernel_rfl) (by kernel_rfl) (by kernel_rfl) (fun _ _ _ h => h) (Or.inl ⟨by rfl, ?_⟩) trivial ?_
  rotate_left
  · intro w _; go_simp; first | done | (with_reducible rfl)
  simp only [Act.put, List.setIfInBounds_toArray, List.set_cons_zero, List.set_cons_succ]
  refine take_dst (i := 10) (v := ?_) 11 rfl rfl (by kernel_rfl) (by kernel_rfl) (by kernel_rfl) (fun _ _ _ h => h) (Or.inl ⟨by rfl, ?_⟩) trivial ?_
  rotate_left
  · intro w _; go_simp; first | done | (with_reducible rfl)
  simp only [Act.put, List.setIfInBounds_toArray, List.set_cons_zero, List.set_cons_succ]
  refine take_dst (i := 11) (v := ?_) 12 rfl rfl (by kernel_rfl) (by kernel_rfl) (by kernel_rfl) (fun _ _ _ h => h) (Or.inl ⟨by rfl, ?_⟩) trivial ?_
  rotate_left
  · intro w _; go_simp; first | done | (with_reducible rfl)
  simp only [Act.put, List.setIfInBounds_toArray, List.set_cons_zero, List.set_cons_succ]
  refine take_dst (i := 13) (v := ?_) 13 rfl rfl (by kernel_rfl) (by kernel_rfl) (by kernel_rfl) (fun _ _ _ h => h) (Or.inl ⟨by rfl, ?_⟩) trivial ?_
  rotate_left
  · intro w _; go_simp; first | done | (with_reducible rfl)
  simp only [Act.put, List.setIfInBounds_toArray, List.set_cons_zero, List.set_cons_succ]
  refine take_dst (i := 14) (v := ?_) 14 rfl rfl (by kernel_rfl) (by kernel_rfl) (by kernel_rfl) (fun _ _ _ h => h) (Or.inl ⟨by rfl, ?_⟩) trivial ?_
  rotate_left
  · intro w _; go_simp; first | done | (with_reducible rfl)
  simp only [Act.put, List.setIfInBounds_toArray, List.set_cons_zero, List.set_cons_succ]
  refine take_dst (i := 15) (v := ?_) 15 rfl rfl (by kernel_rfl) (by kernel_rfl) (by kernel_rfl) (fun _ _ _ h => h) (Or.inl ⟨by rfl, ?_⟩) trivial ?_
  rotate_left
  · intro w _; go_simp; first | done | (with_reducible rfl)
  simp only [Act.put, List.setIfInBounds_toArray, List.set_cons_zero, List.set_cons_succ]
  refine take_dst (i := 17) (v := ?_) 16 rfl rfl (by kernel_rfl) (by kernel_rfl) (by kernel_rfl) (fun _ _ _ h => h) (Or.inl ⟨by rfl, ?_⟩) trivial ?_
  rotate_left
  · intro w _; go_simp; first | done | (with_reducible rfl)
  simp only [Act.put, List.setIfInBounds_toArray, List.set_cons_zero, List.set_cons_succ]
  refine take_dst (i := 18) (v := ?_) 17 rfl rfl (by kernel_rfl) (by kernel_rfl) (by kernel_rfl) (fun _ _ _ h => h) (Or.inl ⟨by rfl, ?_⟩) trivial ?_
  rotate_left
  · intro w _; go_simp; first | done | (with_reducible rfl)
  simp only [Act.put, List.setIfInBounds_toArray, List.set_cons_zero, List.set_cons_succ]
  refine take_dst (i := 19) (v := ?_) 18 rfl rfl (by kernel_rfl) (by kernel_rfl) (by kernel_rfl) (fun _ _ _ h => h) (Or.inl ⟨by rfl, ?_⟩) trivial ?_
  rotate_left
  · intro w _; go_simp; first | done | (with_reducible rfl)
  simp only [Act.put, List.setIfInBounds_toArray, List.set_cons_zero, List.set_cons_succ]
  refine take_dst (i := 21) (v := ?_) 19 rfl rfl (by kernel_rfl) (by kernel_rfl) (by kernel_rfl) (fun _ _ _ h => h) (Or.inl ⟨by rfl, ?_⟩) trivial ?_
  rotate_left
  · intro w _; go_simp; first | done | (with_reducible rfl)
  simp only [Act.put, List.setIfInBounds_toArray, List.set_cons_zero, List.set_cons_succ]
  refine take_dst (i := 22) (v := ?_) 20 rfl rfl (by kernel_rfl) (by kernel_rfl) (by kernel_rfl) (fun _ _ _ h => h) (Or.inl ⟨by rfl, ?_⟩) trivial ?_
  rotate_left
  · intro w _; go_simp; first | done | (with_reducible rfl)
  simp only [Act.put, List.setIfInBounds_toArray, List.set_cons_zero, List.set_cons_succ]
  refine take_dst (i := 23) (v := ?_) 21 rfl rfl (by kernel_rfl) (by kernel_rfl) (by kernel_rfl) (fun _ _ _ h => h) (Or.inl ⟨by rfl, ?_⟩) trivial ?_
  rotate_left
  · intro w _; go_simp; first | done | (with_reducible rfl)
  simp only [Act.put, List.setIfInBounds_toArray, List.set_cons_zero, List.set_cons_succ]
  refine take_dst (i := 25) (v := ?_) 22 rfl rfl (by kernel_rfl) (by kernel_rfl) (by kernel_rfl) (fun _ _ _ h => h) (Or.inl ⟨by rfl, ?_⟩) trivial ?_
  rotate_left
  · intro w _; go_simp; first | done | (with_reducible rfl)
  simp only [Act.put, List.setIfInBounds_toArray, List.set_cons_zero, List.set_cons_succ]
  refine take_dst (i := 26) (v := ?_) 23 rfl rfl (by kernel_rfl) (by kernel_rfl) (by kernel_rfl) (fun _ _ _ h => h) (Or.inl ⟨by rfl, ?_⟩) trivial ?_
  rotate_left
  · intro w _; go_simp; first | done | (with_reducible rfl)
  simp only [Act.put, List.setIfInBounds_toArray, List.set_cons_zero, List.set_cons_succ]
  refine take_dst (i := 27) (v := ?_) 24 rfl rfl (by kernel_rfl) (by kernel_rfl) (by kernel_rfl) (fun _ _ _ h => h) (Or.inl ⟨by rfl, ?_⟩) trivial ?_
  rotate_left
  · intro w _; go_simp; first | done | (with_reducible rfl)
  simp only [Act.put, List.setIfInBounds_toArray, List.set_cons_zero, List.set_cons_succ]
  refine take_dst (i := 29) (v := ?_) 25 rfl rfl (by kernel_rfl) (by kernel_rfl) (by kernel_rfl) (fun _ _ _ h => h) (Or.inl ⟨by rfl, ?_⟩) trivial ?_
  rotate_left
  · intro w _; go_simp; first | done | (with_reducible rfl)
  simp only [Act.put, List.setIfInBounds_toArray, List.set_cons_zero, List.set_cons_succ]
  refine take_dst (i := 30) (v := ?_) 26 rfl rfl (by kernel_rfl) (by kernel_rfl) (by kernel_rfl) (fun _ _ _ h => h) (Or.inl ⟨by rfl, ?_⟩) trivial ?_
  rotate_left
  · intro w _; go_simp; first | done | (with_reducible rfl)
  simp only [Act.put, List.setIfInBounds_toArray, List.set_cons_zero, List.set_cons_succ]
  refine take_dst (i := 31) (v := ?_) 27 rfl rfl (by kernel_rfl) (by kernel_rfl) (by kernel_rfl) (fun _ _ _ h => h) (Or.inl ⟨by rfl, ?_⟩) trivial ?_
  rotate_left
  · intro w _; go_simp; first | done | (with_reducible rfl)
  simp only [Act.put, List.setIfInBounds_toArray, List.set_cons_zero, List.set_cons_succ]
  refine take_dst (i := 33) (v := ?_) 28 rfl rfl (by kernel_rfl) (by kernel_rfl) (by kernel_rfl) (fun _ _ _ h => h) (Or.inl ⟨by rfl, ?_⟩) trivial ?_
  rotate_left
  · intro w _; go_simp; first | done | (with_reducible rfl)
  simp only [Act.put, List.setIfInBounds_toArray, List.set_cons_zero, List.set_cons_succ]
  refine take_dst (i := 34) (v := ?_) 29 rfl rfl (by kernel_rfl) (by kernel_rfl) (by kernel_rfl) (fun _ _ _ h => h) (Or.inl ⟨by rfl, ?_⟩) trivial ?_
  rotate_left
  · intro w _; go_simp; first | done | (with_reducible rfl)
  simp only [Act.put, List.setIfInBounds_toArray, List.set_cons_zero, List.set_cons_succ]
  refine take_dst (i := 35) (v := ?_) 30 rfl rfl (by kernel_rfl) (by kernel_rfl) (by kernel_rfl) (fun _ _ _ h => h) (Or.inl ⟨by rfl, ?_⟩) trivial ?_
  rotate_left
  · intro w _; go_simp; first | done | (with_reducible rfl)
  simp only [Act.put, List.setIfInBounds_toArray, List.set_cons_zero, List.set_cons_succ]
  refine take_dst (i := 37) (v := ?_) 31 rfl rfl (by kernel_rfl) (by kernel_rfl) (by kernel_rfl) (fun _ _ _ h => h) (Or.inl ⟨by rfl, ?_⟩) trivial ?_
  rotate_left
  · intro w _; go_simp; first | done | (with_reducible rfl)
  simp only [Act.put, List.setIfInBounds_toArray, List.set_cons_zero, List.set_cons_succ]
  refine take_dst (i := 38) (v := ?_) 32 rfl rfl (by kernel_rfl) (by kernel_rfl) (by kernel_rfl) (fun _ _ _ h => h) (Or.inl ⟨by rfl, ?_⟩) trivial ?_
  rotate_left
  · intro w _; go_simp; first | done | (with_reducible rfl)
  simp only [Act.put, List.setIfInBounds_toArray, List.set_cons_zero, List.set_cons_succ]
  refine take_dst (i := 39) (v := ?_) 33 rfl rfl (by kernel_rfl) (by kernel_rfl) (by kernel_rfl) (fun _ _ _ h => h) (Or.inl ⟨by rfl, ?_⟩) trivial ?_
  rotate_left
  · intro w _; go_simp; first | done | (with_reducible rfl)
  simp only [Act.put, List.setIfInBounds_toArray, List.set_cons_zero, List.set_cons_succ]
  refine take_dst (i := 41) (v := ?_) 34 rfl rfl (by kernel_rfl) (by kernel_rfl) (by kernel_rfl) (fun _ _ _ h => h) (Or.inl ⟨by rfl, ?_⟩) trivial ?_
  rotate_left
  · intro w _; go_simp; first | done | (with_reducible rfl)
  simp only [Act.put, List.setIfInBounds_toArray, List.set_cons_zero, List.set_cons_succ]
  refine take_dst (i := 42) (v := ?_) 35 rfl rfl (by kernel_rfl) (by kernel_rfl) (by kernel_rfl) (fun _ _ _ h => h) (Or.inl ⟨by rfl, ?_⟩) trivial ?_
  rotate_left
  · intro w _; go_simp; first | done | (with_reducible rfl)
  simp only [Act.put, List.setIfInBounds_toArray, List.set_cons_zero, List.set_cons_succ]
  refine take_dst (i := 43) (v := ?_) 36 rfl rfl (by kernel_rfl) (by kernel_rfl) (by kernel_rfl) (fun _ _ _ h => h) (Or.inl ⟨by rfl, ?_⟩) trivial ?_
  rotate_left
  · intro w _; go_simp; first | done | (with_reducible rfl)
  simp only [Act.put, List.setIfInBounds_toArray, List.set_cons_zero, List.set_cons_succ]
  refine wpAnyH_ready (rs := [0]) (by kernel_rfl) (by simp) ?_
  refine AllReadyH.cons rfl (fun K hK => ?_) AllReadyH.nil
  rw [if_pos (by rfl)]
  unfold Oper.wp
  show Oper.upon _ _ _ _ _ ((Sem.run Try.prog (Instr.makeMap 65 none) w.drew).andThen fun a w' => Result.ok (Next.value a) w')
  rw [run_makeMap]
  show Oper.upon _ _ _ _ _ (Result.ok (Next.value _) _)
  rw [Oper.upon_value]
  change K (Act.put _ (some 3) _) _
  refine hK.out _ _ trivial (fun _ => ?_)
  simp only [Act.put, List.setIfInBounds_toArray, List.set_cons_zero, List.set_cons_succ]
  clear hK K
  have hm0 : IMap (w.drew.alloc (.map #[] 0)) w.heap.size .u64 (fun _ => none) := IMap.made w.drew .u64
  have hmod0 : Mod [] w (w.drew.alloc (.map #[] 0)) := (Mod.refl [] w).drew.alloc _
  have hin := NInv.start (b := b) hm0 hmod0
  refine wpAnyH_bag [45, 46] [4, 8, 12, 16, 20, 24, 28, 32, 36, 40, 44] (NInv w w.heap.size b) (Array.replicate 45 true ++ #[false, false]) 2 _ (by decide) (by decide) ?deps ?tail ?step ⟨by rfl, by decide +kernel⟩ ?fin 11 [4, 8, 12, 16, 20, 24, 28, 32, 36, 40, 44] _ _ rfl (by decide) (fun _ h => h) ⟨by rfl, by decide +kernel⟩ hin trivial
  case deps =>
    intro i hi
    simp only [List.mem_cons, List.not_mem_nil, or_false] at hi
    rcases hi with rfl | rfl | rfl | rfl | rfl | rfl | rfl | rfl | rfl | rfl | rfl
    all_goals exact ⟨_, rfl, by decide⟩
  case tail =>
    intro j hj
    simp only [List.mem_cons, List.not_mem_nil, or_false] at hj
    rcases hj with rfl | rfl
    · exact ⟨_, rfl, .inl (by decide)⟩
    · exact ⟨_, rfl, .inr (by decide)⟩
  case step =>
    intro rem i w1 hi hnd hsub hinv _
    have hi0 := hsub i hi
    simp only [List.mem_cons, List.not_mem_nil, or_false] at hi0
    rcases hi0 with rfl | rfl | rfl | rfl | rfl | rfl | rfl | rfl | rfl | rfl | rfl
    · obtain ⟨w', hr, hinv'⟩ := hinv.step hnd (Nat.le_refl _) 0 (by decide)
      replace hr : (Instr.mapUpdate 65 (.map (some w.heap.size)) (.int .u64 1) (.pointer (some ⟨b, 0, none⟩))).run Try.prog w1 = .ok () w' := hr
      refine wpOp_step rfl (fun K hK => ?_)
      go_simp
      exact hK _ _ ⟨rfl, trivial, hinv'⟩
    · obtain ⟨w', hr, hinv'⟩ := hinv.step hnd (Nat.le_refl _) 1 (by decide)
      replace hr : (Instr.mapUpdate 65 (.map (some w.heap.size)) (.int .u64 3) (.pointer (some ⟨b, 1, none⟩))).run Try.prog w1 = .ok () w' := hr
      refine wpOp_step rfl (fun K hK => ?_)
      go_simp
      exact hK _ _ ⟨rfl, trivial, hinv'⟩
    · obtain ⟨w', hr, hinv'⟩ := hinv.step hnd (Nat.le_refl _) 2 (by decide)
      replace hr : (Instr.mapUpdate 65 (.map (some w.heap.size)) (.int .u64 4) (.pointer (some ⟨b, 2, none⟩))).run Try.prog w1 = .ok () w' := hr
      refine wpOp_step rfl (fun K hK => ?_)
      go_simp
      exact hK _ _ ⟨rfl, trivial, hinv'⟩
    · obtain ⟨w', hr, hinv'⟩ := hinv.step hnd (Nat.le_refl _) 3 (by decide)
      replace hr : (Instr.mapUpdate 65 (.map (some w.heap.size)) (.int .u64 5) (.pointer (some ⟨b, 3, none⟩))).run Try.prog w1 = .ok () w' := hr
      refine wpOp_step rfl (fun K hK => ?_)
      go_simp
      exact hK _ _ ⟨rfl, trivial, hinv'⟩
    · obtain ⟨w', hr, hinv'⟩ := hinv.step hnd (Nat.le_refl _) 4 (by decide)
      replace hr : (Instr.mapUpdate 65 (.map (some w.heap.size)) (.int .u64 6) (.pointer (some ⟨b, 4, none⟩))).run Try.prog w1 = .ok () w' := hr
      refine wpOp_step rfl (fun K hK => ?_)
      go_simp
      exact hK _ _ ⟨rfl, trivial, hinv'⟩
    · obtain ⟨w', hr, hinv'⟩ := hinv.step hnd (Nat.le_refl _) 5 (by decide)
      replace hr : (Instr.mapUpdate 65 (.map (some w.heap.size)) (.int .u64 7) (.pointer (some ⟨b, 5, none⟩))).run Try.prog w1 = .ok () w' := hr
      refine wpOp_step rfl (fun K hK => ?_)
      go_simp
      exact hK _ _ ⟨rfl, trivial, hinv'⟩
    · obtain ⟨w', hr, hinv'⟩ := hinv.step hnd (Nat.le_refl _) 6 (by decide)
      replace hr : (Instr.mapUpdate 65 (.map (some w.heap.size)) (.int .u64 8) (.pointer (some ⟨b, 6, none⟩))).run Try.prog w1 = .ok () w' := hr
      refine wpOp_step rfl (fun K hK => ?_)
      go_simp
      exact hK _ _ ⟨rfl, trivial, hinv'⟩
    · obtain ⟨w', hr, hinv'⟩ := hinv.step hnd (Nat.le_refl _) 7 (by decide)
      replace hr : (Instr.mapUpdate 65 (.map (some w.heap.size)) (.int .u64 9) (.pointer (some ⟨b, 7, none⟩))).run Try.prog w1 = .ok () w' := hr
      refine wpOp_step rfl (fun K hK => ?_)
      go_simp
      exact hK _ _ ⟨rfl, trivial, hinv'⟩
    · obtain ⟨w', hr, hinv'⟩ := hinv.step hnd (Nat.le_refl _) 8 (by decide)
      replace hr : (Instr.mapUpdate 65 (.map (some w.heap.size)) (.int .u64 10) (.pointer (some ⟨b, 8, none⟩))).run Try.prog w1 = .ok () w' := hr
      refine wpOp_step rfl (fun K hK => ?_)
      go_simp
      exact hK _ _ ⟨rfl, trivial, hinv'⟩
    · obtain ⟨w', hr, hinv'⟩ := hinv.step hnd (Nat.le_refl _) 9 (by decide)
      replace hr : (Instr.mapUpdate 65 (.map (some w.heap.size)) (.int .u64 11) (.pointer (some ⟨b, 9, none⟩))).run Try.prog w1 = .ok () w' := hr
      refine wpOp_step rfl (fun K hK => ?_)
      go_simp
      exact hK _ _ ⟨rfl, trivial, hinv'⟩
    · obtain ⟨w', hr, hinv'⟩ := hinv.step hnd (Nat.le_refl _) 10 (by decide)
      replace hr : (Instr.mapUpdate 65 (.map (some w.heap.size)) (.int .u64 14) (.pointer (some ⟨b, 10, none⟩))).run Try.prog w1 = .ok () w' := hr
      refine wpOp_step rfl (fun K hK => ?_)
      go_simp
      exact hK _ _ ⟨rfl, trivial, hinv'⟩
  case fin =>
    intro w1 hinv _

    refine take_dst (i := 45) (v := ?_) 37 rfl rfl (by kernel_rfl) (by kernel_rfl) (by kernel_rfl) (fun _ _ _ h => h) (Or.inl ⟨by rfl, ?_⟩) trivial ?_
    rotate_left
    · intro w _; go_simp; first | done | (with_reducible rfl)
    simp only [Act.put, List.setIfInBounds_toArray, List.set_cons_zero, List.set_cons_succ]
    refine take_dst (i := 46) (v := ?_) 2 rfl rfl (by kernel_rfl) (by kernel_rfl) (by kernel_rfl) (fun _ _ _ h => h) (Or.inl ⟨by rfl, ?_⟩) trivial ?_
    rotate_left
    · intro w _; go_simp; first | done | (with_reducible rfl)
    simp only [Act.put, List.setIfInBounds_toArray, List.set_cons_zero, List.set_cons_succ]
    refine wpAnyH_done (by kernel_rfl) (NoPanic.normal ?_) _
    go_wp2_with fail
    go_ret
    exact ⟨_, rfl, Nat.le_refl _, hinv.done, hinv.mod⟩
end Go.Proofs.Ytampdiplodhkbaa
