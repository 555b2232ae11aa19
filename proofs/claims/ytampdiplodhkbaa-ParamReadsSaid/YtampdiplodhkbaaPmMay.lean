/-
  parameters: First, May.
-/
import Derived.Test.YtampdiplodhkbaaPm
namespace Go.Proofs.Ytampdiplodhkbaa
open Go.RowKit

structure PP.OK (p : PP) : Prop where
  n : ∀ t, t < 11 → p.N (nkey t) ≤ 18446744073709551615
  s : p.src.size ≤ 9223372036854775807
def pval (p : PP) : Value := .agg (pcells p)
def pfirst (s : ByteArray) : PP := ⟨fun id => if id = 3 then 65527 else if id = 10 then 3 else if id = 11 then 25 else if id = 14 then 2 else 0, false, s⟩

theorem pcells_at (p : PP) (t : Nat) (ht : t < 11) : (pcells p)[t]? = some (.int .u64 (p.N (nkey t) : Nat)) := by
  have : t = 0 ∨ t = 1 ∨ t = 2 ∨ t = 3 ∨ t = 4 ∨ t = 5 ∨ t = 6 ∨ t = 7 ∨ t = 8 ∨ t = 9 ∨ t = 10 := by omega
  rcases this with rfl | rfl | rfl | rfl | rfl | rfl | rfl | rfl | rfl | rfl | rfl <;> rfl

set_option maxHeartbeats 1000000 in
theorem first_any (w : World) (s : ByteArray) :
    Calls Try.prog 20 #[.string s] w fun e w' => e = .returned (pval (pfirst s)) ∧ Mod [] w w' := by
  go_enter Try.func20, Try.ntmps20
  go_wp2_with fail
  exact bodyPost_ret (results_cell_row rfl _ _ w.heap.size 25 (pcells (pfirst s)) (0, 0) _ rfl (heap_alloc_new w _) Try.underlying25 rfl (by kernel_rfl)) rfl ⟨rfl, (Mod.refl _ _).alloc _⟩

theorem empty_size (s : ByteArray) : s.toList.isEmpty = decide (s.size = 0) := by
  have e : s.data.toList.length = s.size := Array.length_toList
  rw [Lib.toList_data, ← e]
  cases s.data.toList <;> simp

/-- may a number be? -/
def small (p : PP) (t : Nat) : Bool := decide (p.N (nkey t) ≤ 4611686018427387903)
def may (p : PP) : Bool := (List.range 11).all (small p) && (decide (1200 ≤ p.N 3) && decide (p.N 3 ≤ 65527) && decide (p.N 10 ≤ 20) && decide (p.N 11 ≤ 16383) && decide (2 ≤ p.N 14) && decide (p.N 8 ≤ 1152921504606846976) && decide (p.N 9 ≤ 1152921504606846976) && decide (p.src.size ≠ 0) && decide (p.src.size ≤ 20))

set_option maxRecDepth 100000 in
set_option maxHeartbeats 4000000 in
theorem may_any (w : World) (p : PP) :
    Calls Try.prog 18 #[pval p] w fun e w' => e = .returned (.bool (may p)) ∧ Mod [] w w' := by
  have hbk := Blk.new w 25 (pcells p)
  have hm0 : Mod [] w (w.alloc (.cells (pcells p) 25)) := (Mod.refl _ _).alloc _
  obtain ⟨cs, hcs⟩ : ∃ cs, pcells p = cs := ⟨_, rfl⟩
  have hat := pcells_at p
  unfold pval
  rw [hcs] at hbk hm0 hat ⊢
  have HAt := hide hat
  have HCs := hide hcs
  clear hat hcs
  go_enter Try.func18, Try.ntmps18
  go_wp2_with fail
  refine (numbers_any _ _).mono ?_
  rintro e w1 ⟨m, rfl, hmw, hmap, m1⟩
  replace hbk := m1.blk hbk (by simp)
  replace m1 := hm0.trans m1 (by simp)
  simp only [World.size_alloc] at hmw
  obtain ⟨w2, cnt, hrun, hit, m2, hsz⟩ := hmap.range (P := Try.prog) (T := 65) Try.underlying65
  replace hbk := m2.blk hbk (by simp)
  replace m1 := m1.trans m2 (by simp)
  have hwb : w.heap.size < w1.heap.size := by have := hmap.lt; omega
  have hmlt := hmap.lt
  clear hm0 m2 hmap
  obtain ⟨r, hr⟩ : ∃ r, w1.heap.size = r := ⟨_, rfl⟩
  rw [hr] at hrun hit hsz hmlt hwb
  clear hr
  go_wp2_with fail
  go_loopw [] (fun wr => ∃ (left : Int → Bool) (c : Nat), IIter wr m r .u64 (numMap w.heap.size) left c ∧ (∀ t, t < 11 → left (nkey t) = false → small p t = true) ∧ Blk wr w.heap.size 25 cs ∧ Mod [] w wr)
    (fun wr => wr.rangeLeft m r)
  case atStart => exact ⟨_, _, hit, fun t ht h => by simp [numMap, pidx_key ht] at h, hbk, m1⟩
  case round =>
    clear hit hbk m1 hrun hsz
    obtain ⟨left, c, hit, hC, hbk, m1⟩ := hrel
    have hrl := hit.lt
    have HC := hide hC
    clear hC
    rcases hit.next (P := Try.prog) 0 with ⟨hz, hl0, hnx⟩ | ⟨x, v, w2, cnt2, hlx, hfx, hnx, hit2, hlt, hm2, hs2, hen⟩
    · have hall : (List.range 11).all (small p) = true := by
        rw [List.all_eq_true]
        intro t ht
        exact HC.out t (List.mem_range.1 ht) (hl0 _)
      have HAll := hide hall
      have HB := hide hbk
      have c1 : wr.cell? ⟨w.heap.size, 1, none⟩ = some (.int .u64 (p.N 3 : Nat)) := (hbk.cell 1).trans (HAt.out 1 (by omega))
      have c6 : wr.cell? ⟨w.heap.size, 6, none⟩ = some (.int .u64 (p.N 8 : Nat)) := (hbk.cell 6).trans (HAt.out 6 (by omega))
      have c7 : wr.cell? ⟨w.heap.size, 7, none⟩ = some (.int .u64 (p.N 9 : Nat)) := (hbk.cell 7).trans (HAt.out 7 (by omega))
      have c8 : wr.cell? ⟨w.heap.size, 8, none⟩ = some (.int .u64 (p.N 10 : Nat)) := (hbk.cell 8).trans (HAt.out 8 (by omega))
      have c9 : wr.cell? ⟨w.heap.size, 9, none⟩ = some (.int .u64 (p.N 11 : Nat)) := (hbk.cell 9).trans (HAt.out 9 (by omega))
      have c10 : wr.cell? ⟨w.heap.size, 10, none⟩ = some (.int .u64 (p.N 14 : Nat)) := (hbk.cell 10).trans (HAt.out 10 (by omega))
      have c12 : wr.cell? ⟨w.heap.size, 12, none⟩ = some (.string p.src) := (hbk.cell 12).trans (by rw [← HCs.out]; rfl)
      have hwl : w.heap.size < wr.heap.size := hbk.lt
      clear hl0 hit hall hz hbk
      by_cases h0 : p.src.size = 0
      all_goals
        have hes : p.src.toList.isEmpty = decide (p.src.size = 0) := empty_size p.src
        first
        | rw [decide_eq_true h0] at hes
        | rw [decide_eq_false h0] at hes
        go_wp2_with fail
        all_goals
          go_ret
          refine ⟨rbool ?_, m1⟩
          unfold may
          rw [HAll.out]
          simp only [Bool.true_and, ← Bool.decide_and]
          symm
          first
          | exact decide_eq_true (by omega)
          | exact decide_eq_false (by omega)
          | exact decide_eq_decide.2 (by omega)
    · have hxs : ∃ t, pidx x = some t ∧ v = pptr w.heap.size t := by
        unfold numMap at hfx
        cases hp : pidx x with
        | none => rw [hp] at hfx; cases hfx
        | some t => rw [hp] at hfx; exact ⟨t, rfl, (Option.some.inj hfx).symm⟩
      obtain ⟨t, hpt, rfl⟩ := hxs
      obtain ⟨ht, rfl⟩ := pidx_some hpt
      have hbk2 := hm2.blk hbk (by simp; omega)
      have m2 := m1.trans hm2 (fun y hy => by simp at hy; right; omega)
      have c0 : w2.cell? ⟨w.heap.size, t, none⟩ = some (.int .u64 (p.N (nkey t) : Nat)) := (hbk2.cell t).trans (HAt.out t ht)
      have hwl : w.heap.size < w2.heap.size := hbk2.lt
      obtain ⟨n, hn⟩ : ∃ n, p.N (nkey t) = n := ⟨_, rfl⟩
      rw [hn] at c0
      have hC' : n ≤ 4611686018427387903 → ∀ t', t' < 11 → (left (nkey t') && !((nkey t' : Int) == (nkey t : Int))) = false → small p t' = true := fun hle t' ht' h => by
        by_cases e : t' = t
        · subst e; unfold small; rw [hn]; simpa using hle
        · refine HC.out t' ht' ?_
          have hk : (nkey t' : Int) ≠ nkey t := fun hk => by
            have e1 := pidx_key ht'
            rw [hk, pidx_key ht] at e1
            exact e (Option.some.inj e1).symm
          simpa [hk] using h
      have HC' := hide hC'
      have Hle := hide hit.left_eq
      have HIT2 := hide hit2
      have HB2 := hide hbk2
      have hbad : 4611686018427387903 < n → may p = false := fun hgt => by
        unfold may
        have : (List.range 11).all (small p) = false := by
          rw [List.all_eq_false]
          exact ⟨t, List.mem_range.2 ht, by unfold small; rw [hn]; simp; omega⟩
        rw [this]; rfl
      have HBad := hide hbad
      unfold pptr at hnx hen
      clear hit hbk m1 HC hit2 hbk2 hfx hlx hpt hn hC' hbad
      by_cases hgt : 4611686018427387903 < n
      · have hgt' : (4611686018427387903 : Int) < n := by omega
        go_wp2_with fail
        go_ret
        exact ⟨rbool (HBad.out hgt).symm, m2⟩
      · have hgt' : ¬ (4611686018427387903 : Int) < n := by omega
        go_wp2_with fail
        go_roundw
        case rel => exact ⟨_, cnt2, HIT2.out, HC'.out (by omega), HB2.out, m2⟩
        case measure => rw [HIT2.out.left_eq, Hle.out]; exact hlt
end Go.Proofs.Ytampdiplodhkbaa
