/-
  slices.insertionSortOrdered[uint64].
-/
import Derived.Test.YtampdiplodhkbaaSoRow
namespace Go.Proofs.Ytampdiplodhkbaa
open Go.RowKit Go.Sort

theorem insInner_yes {a m : Nat} {d : Array Int} (ha : a ≤ m) (hl : ltInt d[m + 1]! d[m]! = true) : insInner ltInt a (m + 1) d = insInner ltInt a m (swp d (m + 1) m) := by
  rw [insInner, hl]
  simp [Nat.lt_succ_of_le ha]
theorem insInner_no {a m : Nat} {d : Array Int} (hl : ltInt d[m + 1]! d[m]! = false) : insInner ltInt a (m + 1) d = d := by
  rw [insInner, hl]
  simp
theorem insInner_low {a j : Nat} {d : Array Int} (h : j ≤ a) : insInner ltInt a j d = d := by
  cases j with
  | zero => rw [insInner]
  | succ k => rw [insInner]; simp [show ¬ k + 1 > a by omega]

set_option maxHeartbeats 2000000 in
theorem insertion_u64 (w : World) (g cap a b : Nat) (d : Array Int) (R : List Value) (h : Row w g d R) (hb : b ≤ d.size) (hsz : d.size ≤ 1099511627776) (len : Nat) (hlen : d.size = len) (ha : a ≤ b) :
    Calls Try.prog 55 #[.slice (some ⟨g, 0, none⟩) len cap, .int .i64 a, .int .i64 b] w fun e w' =>
      e = .returned (.tuple #[]) ∧ Row w' g (insertionSort ltInt d a b) R ∧ Mod [g] w w' := by
  subst hlen
  go_enter Try.func55, Try.ntmps55
  go_wp2
  go_loopw [6] (fun vi wr => ∃ (i : Nat) (dk : Array Int), vi = .int .i64 (i : Int) ∧ a < i ∧ i ≤ b + 1 ∧ dk.size = d.size ∧ Row wr g dk R ∧ Mod [g] w wr ∧ insOuter ltInt a b i dk = insertionSort ltInt d a b)
    (fun vi _ => b + 1 - (intOf vi).toNat)
  case atStart => exact ⟨a + 1, d, by go_num, by omega, by omega, rfl, h, Mod.refl _ _, rfl⟩
  case round =>
    obtain ⟨i, dk, rfl, hai, hib, hsk, hr, hm, hO⟩ := hrel
    have HO := hide hO
    clear hO h
    by_cases hlt : i < b
    · go_wp2
      go_loopw [7] (fun vj wr2 => ∃ (j : Nat) (dj : Array Int), vj = .int .i64 (j : Int) ∧ j ≤ i ∧ dj.size = d.size ∧ Row wr2 g dj R ∧ Mod [g] w wr2 ∧ insInner ltInt a j dj = insInner ltInt a i dk)
        (fun vj _ => (intOf vj).toNat)
      case atStart => exact ⟨i, dk, rfl, Nat.le_refl _, hsk, hr, hm, rfl⟩
      case round =>
        obtain ⟨j, dj, rfl, hji, hsj, hr2, hm2, hI⟩ := hrel
        have HI := hide hI
        clear hI hr hm
        have out : ∀ q wx, Row wx g dj R → Mod [g] w wx → insInner ltInt a j dj = dj → ∃ (i' : Nat) (dk' : Array Int), Value.int .i64 ((i : Int) + 1) = .int .i64 (i' : Int) ∧ a < i' ∧ i' ≤ b + 1 ∧ dk'.size = d.size ∧ Row (wx.drewN q) g dk' R ∧
            Mod [g] w (wx.drewN q) ∧ insOuter ltInt a b i' dk' = insertionSort ltInt d a b := fun q wx h1 h2 h3 =>
          ⟨i + 1, dj, by go_num, by omega, by omega, hsj, h1, h2.drewN q, by
            rw [← HO.out, insOuter.eq_def ltInt a b i dk, if_pos hlt, ← HI.out, h3]⟩
        have OUT := hide out
        clear out
        by_cases hja : a < j
        · obtain ⟨m, rfl⟩ : ∃ m, j = m + 1 := ⟨j - 1, by omega⟩
          obtain ⟨x, hx⟩ : ∃ x, dj[m]! = x := ⟨_, rfl⟩
          obtain ⟨y, hy⟩ : ∃ y, dj[m + 1]! = y := ⟨_, rfl⟩
          have c1 := hr2.cell (j := m) (by omega)
          have c2 := hr2.cell (j := m + 1) (by omega)
          have f1 := hr2.frozen m
          have f2 := hr2.frozen (m + 1)
          rw [hx] at c1
          rw [hy] at c2
          have Hx := hide hx
          have Hy := hide hy
          clear hx hy
          have hj1 : (a : Int) < (m : Int) + 1 := by omega
          cases hl : ltInt y x
          · go_wp2
            go_quiet (first | (go_at_call 61; refine Calls.quiet_of (lessQ _ _ _)))
            go_wp2
            go_roundw
            case rel => exact OUT.out nq wr hr2 hm2 (insInner_no (by rw [Hx.out, Hy.out]; exact hl))
            case measure => simp [intOf]; omega
          · go_wp2
            go_quiet (first | (go_at_call 61; refine Calls.quiet_of (lessQ _ _ _)))
            go_wp2
            go_region
            all_goals go_wp2
            go_roundw
            case rel =>
              exact ⟨m, swp dj (m + 1) m, by go_num, by omega, by rw [size_swp]; exact hsj, hr2.swapN (by omega) (by omega) Hx.out Hy.out _, hm2.swapN _ _ _ _ _, by
                rw [← HI.out, insInner_yes (by omega) (by rw [Hx.out, Hy.out]; exact hl)]⟩
            case measure => simp [intOf]
        · have hja2 : ¬ (a : Int) < (j : Int) := by omega
          go_wp2
          go_quiet (fail)
          go_wp2
          go_roundw
          case rel => exact OUT.out nq wr hr2 hm2 (insInner_low (by omega))
          case measure => simp [intOf]; omega
    · go_wp2
      go_end0
      exact ⟨rfl, by rw [← HO.out, insOuter.eq_def, if_neg hlt]; exact hr, hm⟩
end Go.Proofs.Ytampdiplodhkbaa
