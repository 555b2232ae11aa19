/-
  slices.heapSortOrdered, reverseRangeOrdered at uint64.
-/
import Derived.Test.YtampdiplodhkbaaSoHeap
namespace Go.Proofs.Ytampdiplodhkbaa
open Go.RowKit Go.Sort

theorem sift_size {hi first root : Nat} {d : Array Int} : (siftDown ltInt hi first root d).size = d.size := by
  fun_induction siftDown ltInt hi first root d <;> simp_all [size_swp]
theorem reverse_yes {i j : Nat} {d : Array Int} (h : i < j) : reverseLoop i j d = reverseLoop (i + 1) (j - 1) (swp d i j) := by
  rw [reverseLoop.eq_def, if_pos h]
theorem reverse_no {i j : Nat} {d : Array Int} (h : ¬ i < j) : reverseLoop i j d = d := by
  rw [reverseLoop.eq_def, if_neg h]

set_option maxHeartbeats 2000000 in
theorem reverse_u64 (w : World) (g cap a b : Nat) (d : Array Int) (R : List Value) (h : Row w g d R) (hb : b ≤ d.size) (ha : a < b) (hsz : d.size ≤ 1099511627776) (len : Nat) (hlen : d.size = len) :
    Calls Try.prog 59 #[.slice (some ⟨g, 0, none⟩) len cap, .int .i64 a, .int .i64 b] w fun e w' =>
      e = .returned (.tuple #[]) ∧ Row w' g (reverseRange d a b) R ∧ Mod [g] w w' := by
  subst hlen
  go_enter Try.func59, Try.ntmps59
  go_wp2
  go_loopw [6, 7] (fun u v wr => ∃ (i j : Nat) (dk : Array Int), u = .int .i64 (i : Int) ∧ v = .int .i64 (j : Int) ∧ i ≤ b ∧ j < b ∧ dk.size = d.size ∧ Row wr g dk R ∧ Mod [g] w wr ∧ reverseLoop i j dk = reverseRange d a b)
    (fun u _ _ => b + 1 - (intOf u).toNat)
  case atStart => exact ⟨a, b - 1, d, rfl, by congr 1; omega, by omega, by omega, rfl, h, Mod.refl _ _, rfl⟩
  case round =>
    obtain ⟨i, j, dk, rfl, rfl, hi, hj, hsk, hr, hm, hO⟩ := hrel
    have HO := hide hO
    clear hO h
    by_cases hlt : i < j
    · obtain ⟨x, hx⟩ : ∃ x, dk[i]! = x := ⟨_, rfl⟩
      obtain ⟨y, hy⟩ : ∃ x, dk[j]! = x := ⟨_, rfl⟩
      have c1 := hr.cell (j := i) (by omega)
      have c2 := hr.cell (j := j) (by omega)
      have f1 := hr.frozen i
      have f2 := hr.frozen j
      rw [hx] at c1
      rw [hy] at c2
      have Hx := hide hx
      have Hy := hide hy
      clear hx hy
      go_wp2
      go_region
      all_goals go_wp2
      go_roundw
      case rel => exact ⟨i + 1, j - 1, swp dk i j, by go_num, by congr 1; omega, by omega, by omega, by rw [size_swp]; exact hsk, hr.swapN (by omega) (by omega) Hy.out Hx.out 1, hm.swapN 1 _ _ _ _, by rw [← HO.out, reverse_yes hlt]⟩
      case measure => simp [intOf]; omega
    · go_wp2
      go_end0
      exact ⟨rfl, by rw [← HO.out, reverse_no hlt]; exact hr, hm⟩

set_option maxHeartbeats 2000000 in
theorem heap_u64 (w : World) (g cap a b : Nat) (d : Array Int) (R : List Value) (h : Row w g d R) (hb : b ≤ d.size) (ha : a < b) (hsz : d.size ≤ 1099511627776) (len : Nat) (hlen : d.size = len) :
    Calls Try.prog 56 #[.slice (some ⟨g, 0, none⟩) len cap, .int .i64 a, .int .i64 b] w fun e w' =>
      e = .returned (.tuple #[]) ∧ Row w' g (heapSort ltInt d a b) R ∧ Mod [g] w w' := by
  subst hlen
  obtain ⟨n, hn⟩ : ∃ n, n = b - a := ⟨_, rfl⟩
  have hn' : (b : Int) - a = n := by omega
  have hq : ((n : Int) - 1).tdiv 2 = (((n - 1) / 2 : Nat) : Int) := by
    rw [Int.tdiv_eq_ediv_of_nonneg (by omega)]
    omega
  have hn0 : 0 < n := by omega
  have hns : a + n ≤ d.size := by omega
  have HS : Hid (heapSort ltInt d a b = heapPop ltInt a n (heapBuild ltInt n a ((n - 1) / 2 + 1) d)) := hide (by rw [hn]; rfl)
  have hwn : IntKind.i64.wrap (n : Int) = n := IntWalk.i64_in _ (by omega)
  clear hn
  go_enter Try.func56, Try.ntmps56
  go_wp2
  go_loopw [9] (fun v wr => ∃ (k : Nat) (dk : Array Int), v = .int .i64 ((k : Int) - 1) ∧ k ≤ n ∧ dk.size = d.size ∧ Row wr g dk R ∧ Mod [g] w wr ∧ heapBuild ltInt n a k dk = heapBuild ltInt n a ((n - 1) / 2 + 1) d)
    (fun v _ => (intOf v + 1).toNat)
  case atStart =>
    exact ⟨(n - 1) / 2 + 1, d, by congr 1; omega, by omega, rfl, h, Mod.refl _ _, rfl⟩
  case round =>
    obtain ⟨k, dk, rfl, hk, hsk, hr, hm, hO⟩ := hrel
    have HO := hide hO
    clear hO h
    cases k with
    | succ m =>
      have hm1 : ((m + 1 : Nat) : Int) - 1 = m := by omega
      rw [hm1]
      go_wp2_with fail
      refine (sift_u64 _ g cap m n a dk R hr (by omega) (by omega) (by omega) _ hsk).mono ?_
      rintro e wx ⟨rfl, hr', hm'⟩
      go_wp2_with fail
      go_roundw
      case rel => exact ⟨m, _, by go_num, by omega, sift_size.trans hsk, hr', hm.trans hm' (by simp), by rw [← HO.out]; rfl⟩
      case measure => simp [intOf]
    | zero =>
      have hm1 : ((0 : Nat) : Int) - 1 = -1 := by omega
      rw [hm1]
      have HO2 : Hid (heapSort ltInt d a b = heapPop ltInt a n dk) := hide (by rw [HS.out, ← HO.out]; rfl)
      go_wp2_with fail
      go_loopw [10] (fun v wr => ∃ (k : Nat) (dk : Array Int), v = .int .i64 ((k : Int) - 1) ∧ k ≤ n ∧ dk.size = d.size ∧ Row wr g dk R ∧ Mod [g] w wr ∧ heapPop ltInt a k dk = heapSort ltInt d a b)
        (fun v _ => (intOf v + 1).toNat)
      case atStart => exact ⟨n, dk, by congr 1, by omega, hsk, hr, hm, HO2.out.symm⟩
      case round =>
        clear hr hm hsk HO2
        obtain ⟨k, dk, rfl, hk, hsk, hr, hm, hO⟩ := hrel
        have HP := hide hO
        clear hO
        cases k with
        | succ m =>
          have hm2 : ((m + 1 : Nat) : Int) - 1 = m := by omega
          rw [hm2]
          obtain ⟨p, hp⟩ : ∃ k, k = a + m := ⟨_, rfl⟩
          have hp' : (a : Int) + m = p := by omega
          have hps : p < d.size := by omega
          have hwp : IntKind.i64.wrap (p : Int) = p := IntWalk.i64_in _ (by omega)
          have Hp := hide hp
          clear hp
          obtain ⟨x, hx⟩ : ∃ x, dk[a]! = x := ⟨_, rfl⟩
          obtain ⟨y, hy⟩ : ∃ x, dk[p]! = x := ⟨_, rfl⟩
          have c1 := hr.cell (j := a) (by omega)
          have c2 := hr.cell (j := p) (by omega)
          have f1 := hr.frozen a
          have f2 := hr.frozen p
          rw [hx] at c1
          rw [hy] at c2
          have Hx := hide hx
          have Hy := hide hy
          clear hx hy
          have hr2 := hr.swapN (i := a) (j := p) (by omega) (by omega) Hy.out Hx.out 1
          have hm3 := hm.swapN 1 a p (.int .u64 y) (.int .u64 x)
          have has : a < d.size := by omega
          have Hr2 := hide hr2
          have Hm3 := hide hm3
          clear hr2 hm3
          by_cases hpa : p = a
          · subst hpa
            obtain rfl : x = y := Hx.out.symm.trans Hy.out
            go_wp2_with fail
            go_region
            all_goals go_wp2_with fail
            refine (sift_u64 _ g cap 0 m p (swp dk p p) R Hr2.out (by rw [size_swp]; omega) (by omega) (by rw [size_swp]; omega) _ (by rw [size_swp]; exact hsk)).mono ?_
            rintro e wx ⟨rfl, hr', hm'⟩
            go_wp2_with fail
            go_roundw
            case rel => exact ⟨m, _, by go_num, by omega, sift_size.trans (by rw [size_swp]; exact hsk), hr', Hm3.out.trans hm' (by simp), by rw [← HP.out]; show _ = heapPop ltInt p m (siftDown ltInt m p 0 (swp dk p (p + m))); rw [← Hp.out]⟩
            case measure => simp [intOf]
          · have hap : ¬ a = p := fun e => hpa e.symm
            go_wp2_with fail
            go_region
            all_goals go_wp2_with fail
            refine (sift_u64 _ g cap 0 m a (swp dk a p) R Hr2.out (by rw [size_swp]; omega) (by omega) (by rw [size_swp]; omega) _ (by rw [size_swp]; exact hsk)).mono ?_
            rintro e wx ⟨rfl, hr', hm'⟩
            go_wp2_with fail
            go_roundw
            case rel => exact ⟨m, _, by go_num, by omega, sift_size.trans (by rw [size_swp]; exact hsk), hr', Hm3.out.trans hm' (by simp), by rw [← HP.out, Hp.out]; rfl⟩
            case measure => simp [intOf]
        | zero =>
          have hm2 : ((0 : Nat) : Int) - 1 = -1 := by omega
          rw [hm2]
          go_wp2_with fail
          go_end0
          exact ⟨rfl, by rw [← HP.out]; exact hr, hm⟩
end Go.Proofs.Ytampdiplodhkbaa
