/-
  Contracts and plain laws that the proofs of this seat share, part 3 of 11: SoPi, SoPiv, SoLen, SoBreak, SoBreak2, SoHeap, SoHeap2, SoIns, SoPdq.
-/
import Derived.Test.YtjdfemfobcjecaaGreatG2
import Derived.Deep.CutBlock
import Derived.Deep.DeepCutAuto
import Derived.Shelf.Strconv.Itoa0
import Derived.Laws.Bits64
import Derived.Laws.Bits64b

/-
  slices.partialInsertionSortOrdered at uint64.
-/
namespace Go.Proofs.YtjdfemfobcjecaaGreat
open Go.RowKit Go.Sort

theorem sorted_yes {d : Array Int} {b i : Nat} (h : i < b) (hp : ltInt d[i]! d[i - 1]! = false) : scanSorted ltInt d b i = scanSorted ltInt d b (i + 1) := by
  rw [scanSorted.eq_def]; simp [h, hp]
theorem sorted_stop {d : Array Int} {b i : Nat} (h : b ≤ i ∨ ltInt d[i]! d[i - 1]! = true) : scanSorted ltInt d b i = i := by
  rw [scanSorted.eq_def]
  rcases h with h | h
  · simp [show ¬ i < b by omega]
  · simp [h]
theorem shd_yes {d : Array Int} {m : Nat} (h : ltInt d[m + 1]! d[m]! = true) : shiftDown ltInt (m + 1) d = shiftDown ltInt m (swp d (m + 1) m) := by
  rw [shiftDown]; simp [h]
theorem shd_no {d : Array Int} {m : Nat} (h : ltInt d[m + 1]! d[m]! = false) : shiftDown ltInt (m + 1) d = d := by
  rw [shiftDown]; simp [h]
theorem shu_yes {d : Array Int} {b j : Nat} (hb : j < b) (h : ltInt d[j]! d[j - 1]! = true) : shiftUp ltInt b j d = shiftUp ltInt b (j + 1) (swp d j (j - 1)) := by
  rw [shiftUp.eq_def]; simp [h, hb]
theorem shu_no {d : Array Int} {b j : Nat} (h : b ≤ j ∨ ltInt d[j]! d[j - 1]! = false) : shiftUp ltInt b j d = d := by
  rw [shiftUp.eq_def]
  rcases h with h | h
  · simp [show ¬ j < b by omega]
  · simp [h]

set_option maxRecDepth 100000 in
set_option maxHeartbeats 16000000 in
theorem partial_u64 (w : World) (g cap a b : Nat) (d : Array Int) (R : List Value) (hr : Row w g d R) (hb : b ≤ d.size) (ha : a < b) (hsz : d.size ≤ 1099511627776) (len : Nat) (hlen : d.size = len) :
    Calls Tryz.prog 96 #[.slice (some ⟨g, 0, none⟩) len cap, .int .i64 a, .int .i64 b] w fun e w' =>
      e = .returned (.bool (partialInsertionSort ltInt d a b).2) ∧ Row w' g (partialInsertionSort ltInt d a b).1 R ∧ Mod [g] w w' := by
  subst hlen
  have hm := Mod.refl [g] w
  go_enter Tryz.func96, Tryz.ntmps96
  go_wp2_with fail
  go_loopw [7, 8] (fun u v wr => ∃ (i s : Nat) (dk : Array Int), u = .int .i64 (i : Int) ∧ v = .int .i64 (5 - (s : Int)) ∧ s ≤ 5 ∧ a < i ∧ i ≤ b ∧ dk.size = d.size ∧ Row wr g dk R ∧ Mod [g] w wr ∧ partialIns ltInt a b s i dk = partialInsertionSort ltInt d a b)
    (fun u v _ => (5 - intOf v).toNat)
  case atStart => exact ⟨a + 1, 5, d, by go_num, by simp, by omega, by omega, by omega, rfl, hr, hm, rfl⟩
  case round =>
    clear hr hm
    obtain ⟨i, s, dk, rfl, rfl, hs5, hai, hib, hsk, hr, hm, hO⟩ := hrel
    cases s with
    | zero =>
      have hO' := hide hO
      clear hO
      go_wp2_with fail
      go_ret
      exact ⟨by rw [← hO'.out]; rfl, by rw [← hO'.out]; exact hr, hm⟩
    | succ s =>
      have hs1 : (5 : Int) - ((s + 1 : Nat) : Int) = 4 - s := by omega
      rw [hs1]
      have hs2 : (4 : Int) - s < 5 := by omega
      have HO := hide hO
      clear hO
      go_upto_block 2 with fail
      go_cut [7] (fun v wx => ∃ n1 : Nat, v = .int .i64 (n1 : Int) ∧ (i ≤ n1 ∧ n1 ≤ b) ∧ scanSorted ltInt dk b i = n1 ∧ Row wx g dk R ∧ Mod [g] w wx)
      case first =>
        go_wp2_with fail
        go_loopw [7] (fun v wx => ∃ n1 : Nat, v = .int .i64 (n1 : Int) ∧ (i ≤ n1 ∧ n1 ≤ b) ∧ scanSorted ltInt dk b n1 = scanSorted ltInt dk b i ∧ Row wx g dk R ∧ Mod [g] w wx) (fun v _ => b + 1 - (intOf v).toNat)
        case atStart => exact ⟨i, rfl, ⟨Nat.le_refl _, hib⟩, rfl, hr, hm⟩
        case round =>
          clear hr hm
          obtain ⟨n1, rfl, hn, hS, hr, hm⟩ := hrel
          obtain ⟨hn1, hn2⟩ := hn
          have HS := hide hS
          clear hS
          by_cases hlt : n1 < b
          · obtain ⟨k1, hk1⟩ : ∃ k, k = n1 - 1 := ⟨_, rfl⟩
            have hk1' : (n1 : Int) - 1 = k1 := by omega
            have hlt' : (n1 : Int) < b := by omega
            obtain ⟨v, hv⟩ : ∃ z, dk[n1]! = z := ⟨_, rfl⟩
            obtain ⟨t, ht⟩ : ∃ z, dk[k1]! = z := ⟨_, rfl⟩
            have c1 := hr.cell (j := n1) (by omega)
            have c2 := hr.cell (j := k1) (by omega)
            rw [hv] at c1
            rw [ht] at c2
            have Hv := hide hv
            have Ht := hide ht
            clear hv ht
            have hxs : n1 < d.size := by omega
            have hys : k1 < d.size := by omega
            have Hk1 := hide hk1
            clear hk1
            cases hl : ltInt v t
            · go_wp2_with fail
              go_quiet (first | (go_at_call 97; refine Calls.quiet_of (lessQ _ _ _)))
              go_wp2_with fail
              go_roundw
              case rel => exact ⟨n1 + 1, by go_num, ⟨by omega, by omega⟩, by rw [← HS.out]; exact (sorted_yes hlt (by rw [← Hk1.out, Hv.out, Ht.out]; exact hl)).symm, hr.drewN _, hm.drewN _⟩
              case measure => simp [intOf]; omega
            · go_wp2_with fail
              go_quiet (first | (go_at_call 97; refine Calls.quiet_of (lessQ _ _ _)))
              go_wp2_with fail
              go_meet
              exact ⟨n1, rfl, ⟨by omega, by omega⟩, by rw [← HS.out]; exact sorted_stop (.inr (by rw [← Hk1.out, Hv.out, Ht.out]; exact hl)), hr.drewN _, hm.drewN _⟩
          · have hlt' : decide ((n1 : Int) < b) = false := decide_eq_false (by omega)
            go_wp2_with fail
            go_quiet (fail)
            go_wp2_with fail
            go_meet
            exact ⟨n1, rfl, ⟨by omega, by omega⟩, by rw [← HS.out]; exact sorted_stop (.inl (by omega)), hr.drewN _, hm.drewN _⟩
      case rest =>
        clear hr hm
        obtain ⟨n, rfl, hn, hS, hr, hm⟩ := hcut
        obtain ⟨hn1, hn2⟩ := hn
        have HE : Hid (partialIns ltInt a b (s + 1) i dk = if n = b then (dk, true) else if b - a < 50 then (dk, false) else partialIns ltInt a b s n (if b - n ≥ 2 then shiftUp ltInt b (n + 1) (if n - a ≥ 2 then shiftDown ltInt (n - 1) (swp dk n (n - 1)) else swp dk n (n - 1)) else (if n - a ≥ 2 then shiftDown ltInt (n - 1) (swp dk n (n - 1)) else swp dk n (n - 1)))) := hide (by
          rw [partialIns, hS])
        clear hS
        by_cases hnb : n = b
        · have hnb' : ((n : Int) == (b : Int)) = true := by simp; omega
          have he : partialInsertionSort ltInt d a b = (dk, true) := by rw [← HO.out, HE.out, if_pos hnb]
          have He := hide he
          clear he
          go_wp2_with fail
          go_ret
          rw [He.out]
          exact ⟨rfl, hr, hm⟩
        · have hnb' : ((n : Int) == (b : Int)) = false := by simp; omega
          by_cases h50 : b - a < 50
          · have h50' : (b : Int) - a < 50 := by omega
            have he : partialInsertionSort ltInt d a b = (dk, false) := by rw [← HO.out, HE.out, if_neg hnb, if_pos h50]
            have He := hide he
            clear he
            go_wp2_with fail
            go_ret
            rw [He.out]
            exact ⟨rfl, hr, hm⟩
          · have h50' : decide ((b : Int) - a < 50) = false := decide_eq_false (by omega)
            have h50'' : ¬ (b : Int) - a < 50 := by omega
            obtain ⟨k, hk⟩ : ∃ k, k = n - 1 := ⟨_, rfl⟩
            have hk' : (n : Int) - 1 = k := by omega
            have hkn : k + 1 = n := by omega
            have Hk := hide hk
            clear hk
            obtain ⟨x, hx⟩ : ∃ x, dk[n]! = x := ⟨_, rfl⟩
            obtain ⟨y, hy⟩ : ∃ x, dk[k]! = x := ⟨_, rfl⟩
            have c1 := hr.cell (j := n) (by omega)
            have c2 := hr.cell (j := k) (by omega)
            have f1 := hr.frozen n
            have f2 := hr.frozen k
            rw [hx] at c1
            rw [hy] at c2
            have hsi : n < d.size := by omega
            have hsj : k < d.size := by omega
            have Hr := hide (hr.swapN (i := n) (j := k) (by omega) (by omega) hy hx 1)
            have Hm := hide (hm.swapN 1 n k (.int .u64 y) (.int .u64 x))
            go_upto_region 11 with fail
            go_cut [] (fun wx => Row wx g (swp dk n k) R ∧ Mod [g] w wx)
            case first =>
              have hpa : ¬ n = k := by omega
              have hap : ¬ k = n := by omega
              go_region
              all_goals (go_wp2_with fail; go_meet)
              all_goals exact ⟨Hr.out, Hm.out⟩
            case rest =>
              clear hr hm c1 c2 f1 f2 Hr Hm hx hy
              obtain ⟨hr, hm⟩ := hcut
              obtain ⟨d1, hd1⟩ : ∃ z, swp dk n k = z := ⟨_, rfl⟩
              have hsd1 : d1.size = d.size := by rw [← hd1, size_swp]; try omega
              rw [hd1] at hr
              have Hd1 := hide hd1
              clear hd1
              have HE2 : Hid (partialIns ltInt a b (s + 1) i dk = partialIns ltInt a b s n (if b - n ≥ 2 then shiftUp ltInt b (n + 1) (if n - a ≥ 2 then shiftDown ltInt k d1 else d1) else (if n - a ≥ 2 then shiftDown ltInt k d1 else d1))) := hide (by
                rw [HE.out, if_neg hnb, if_neg h50, ← Hk.out, Hd1.out])
              go_upto_if 61 with fail
              go_cut [] (fun wx => ∃ dx : Array Int, dx.size = d.size ∧ (if n - a ≥ 2 then shiftDown ltInt k d1 else d1) = dx ∧ Row wx g dx R ∧ Mod [g] w wx)
              case first =>
                by_cases h2 : n - a ≥ 2
                · have h2' : (2 : Int) ≤ (n : Int) - a := by omega
                  go_wp2_with fail
                  go_loopw [9] (fun v wx => ∃ (j : Nat) (dx : Array Int), v = .int .i64 (j : Int) ∧ j ≤ k ∧ dx.size = d.size ∧ shiftDown ltInt j dx = shiftDown ltInt k d1 ∧ Row wx g dx R ∧ Mod [g] w wx) (fun v _ => (intOf v).toNat)
                  case atStart => exact ⟨k, d1, rfl, Nat.le_refl _, hsd1, rfl, hr, hm⟩
                  case round =>
                    clear hr hm
                    obtain ⟨j, dx, rfl, hjk, hsx, hS, hr, hm⟩ := hrel
                    have HS := hide hS
                    clear hS
                    cases j with
                    | zero =>
                      go_wp2_with fail
                      go_meet
                      exact ⟨dx, hsx, by rw [if_pos h2, ← HS.out]; rfl, hr, hm⟩
                    | succ m =>
                      have hm1 : (m : Int) + 1 - 1 = m := by omega
                      obtain ⟨v, hv⟩ : ∃ z, dx[(m + 1)]! = z := ⟨_, rfl⟩
                      obtain ⟨t, ht⟩ : ∃ z, dx[m]! = z := ⟨_, rfl⟩
                      have c1 := hr.cell (j := (m + 1)) (by omega)
                      have c2 := hr.cell (j := m) (by omega)
                      rw [hv] at c1
                      rw [ht] at c2
                      have Hv := hide hv
                      have Ht := hide ht
                      clear hv ht
                      have hxs : (m + 1) < d.size := by omega
                      have hys : m < d.size := by omega
                      cases hl : ltInt v t
                      · go_wp2_with fail
                        go_quiet (first | (go_at_call 97; refine Calls.quiet_of (lessQ _ _ _)))
                        go_wp2_with fail
                        go_meet
                        exact ⟨dx, hsx, by rw [if_pos h2, ← HS.out]; exact shd_no (by rw [Hv.out, Ht.out]; exact hl), hr.drewN _, hm.drewN _⟩
                      · go_wp2_with fail
                        go_quiet (first | (go_at_call 97; refine Calls.quiet_of (lessQ _ _ _)))
                        go_wp2_with fail
                        have f1 := hr.frozen (m + 1)
                        have f2 := hr.frozen m
                        go_region
                        all_goals go_wp2_with fail
                        go_roundw
                        case rel => exact ⟨m, swp dx (m + 1) m, by go_num, by omega, by rw [size_swp]; exact hsx, by rw [← HS.out]; exact (shd_yes (by rw [Hv.out, Ht.out]; exact hl)).symm, hr.swapN (by omega) (by omega) Ht.out Hv.out _, hm.swapN _ _ _ _ _⟩
                        case measure => simp [intOf]
                · have h2' : ¬ (2 : Int) ≤ (n : Int) - a := by omega
                  go_wp2_with fail
                  go_meet
                  exact ⟨d1, hsd1, by rw [if_neg h2], hr, hm⟩
              case rest =>
                clear hr hm
                obtain ⟨d2, hsd2, hd2, hr, hm⟩ := hcut
                have HE3 : Hid (partialIns ltInt a b (s + 1) i dk = partialIns ltInt a b s n (if b - n ≥ 2 then shiftUp ltInt b (n + 1) d2 else d2)) := hide (by rw [HE2.out, hd2])
                clear hd2
                have fin : ∀ (dx : Array Int) (wx : World), dx.size = d.size → (if b - n ≥ 2 then shiftUp ltInt b (n + 1) d2 else d2) = dx → Row wx g dx R → Mod [g] w wx →
                    ∃ (i s' : Nat) (dk : Array Int), Value.int .i64 (n : Int) = .int .i64 (i : Int) ∧ Value.int .i64 (4 - (s : Int) + 1) = .int .i64 (5 - (s' : Int)) ∧ s' ≤ 5 ∧ a < i ∧ i ≤ b ∧ dk.size = d.size ∧ Row wx g dk R ∧ Mod [g] w wx ∧ partialIns ltInt a b s' i dk = partialInsertionSort ltInt d a b :=
                  fun dx wx h1 h2 h3 h4 => ⟨n, s, dx, rfl, by congr 1; omega, by omega, by omega, by omega, h1, h3, h4, by rw [← HO.out, HE3.out, h2]⟩
                have FIN := hide fin
                clear fin
                ·
                  by_cases h2 : b - n ≥ 2
                  · have h2' : (2 : Int) ≤ (b : Int) - n := by omega
                    go_wp2_with fail
                    go_loopw [10] (fun v wx => ∃ (j : Nat) (dx : Array Int), v = .int .i64 (j : Int) ∧ n < j ∧ j ≤ b ∧ dx.size = d.size ∧ shiftUp ltInt b j dx = shiftUp ltInt b (n + 1) d2 ∧ Row wx g dx R ∧ Mod [g] w wx) (fun v _ => b + 1 - (intOf v).toNat)
                    case atStart => exact ⟨n + 1, d2, by go_num, by omega, by omega, hsd2, rfl, hr, hm⟩
                    case round =>
                      clear hr hm
                      obtain ⟨j, dx, rfl, hnj, hjb, hsx, hS, hr, hm⟩ := hrel
                      have HS := hide hS
                      clear hS
                      by_cases hlt : j < b
                      · obtain ⟨m, hm1⟩ : ∃ k, k = j - 1 := ⟨_, rfl⟩
                        have hm1' : (j : Int) - 1 = m := by omega
                        have hmj : ¬ m = j := by omega
                        have hjm : ¬ j = m := by omega
                        obtain ⟨v, hv⟩ : ∃ z, dx[j]! = z := ⟨_, rfl⟩
                        obtain ⟨t, ht⟩ : ∃ z, dx[m]! = z := ⟨_, rfl⟩
                        have c1 := hr.cell (j := j) (by omega)
                        have c2 := hr.cell (j := m) (by omega)
                        rw [hv] at c1
                        rw [ht] at c2
                        have Hv := hide hv
                        have Ht := hide ht
                        clear hv ht
                        have hxs : j < d.size := by omega
                        have hys : m < d.size := by omega
                        have Hm1 := hide hm1
                        clear hm1
                        cases hl : ltInt v t
                        · go_wp2_with fail
                          go_quiet (first | (go_at_call 97; refine Calls.quiet_of (lessQ _ _ _)))
                          go_wp2_with fail
                          go_roundw
                          case rel => exact FIN.out dx _ hsx (by rw [if_pos h2, ← HS.out]; exact shu_no (.inr (by rw [← Hm1.out, Hv.out, Ht.out]; exact hl))) (hr.drewN _) (hm.drewN _)
                          case measure => simp [intOf]; omega
                        · go_wp2_with fail
                          go_quiet (first | (go_at_call 97; refine Calls.quiet_of (lessQ _ _ _)))
                          go_wp2_with fail
                          have f1 := hr.frozen j
                          have f2 := hr.frozen m
                          go_region
                          all_goals go_wp2_with fail
                          go_roundw
                          case rel => exact ⟨j + 1, swp dx j m, by go_num, by omega, by omega, by rw [size_swp]; exact hsx, by rw [← HS.out, Hm1.out]; exact (shu_yes hlt (by rw [← Hm1.out, Hv.out, Ht.out]; exact hl)).symm, hr.swapN (by omega) (by omega) Ht.out Hv.out _, hm.swapN _ _ _ _ _⟩
                          case measure => simp [intOf]; omega
                      · go_wp2_with fail
                        go_roundw
                        case rel => exact FIN.out dx _ hsx (by rw [if_pos h2, ← HS.out]; exact shu_no (.inl (by omega))) hr hm
                        case measure => simp [intOf]; omega
                  · have h2' : ¬ (2 : Int) ≤ (b : Int) - n := by omega
                    go_wp2_with fail
                    go_roundw
                    case rel => exact FIN.out d2 _ hsd2 (by rw [if_neg h2]) hr hm
                    case measure => simp [intOf]; omega
end Go.Proofs.YtjdfemfobcjecaaGreat

/-
  slices.order2Ordered, medianOrdered, medianAdjacentOrdered, choosePivotOrdered at uint64: some pivot in the range, nothing turned.
-/
namespace Go.Proofs.YtjdfemfobcjecaaGreat
open Go.RowKit Go.Sort

set_option maxHeartbeats 4000000 in
theorem order2_u64 (w : World) (g cap a b sp n : Nat) (d : Array Int) (R : List Value) (hr : Row w g d R) (hc : Blk w sp 3 #[.int .i64 (n : Int)]) (ha : a < d.size) (hb : b < d.size) (hn : n ≤ 1000) (len : Nat) (hlen : d.size = len) :
    Calls Tryz.prog 119 #[.slice (some ⟨g, 0, none⟩) len cap, .int .i64 a, .int .i64 b, .pointer (some ⟨sp, 0, none⟩)] w fun e w' =>
      ∃ x y m : Nat, e = .returned (.tuple #[.int .i64 (x : Int), .int .i64 (y : Int)]) ∧ ((x = a ∧ y = b) ∨ (x = b ∧ y = a)) ∧ m ≤ n + 1 ∧ Blk w' sp 3 #[.int .i64 (m : Int)] ∧ Row w' g d R ∧ Mod [sp] w w' := by
  subst hlen
  have hgs : g ≠ sp := Blk.ne_ hr hc (by decide)
  obtain ⟨x, hx⟩ : ∃ x, d[a]! = x := ⟨_, rfl⟩
  obtain ⟨y, hy⟩ : ∃ x, d[b]! = x := ⟨_, rfl⟩
  have c1 := hr.cell (j := a) ha
  have c2 := hr.cell (j := b) hb
  rw [hx] at c1
  rw [hy] at c2
  clear hx hy
  have c3 := hc.cell 0
  have f3 := hc.frozen 0
  simp at c3
  go_enter Tryz.func119, Tryz.ntmps119
  go_wp2_with fail
  go_quiet (first | (go_at_call 97; refine Calls.quiet_of (lessQ _ _ _)))
  go_wp2_with fail
  · go_ret2
    refine ⟨b, a, n + 1, rfl, .inr ⟨rfl, rfl⟩, by omega, ?_, ?_, ((Mod.refl _ _).drewN nq).setCell (.inl (by simp)) _⟩
    · have := Blk.set_ (w := w.drewN nq) hc 0 (.int .i64 ((n : Int) + 1))
      simpa using this
    · exact Blk.far (w := w.drewN nq) hr hgs _
  · go_ret2
    exact ⟨a, b, n, rfl, .inl ⟨rfl, rfl⟩, by omega, hc, hr, (Mod.refl _ _).drewN _⟩

set_option maxHeartbeats 4000000 in
theorem median_u64 (w : World) (g cap a b c sp n : Nat) (d : Array Int) (R : List Value) (hr : Row w g d R) (hc : Blk w sp 3 #[.int .i64 (n : Int)]) (ha : a < d.size) (hb : b < d.size) (hcz : c < d.size) (hn : n ≤ 900) (len : Nat) (hlen : d.size = len) :
    Calls Tryz.prog 115 #[.slice (some ⟨g, 0, none⟩) len cap, .int .i64 a, .int .i64 b, .int .i64 c, .pointer (some ⟨sp, 0, none⟩)] w fun e w' =>
      ∃ x m : Nat, e = .returned (.int .i64 (x : Int)) ∧ (x = a ∨ x = b ∨ x = c) ∧ m ≤ n + 3 ∧ Blk w' sp 3 #[.int .i64 (m : Int)] ∧ Row w' g d R ∧ Mod [sp] w w' := by
  go_enter Tryz.func115, Tryz.ntmps115
  go_wp2_with fail
  refine (order2_u64 w g cap a b sp n d R hr hc ha hb (by omega) len hlen).mono ?_
  rintro e w1 ⟨a1, b1, n1, rfl, h1, hn1, hc1, hr1, hm1⟩
  go_wp2_with fail
  refine (order2_u64 w1 g cap b1 c sp n1 d R hr1 hc1 (by omega) hcz (by omega) len hlen).mono ?_
  rintro e w2 ⟨b2, c2, n2, rfl, h2, hn2, hc2, hr2, hm2⟩
  go_wp2_with fail
  refine (order2_u64 w2 g cap a1 b2 sp n2 d R hr2 hc2 (by omega) (by omega) (by omega) len hlen).mono ?_
  rintro e w3 ⟨a3, b3, n3, rfl, h3, hn3, hc3, hr3, hm3⟩
  go_wp2_with fail
  go_ret
  exact ⟨b3, n3, rfl, by omega, by omega, hc3, hr3, (hm1.trans hm2 (by simp)).trans hm3 (by simp)⟩

set_option maxHeartbeats 4000000 in
theorem medAdj_u64 (w : World) (g cap a sp n : Nat) (d : Array Int) (R : List Value) (hr : Row w g d R) (hc : Blk w sp 3 #[.int .i64 (n : Int)]) (ha : a + 1 < d.size) (ha0 : 0 < a) (hn : n ≤ 900) (hsz : d.size ≤ 1099511627776) (len : Nat) (hlen : d.size = len) :
    Calls Tryz.prog 114 #[.slice (some ⟨g, 0, none⟩) len cap, .int .i64 a, .pointer (some ⟨sp, 0, none⟩)] w fun e w' =>
      ∃ x m : Nat, e = .returned (.int .i64 (x : Int)) ∧ (x + 1 = a ∨ x = a ∨ x = a + 1) ∧ m ≤ n + 3 ∧ Blk w' sp 3 #[.int .i64 (m : Int)] ∧ Row w' g d R ∧ Mod [sp] w w' := by
  obtain ⟨k, rfl⟩ : ∃ k, a = k + 1 := ⟨a - 1, by omega⟩
  have hk : (k : Int) + 1 - 1 = k := by omega
  go_enter Tryz.func114, Tryz.ntmps114
  go_wp2_with fail
  refine (median_u64 w g cap k (k + 1) (k + 1 + 1) sp n d R hr hc (by omega) (by omega) (by omega) hn len hlen).mono ?_
  rintro e w1 ⟨x, n1, rfl, h1, hn1, hc1, hr1, hm1⟩
  go_wp2_with fail
  go_ret
  exact ⟨x, n1, rfl, by omega, hn1, hc1, hr1, hm1⟩

set_option maxRecDepth 100000 in
set_option maxHeartbeats 8000000 in
theorem pivot_u64 (w : World) (g cap a b : Nat) (d : Array Int) (R : List Value) (hr : Row w g d R) (hab : a + 12 < b) (hb : b ≤ d.size) (hsz : d.size ≤ 1099511627776) (len : Nat) (hlen : d.size = len) :
    Calls Tryz.prog 94 #[.slice (some ⟨g, 0, none⟩) len cap, .int .i64 a, .int .i64 b] w fun e w' =>
      ∃ x h : Nat, e = .returned (.tuple #[.int .i64 (x : Int), .int .i64 (h : Int)]) ∧ a ≤ x ∧ x < b ∧ Row w' g d R ∧ Mod [] w w' := by
  obtain ⟨l, hl⟩ : ∃ l, l = b - a := ⟨_, rfl⟩
  have hl' : (b : Int) - a = l := by omega
  obtain ⟨q, hq⟩ : ∃ q, q = l / 4 := ⟨_, rfl⟩
  have hq' : (l : Int).tdiv 4 = q := by
    rw [Int.tdiv_eq_ediv_of_nonneg (by omega)]
    omega
  have hq4 : 4 * q ≤ l ∧ l < 4 * q + 4 := by omega
  have hlb : a + l = b := by omega
  clear hq hl
  have hwl : IntKind.i64.wrap (l : Int) = l := IntWalk.i64_in _ (by omega)
  have hwq : IntKind.i64.wrap (q : Int) = q := IntWalk.i64_in _ (by omega)
  obtain ⟨i, hi⟩ : ∃ i, i = a + q := ⟨_, rfl⟩
  obtain ⟨j, hj⟩ : ∃ i, i = a + 2 * q := ⟨_, rfl⟩
  obtain ⟨k, hk⟩ : ∃ i, i = a + 3 * q := ⟨_, rfl⟩
  have hi' : (a : Int) + q = i := by omega
  have hj' : (a : Int) + q * 2 = j := by omega
  have hk' : (a : Int) + q * 3 = k := by omega
  have Hi := hide hi
  have Hj := hide hj
  have Hk := hide hk
  clear hi hj hk
  have hr0 : Row (w.alloc (.cells #[.int .i64 0] 3)) g d R := Blk.alloc hr _
  have hc0 : Blk (w.alloc (.cells #[.int .i64 0] 3)) w.heap.size 3 #[.int .i64 ((0 : Nat) : Int)] := Blk.new w _ _
  have hm0 : Mod [] w (w.alloc (.cells #[.int .i64 0] 3)) := (Mod.refl _ _).alloc _
  have hil : Hid (a < i ∧ i + 2 < b ∧ a < j ∧ j + 2 < b ∧ a < k ∧ k + 2 < b) := hide (by have := Hi.out; have := Hj.out; have := Hk.out; omega)
  go_enter Tryz.func94, Tryz.ntmps94
  by_cases h50 : 50 ≤ l
  · have h50' : (50 : Int) ≤ l := by omega
    go_wp2_with fail
    refine (medAdj_u64 _ g cap i w.heap.size 0 d R hr0 hc0 (by have := hil.out; omega) (by have := hil.out; omega) (by omega) hsz len hlen).mono ?_
    rintro e wa ⟨xi, na, rfl, hxi, hna, hca, hra, hma⟩
    go_wp2_with fail
    refine (medAdj_u64 _ g cap j w.heap.size na d R hra hca (by have := hil.out; omega) (by have := hil.out; omega) (by omega) hsz len hlen).mono ?_
    rintro e wb ⟨xj, nb, rfl, hxj, hnb, hcb, hrb, hmb⟩
    go_wp2_with fail
    refine (medAdj_u64 _ g cap k w.heap.size nb d R hrb hcb (by have := hil.out; omega) (by have := hil.out; omega) (by omega) hsz len hlen).mono ?_
    rintro e wc ⟨xk, nc, rfl, hxk, hnc, hcc, hrc, hmc⟩
    go_wp2_with fail
    have hmx : Mod [] w wc := ((hm0.trans hma (by simp)).trans hmb (by simp)).trans hmc (by simp)
    refine (median_u64 _ g cap xi xj xk w.heap.size nc d R hrc hcc (by have := hil.out; omega) (by have := hil.out; omega) (by have := hil.out; omega) (by omega) len hlen).mono ?_
    rintro e wf ⟨x, n1, rfl, hx, hn1, hc1, hr1, hm1⟩
    have c1 := hc1.cell 0
    simp at c1
    have hfin : a ≤ x ∧ x < b := by have := hil.out; omega
    by_cases h0 : n1 = 0
    · subst h0
      go_wp2_with fail
      go_ret2
      exact ⟨x, 1, rfl, hfin.1, hfin.2, hr1, hmx.trans hm1 (by simp)⟩
    · have h0' : ((n1 : Int) == 0) = false := by simp; omega
      by_cases h12 : n1 = 12
      · subst h12
        go_wp2_with fail
        go_ret2
        exact ⟨x, 2, rfl, hfin.1, hfin.2, hr1, hmx.trans hm1 (by simp)⟩
      · have h12' : ((n1 : Int) == 12) = false := by simp; omega
        go_wp2_with fail
        go_ret2
        exact ⟨x, 0, rfl, hfin.1, hfin.2, hr1, hmx.trans hm1 (by simp)⟩
  · have h50' : ¬ (50 : Int) ≤ l := by omega
    go_wp2_with fail
    refine (median_u64 _ g cap i j k w.heap.size 0 d R hr0 hc0 (by have := hil.out; omega) (by have := hil.out; omega) (by have := hil.out; omega) (by omega) len hlen).mono ?_
    rintro e wf ⟨x, n1, rfl, hx, hn1, hc1, hr1, hm1⟩
    have c1 := hc1.cell 0
    simp at c1
    have hfin : a ≤ x ∧ x < b := by have := hil.out; omega
    by_cases h0 : n1 = 0
    · subst h0
      go_wp2_with fail
      go_ret2
      exact ⟨x, 1, rfl, hfin.1, hfin.2, hr1, hm0.trans hm1 (by simp)⟩
    · have h0' : ((n1 : Int) == 0) = false := by simp; omega
      by_cases h12 : n1 = 12
      · subst h12
        go_wp2_with fail
        go_ret2
        exact ⟨x, 2, rfl, hfin.1, hfin.2, hr1, hm0.trans hm1 (by simp)⟩
      · have h12' : ((n1 : Int) == 12) = false := by simp; omega
        go_wp2_with fail
        go_ret2
        exact ⟨x, 0, rfl, hfin.1, hfin.2, hr1, hm0.trans hm1 (by simp)⟩
end Go.Proofs.YtjdfemfobcjecaaGreat

/-
  math/bits.Len at a number below 2^16.
-/
namespace Go.Proofs.YtjdfemfobcjecaaGreat
open Go.RowKit Go.Sort

def lenRen : Go.Shelf.Ren := ⟨fun | 129 => 101 | n => n, fun | 3 => 3 | 4 => 4 | 5 => 5 | 9 => 9 | 46 => 127 | 53 => 22 | n => n, fun n => n⟩
theorem lenLays : Go.Proofs.Lays.n129 Tryz.prog lenRen := {
  mixed := by kernel_rfl,
  f129 := Tryz.func101.trans (congrArg some (by kernel_rfl)),
  t3 := Tryz.underlying3,
  a3 := Tryz.isAgg3,
  z3 := Tryz.sizeOf3,
  v3 := Tryz.zeroValue3,
  t4 := Tryz.underlying4,
  a4 := Tryz.isAgg4,
  z4 := Tryz.sizeOf4,
  v4 := Tryz.zeroValue4,
  t5 := Tryz.underlying5,
  a5 := Tryz.isAgg5,
  z5 := Tryz.sizeOf5,
  v5 := Tryz.zeroValue5,
  t9 := Tryz.underlying9,
  a9 := Tryz.isAgg9,
  z9 := Tryz.sizeOf9,
  v9 := Tryz.zeroValue9,
  t46 := Tryz.underlying127,
  a46 := Tryz.isAgg127,
  z46 := Tryz.sizeOf127,
  v46 := Tryz.zeroValue127,
  t53 := Tryz.underlying22,
  a53 := Tryz.isAgg22,
  z53 := Tryz.sizeOf22,
  v53 := Tryz.zeroValue22 }

theorem len64_u64 (w : World) (x : Nat) (hx : x < 65536) :
    Calls Tryz.prog 101 #[.int .u64 x] w fun e w' => e = .returned (.int .i64 (Lib.bitLen x : Nat)) ∧ w' = w :=
  Any.bits_Len64 lenLays x w (by omega) (by omega)

set_option maxHeartbeats 1000000 in
theorem len_u64 (w : World) (x : Nat) (hx : x < 65536) :
    Calls Tryz.prog 80 #[.int .u64 x] w fun e w' => e = .returned (.int .i64 (Lib.bitLen x : Nat)) ∧ w' = w := by
  go_enter Tryz.func80, Tryz.ntmps80
  go_wp2_with fail
  refine (len64_u64 w x hx).mono ?_
  rintro e w' ⟨rfl, rfl⟩
  go_wp2_with fail
  go_ret
  exact ⟨rfl, rfl⟩

theorem bitLenAux_ge : ∀ (f x : Nat), x < 2 ^ f → 0 < x → 2 ^ (Lib.bitLenAux f x) ≤ 2 * x
  | 0, x, h, h0 => by simp at h; omega
  | f + 1, x, h, h0 => by
    rw [Lib.bitLenAux, if_neg (by omega)]
    by_cases h1 : x / 2 = 0
    · rw [h1]
      have : Lib.bitLenAux f 0 = 0 := by cases f <;> simp [Lib.bitLenAux]
      rw [this]
      omega
    · have := bitLenAux_ge f (x / 2) (by rw [Nat.pow_succ] at h; omega) (by omega)
      rw [Nat.add_comm, Nat.pow_succ]
      omega
theorem bitLen_ge {x : Nat} (h : x < 65536) (h0 : 0 < x) : 2 ^ Lib.bitLen x ≤ 2 * x := bitLenAux_ge 64 x (by omega) h0
theorem bitLen_le16 {x : Nat} (h : x < 65536) : Lib.bitLen x ≤ 16 := Lib.bitLen_le x 16 (by omega) h
end Go.Proofs.YtjdfemfobcjecaaGreat

/-
  slices.breakPatternsOrdered at uint64: some permutation.
-/
namespace Go.Proofs.YtjdfemfobcjecaaGreat
open Go.RowKit Go.Sort

theorem xor_some (r : Nat) (hr : r < 18446744073709551616) (y : Int) (h0 : 0 ≤ y) (h1 : y < 18446744073709551616) : ∃ r' : Nat, bits .xor .u64 (r : Int) y = (r' : Int) ∧ r' < 18446744073709551616 := by
  obtain ⟨z, rfl⟩ := Int.eq_ofNat_of_zero_le h0
  refine ⟨r ^^^ z, bits_xor_u64_nat r z hr (by omega), ?_⟩
  have := Nat.xor_lt_two_pow (n := 64) (x := r) (y := z) (by omega) (by omega)
  omega
theorem wrap_some (y : Int) : 0 ≤ IntKind.u64.wrap y ∧ IntKind.u64.wrap y < 18446744073709551616 := by
  rw [IntKind.wrap_u64]; omega

theorem xs_step {w0 w : World} {rp : Nat} {t : TypeId} {u : Value} (h : Blk w rp t #[u]) (hm : Mod [rp] w0 w) (v : Value) :
    Blk (w.drew.setCell ⟨rp, 0, none⟩ v) rp t #[v] ∧ Mod [rp] w0 (w.drew.setCell ⟨rp, 0, none⟩ v) :=
  ⟨by simpa using Blk.set_ (w := w.drew) h 0 v, hm.drew.setCell (p := ⟨rp, 0, none⟩) (.inl (by simp)) v⟩

set_option maxHeartbeats 4000000 in
theorem sonext_any (w : World) (rp r : Nat) (hr : r < 18446744073709551616) (h : Blk w rp 151 #[.int .u64 (r : Int)]) :
    Calls Tryz.prog 113 #[.pointer (some ⟨rp, 0, none⟩)] w fun e w' =>
      ∃ r' : Nat, e = .returned (.int .u64 (r' : Int)) ∧ r' < 18446744073709551616 ∧ Blk w' rp 151 #[.int .u64 (r' : Int)] ∧ Mod [rp] w w' := by
  obtain ⟨r1, h1, hr1⟩ := xor_some r hr (IntKind.u64.wrap ((r : Int) * 8192)) (wrap_some _).1 (wrap_some _).2
  obtain ⟨r2, h2, hr2⟩ := xor_some r1 hr1 ((r1 : Int) / 128) (by omega) (by omega)
  obtain ⟨r3, h3, hr3⟩ := xor_some r2 hr2 (IntKind.u64.wrap ((r2 : Int) * 131072)) (wrap_some _).1 (wrap_some _).2
  have hm := Mod.refl [rp] w
  go_enter Tryz.func113, Tryz.ntmps113
  go_upto_region 1 with fail
  go_cut [] (fun wx => Blk wx rp 151 #[.int .u64 (r1 : Int)] ∧ Mod [rp] w wx)
  case first =>
    have c0 := h.cell 0
    have f0 := h.frozen 0
    simp at c0
    have S := hide (xs_step h hm (.int .u64 (r1 : Int)))
    clear h hm
    go_region
    all_goals (go_wp2_with fail; go_meet)
    all_goals exact S.out
  case rest =>
    clear h hm
    obtain ⟨h, hm⟩ := hcut
    go_upto_region 2 with fail
    go_cut [] (fun wx => Blk wx rp 151 #[.int .u64 (r2 : Int)] ∧ Mod [rp] w wx)
    case first =>
      have c0 := h.cell 0
      have f0 := h.frozen 0
      simp at c0
      have S := hide (xs_step h hm (.int .u64 (r2 : Int)))
      clear h hm
      go_region
      all_goals (go_wp2_with fail; go_meet)
      all_goals exact S.out
    case rest =>
      clear h hm
      obtain ⟨h, hm⟩ := hcut
      go_upto_region 3 with fail
      go_cut [] (fun wx => Blk wx rp 151 #[.int .u64 (r3 : Int)] ∧ Mod [rp] w wx)
      case first =>
        have c0 := h.cell 0
        have f0 := h.frozen 0
        simp at c0
        have S := hide (xs_step h hm (.int .u64 (r3 : Int)))
        clear h hm
        go_region
        all_goals (go_wp2_with fail; go_meet)
        all_goals exact S.out
      case rest =>
        clear h hm
        obtain ⟨h, hm⟩ := hcut
        have c0 := h.cell 0
        simp at c0
        go_wp2_with fail
        go_ret
        exact ⟨r3, rfl, hr3, h, hm⟩
end Go.Proofs.YtjdfemfobcjecaaGreat

/-
  slices.breakPatternsOrdered at uint64: some permutation.
-/
namespace Go.Proofs.YtjdfemfobcjecaaGreat
open Go.RowKit Go.Sort

set_option maxHeartbeats 2000000 in
theorem pow2_any (w : World) (n : Nat) (h0 : 0 < n) (hn : n < 65536) :
    Calls Tryz.prog 112 #[.int .i64 (n : Int)] w fun e w' => ∃ m : Nat, e = .returned (.int .u64 ((m : Int) + 1)) ∧ m + 1 ≤ 2 * n ∧ w' = w := by
  have hb := bitLen_ge hn h0
  have hw : IntKind.u64.wrap (n : Int) = n := IntWalk.u64_in _ (by omega)
  obtain ⟨m, hm⟩ : ∃ m, m + 1 = 2 ^ Lib.bitLen n := ⟨2 ^ Lib.bitLen n - 1, by have := Nat.two_pow_pos (Lib.bitLen n); omega⟩
  have h16 := bitLen_le16 hn
  rw [← hm] at hb
  have H16 := hide h16
  have Hm := hide hm
  obtain ⟨k, hk⟩ : ∃ k, Lib.bitLen n = k := ⟨_, rfl⟩
  rw [hk] at h16
  have hsh : IntKind.u64.wrap ((2 : Int) ^ k) = m + 1 := by
    have e : ((2 : Int) ^ k) = ((2 ^ k : Nat) : Int) := by simp
    rw [e, ← hk, ← hm]
    exact IntWalk.u64_in _ (by omega)
  have hk63 : (k : Int) ≤ 63 := by omega
  have Hk := hide hk
  clear hk hm h16
  go_enter Tryz.func112, Tryz.ntmps112
  go_wp2_with fail
  refine (len_u64 w n hn).mono ?_
  rintro e w' ⟨rfl, rfl⟩
  rw [Hk.out]
  go_wp2_with fail
  go_ret
  exact ⟨m, rfl, hb, rfl⟩

theorem Blk.swapFar {w : World} {k g : Nat} {t : TypeId} {cs : Array Value} (h : Blk w k t cs) (hne : ¬ k = g) (i j : Nat) (x y : Value) :
    Blk (((w.drewN 1).setCell ⟨g, i, none⟩ x).setCell ⟨g, j, none⟩ y) k t cs :=
  Blk.far (Blk.far (w := w.drewN 1) h (p := ⟨g, i, none⟩) hne x) (p := ⟨g, j, none⟩) hne y

set_option maxRecDepth 100000 in
set_option maxHeartbeats 8000000 in
theorem break_u64 (w : World) (g cap a b : Nat) (d : Array Int) (R : List Value) (hr : Row w g d R) (hab : a + 12 < b) (hb : b ≤ d.size) (hsz : d.size < 65536) (len : Nat) (hlen : d.size = len) :
    Calls Tryz.prog 93 #[.slice (some ⟨g, 0, none⟩) len cap, .int .i64 a, .int .i64 b] w fun e w' =>
      e = .returned (.tuple #[]) ∧ ∃ d', PermIn a b d d' ∧ Row w' g d' R ∧ Mod [g] w w' := by
  subst hlen
  obtain ⟨n, hn⟩ : ∃ n, n = b - a := ⟨_, rfl⟩
  have hn' : (b : Int) - a = n := by omega
  have hn12 : 12 < n := by omega
  have hab2 : a + n = b := by omega
  have hns : n < 65536 := by omega
  obtain ⟨q, hq⟩ : ∃ q, q = n / 4 := ⟨_, rfl⟩
  have hq' : (n : Int).tdiv 4 = q := by
    rw [Int.tdiv_eq_ediv_of_nonneg (by omega)]
    omega
  have hq4 : 4 * q ≤ n ∧ n < 4 * q + 4 := by omega
  obtain ⟨s, hs⟩ : ∃ s, s = a + q * 2 := ⟨_, rfl⟩
  have hs' : (a : Int) + q * 2 = s := by omega
  have hsb : a < s ∧ s + 2 < b := by omega
  clear hq hn hs
  have hwn : IntKind.i64.wrap (n : Int) = n := IntWalk.i64_in _ (by omega)
  have hwq : IntKind.i64.wrap (q : Int) = q := IntWalk.i64_in _ (by omega)
  have hws : IntKind.i64.wrap (s : Int) = s := IntWalk.i64_in _ (by omega)
  have hun : IntKind.u64.wrap (n : Int) = n := IntWalk.u64_in _ (by omega)
  have hb2 : Blk (w.alloc (.cells #[.int .u64 (n : Int)] 151)) w.heap.size 151 #[.int .u64 (n : Int)] := Blk.new w _ _
  have hr2 : Row (w.alloc (.cells #[.int .u64 (n : Int)] 151)) g d R := Blk.alloc hr _
  have hm2 : Mod [g] w (w.alloc (.cells #[.int .u64 (n : Int)] 151)) := (Mod.refl _ _).alloc _
  have HB := hide hb2
  have HR := hide hr2
  have HM := hide hm2
  have hglt : g < w.heap.size := hr.lt
  clear hb2 hr2 hm2 hr
  go_enter Tryz.func93, Tryz.ntmps93
  go_wp2_with fail
  refine (pow2_any _ n (by omega) hns).mono ?_
  rintro e w' ⟨m, rfl, hmn, rfl⟩
  have hm1 : (m : Int) + 1 - 1 = m := by omega
  go_wp2_with fail
  go_loopw [9] (fun v wr => ∃ (ix r : Nat) (dk : Array Int), v = .int .i64 (ix : Int) ∧ s ≤ ix + 1 ∧ ix ≤ s + 2 ∧ r < 18446744073709551616 ∧ dk.size = d.size ∧ PermIn a b d dk ∧ Blk wr w.heap.size 151 #[.int .u64 (r : Int)] ∧ Row wr g dk R ∧ Mod [g] w wr)
    (fun v _ => s + 3 - (intOf v).toNat)
  case atStart => exact ⟨s - 1, n, d, by congr 1; omega, by omega, by omega, by omega, rfl, permIn_refl _ _ _, HB.out, HR.out, HM.out⟩
  case round =>
    clear HB HR HM
    obtain ⟨ix, r, dk, rfl, hx1, hx2, hrl, hsk, hP, hB, hr, hm⟩ := hrel
    by_cases hle : ix ≤ s + 1
    · have hle' : (ix : Int) ≤ (s : Int) + 1 := by omega
      go_wp2_with fail
      refine (sonext_any _ w.heap.size r hrl hB).mono ?_
      rintro e w2 ⟨r', rfl, hr', hB2, hM2⟩
      have hr2 := hr.mod hM2 (by simp; omega)
      have hm2 : Mod [g] w w2 := hm.trans hM2 (by simp)
      clear hB hr hm hM2
      have hand := bits_and_u64_nat r' m hr' (by omega)
      obtain ⟨o, ho⟩ : ∃ o, r' &&& m = o := ⟨_, rfl⟩
      have hom : o ≤ m := by rw [← ho]; exact Nat.and_le_right
      rw [ho] at hand
      clear ho
      have hwo : IntKind.i64.wrap (o : Int) = o := IntWalk.i64_in _ (by omega)
      go_upto_if 43 with fail
      go_cut [10] (fun v wx => ∃ o2 : Nat, v = .int .i64 (o2 : Int) ∧ o2 < n ∧ Blk wx w.heap.size 151 #[.int .u64 (r' : Int)] ∧ Row wx g dk R ∧ Mod [g] w wx)
      case first =>
        by_cases hon : n ≤ o
        · have hon' : (n : Int) ≤ o := by omega
          go_wp2_with fail
          go_meet
          exact ⟨o - n, by congr 1; omega, by omega, hB2, hr2, hm2⟩
        · have hon' : ¬ (n : Int) ≤ o := by omega
          go_wp2_with fail
          go_meet
          exact ⟨o, rfl, by omega, hB2, hr2, hm2⟩
      case rest =>
        clear hB2 hr2 hm2 hand hwo hom
        obtain ⟨o2, rfl, ho2, hB, hr, hm⟩ := hcut
        obtain ⟨p, hp⟩ : ∃ p, p = a + o2 := ⟨_, rfl⟩
        have hp' : (a : Int) + o2 = p := by omega
        have hpb : a ≤ p ∧ p < b := by omega
        have hwp : IntKind.i64.wrap (p : Int) = p := IntWalk.i64_in _ (by omega)
        clear hp
        obtain ⟨x, hx⟩ : ∃ z, dk[ix]! = z := ⟨_, rfl⟩
        obtain ⟨y, hy⟩ : ∃ z, dk[p]! = z := ⟨_, rfl⟩
        have c1 := hr.cell (j := ix) (by omega)
        have c2 := hr.cell (j := p) (by omega)
        have f1 := hr.frozen ix
        have f2 := hr.frozen p
        rw [hx] at c1
        rw [hy] at c2
        have hsi : ix < d.size := by omega
        have hsj : p < d.size := by omega
        have hgw : ¬ w.heap.size = g := by omega
        have fin : ∃ (ix' r : Nat) (dk' : Array Int), Value.int .i64 ((ix : Int) + 1) = .int .i64 (ix' : Int) ∧ s ≤ ix' + 1 ∧ ix' ≤ s + 2 ∧ r < 18446744073709551616 ∧ dk'.size = d.size ∧ PermIn a b d dk' ∧ Blk (((wc.drewN 1).setCell ⟨g, ix, none⟩ (.int .u64 y)).setCell ⟨g, p, none⟩ (.int .u64 x)) w.heap.size 151 #[.int .u64 (r : Int)] ∧ Row (((wc.drewN 1).setCell ⟨g, ix, none⟩ (.int .u64 y)).setCell ⟨g, p, none⟩ (.int .u64 x)) g dk' R ∧ Mod [g] w (((wc.drewN 1).setCell ⟨g, ix, none⟩ (.int .u64 y)).setCell ⟨g, p, none⟩ (.int .u64 x)) :=
          ⟨ix + 1, r', swp dk ix p, by go_num, by omega, by omega, hr', by rw [size_swp]; exact hsk, permIn_trans _ _ _ a b hP (swp_permIn dk a b ix p (by omega) (by omega) (by omega) (by omega) (by omega)), Blk.swapFar hB hgw ix p (.int .u64 y) (.int .u64 x), hr.swapN (i := ix) (j := p) (by omega) (by omega) hy hx 1, hm.swapN 1 ix p (.int .u64 y) (.int .u64 x)⟩
        have FIN := hide fin
        clear fin hr hm hB
        by_cases hpa : ix = p
        · subst hpa
          obtain rfl : x = y := hx.symm.trans hy
          go_wp2_with fail
          go_region
          all_goals go_wp2_with fail
          go_roundw
          case rel => exact FIN.out
          case measure => simp [intOf]; omega
        · have hap : ¬ p = ix := fun e => hpa e.symm
          go_wp2_with fail
          go_region
          all_goals go_wp2_with fail
          go_roundw
          case rel => exact FIN.out
          case measure => simp [intOf]; omega
    · have hle' : decide ((ix : Int) ≤ (s : Int) + 1) = false := decide_eq_false (by omega)
      go_wp2_with fail
      go_end0
      exact ⟨rfl, dk, hP, hr, hm⟩
end Go.Proofs.YtjdfemfobcjecaaGreat

/-
  slices.siftDownOrdered, heapSortOrdered, reverseRangeOrdered at uint64.
-/
namespace Go.Proofs.YtjdfemfobcjecaaGreat
open Go.RowKit Go.Sort

theorem sift_stop {hi first root : Nat} {d : Array Int} (h : hi ≤ 2 * root + 1) : siftDown ltInt hi first root d = d := by
  rw [siftDown]; simp [h]
theorem sift_no {hi first root k p q : Nat} {d : Array Int} (hc : 2 * root + 1 < hi) (hk : k = if 2 * root + 2 < hi ∧ ltInt d[first + (2 * root + 1)]! d[first + (2 * root + 1) + 1]! = true then 2 * root + 2 else 2 * root + 1)
    (hp : p = first + root) (hq : q = first + k) (hl : ltInt d[p]! d[q]! = false) : siftDown ltInt hi first root d = d := by
  subst hp hq
  rw [siftDown, dif_neg (by omega)]
  by_cases h2 : 2 * root + 2 < hi ∧ ltInt d[first + (2 * root + 1)]! d[first + (2 * root + 1) + 1]! = true
  · rw [if_pos h2] at hk
    subst hk
    rw [if_pos (by simpa using h2), if_pos (by simp [hl])]
  · rw [if_neg h2] at hk
    subst hk
    rw [if_neg (by simpa using h2), if_pos (by simp [hl])]
theorem sift_yes {hi first root k p q : Nat} {d : Array Int} (hc : 2 * root + 1 < hi) (hk : k = if 2 * root + 2 < hi ∧ ltInt d[first + (2 * root + 1)]! d[first + (2 * root + 1) + 1]! = true then 2 * root + 2 else 2 * root + 1)
    (hp : p = first + root) (hq : q = first + k) (hl : ltInt d[p]! d[q]! = true) : siftDown ltInt hi first root d = siftDown ltInt hi first k (swp d p q) := by
  subst hp hq
  rw [siftDown, dif_neg (by omega)]
  by_cases h2 : 2 * root + 2 < hi ∧ ltInt d[first + (2 * root + 1)]! d[first + (2 * root + 1) + 1]! = true
  · rw [if_pos h2] at hk
    subst hk
    rw [if_pos (by simpa using h2), if_neg (by simp [hl]), dif_pos h2.1]
  · rw [if_neg h2] at hk
    subst hk
    rw [if_neg (by simpa using h2), if_neg (by simp [hl])]

set_option maxHeartbeats 4000000 in
theorem sift_u64 (w : World) (g cap lo hi first : Nat) (d : Array Int) (R : List Value) (h : Row w g d R) (hb : first + hi ≤ d.size) (hlo : lo ≤ hi) (hsz : d.size ≤ 1099511627776) (len : Nat) (hlen : d.size = len) :
    Calls Tryz.prog 111 #[.slice (some ⟨g, 0, none⟩) len cap, .int .i64 lo, .int .i64 hi, .int .i64 first] w fun e w' =>
      e = .returned (.tuple #[]) ∧ Row w' g (siftDown ltInt hi first lo d) R ∧ Mod [g] w w' := by
  subst hlen
  go_enter Tryz.func111, Tryz.ntmps111
  go_wp2
  go_loopw [8] (fun v wr => ∃ (root : Nat) (dk : Array Int), v = .int .i64 (root : Int) ∧ root ≤ hi ∧ dk.size = d.size ∧ Row wr g dk R ∧ Mod [g] w wr ∧ siftDown ltInt hi first root dk = siftDown ltInt hi first lo d)
    (fun v _ => hi - (intOf v).toNat)
  case atStart => exact ⟨lo, d, rfl, hlo, rfl, h, Mod.refl _ _, rfl⟩
  case round =>
    obtain ⟨root, dk, rfl, hrt, hsk, hr, hm, hO⟩ := hrel
    have HO := hide hO
    clear hO h
    obtain ⟨k1, hk1⟩ : ∃ k, k = 2 * root + 1 := ⟨_, rfl⟩
    have hk1' : (2 : Int) * root + 1 = k1 := by omega
    have Hk1 := hide hk1
    clear hk1
    by_cases hc : k1 < hi
    · have Hc : Hid (2 * root + 1 < hi) := hide (by have := Hk1.out; omega)
      have Hlt : Hid (root < k1) := hide (by have := Hk1.out; omega)
      obtain ⟨p, hp⟩ : ∃ k, k = first + root := ⟨_, rfl⟩
      have hp' : (first : Int) + root = p := by omega
      have hps : p < d.size := by have := Hk1.out; omega
      have hwp : IntKind.i64.wrap (p : Int) = p := IntWalk.i64_in _ (by omega)
      have Hp := hide hp
      clear hp
      obtain ⟨q1, hq1⟩ : ∃ k, k = first + k1 := ⟨_, rfl⟩
      have hq1' : (first : Int) + k1 = q1 := by omega
      have hqs1 : q1 < d.size := by omega
      have hwq : IntKind.i64.wrap (q1 : Int) = q1 := IntWalk.i64_in _ (by omega)
      have hwk : IntKind.i64.wrap ((k1 : Int) + 1) = k1 + 1 := IntWalk.i64_in _ (by omega)
      have Hq1 := hide hq1
      clear hq1
      obtain ⟨x, hx⟩ : ∃ x, dk[p]! = x := ⟨_, rfl⟩
      obtain ⟨y, hy⟩ : ∃ x, dk[q1]! = x := ⟨_, rfl⟩
      have c1 := hr.cell (j := p) (by omega)
      have c2 := hr.cell (j := q1) (by omega)
      have f1 := hr.frozen p
      have f2 := hr.frozen q1
      rw [hx] at c1
      rw [hy] at c2
      have Hx := hide hx
      have Hy := hide hy
      clear hx hy
      by_cases hc2 : k1 + 1 < hi
      · obtain ⟨z, hz⟩ : ∃ x, dk[q1 + 1]! = x := ⟨_, rfl⟩
        have c3 := hr.cell (j := q1 + 1) (by omega)
        rw [hz] at c3
        have f3 := hr.frozen (q1 + 1)
        have Hz := hide hz
        clear hz
        have hc2' : (k1 : Int) + 1 < hi := by omega
        have hwq2 : IntKind.i64.wrap ((q1 : Int) + 1) = q1 + 1 := IntWalk.i64_in _ (by omega)
        have hq2' : (first : Int) + ((k1 : Int) + 1) = (q1 : Int) + 1 := by omega
        cases hl : ltInt y z
        · go_wp2_with fail
          go_quiet (first | (go_at_call 97; refine Calls.quiet_of (lessQ _ _ _)))
          have HK : Hid (k1 = if 2 * root + 2 < hi ∧ ltInt dk[first + (2 * root + 1)]! dk[first + (2 * root + 1) + 1]! = true then 2 * root + 2 else 2 * root + 1) := hide (by
            have e : first + (2 * root + 1) = q1 := by have := Hq1.out; have := Hk1.out; omega
            rw [e, Hy.out, Hz.out, hl]; simpa using Hk1.out)
          cases hl2 : ltInt x y
          · have hs : Hid (siftDown ltInt hi first root dk = dk) := hide (sift_no Hc.out HK.out Hp.out (q := q1) (by have := Hq1.out; have := Hk1.out; omega) (by rw [Hx.out, Hy.out]; exact hl2))
            go_wp2_with fail
            go_quiet (first | (go_at_call 97; exact quiet_add (lessQ _ _ _)))
            go_wp2
            refine bodyPost_ret (results_none rfl _ _ _) rfl ?_
            exact ⟨rfl, by rw [← HO.out, hs.out]; exact (hr.drewN _).drewN _, (hm.drewN _).drewN _⟩
          · have hs : Hid (siftDown ltInt hi first root dk = siftDown ltInt hi first (k1) (swp dk p (q1))) := hide (sift_yes Hc.out HK.out Hp.out (q := q1) (by have := Hq1.out; have := Hk1.out; omega) (by rw [Hx.out, Hy.out]; exact hl2))
            go_wp2_with fail
            go_quiet (first | (go_at_call 97; exact quiet_add (lessQ _ _ _)))
            go_wp2
            go_region
            all_goals go_wp2
            go_roundw
            case rel => exact ⟨k1, swp dk p (q1), by go_num, by omega, by rw [size_swp]; exact hsk, hr.swapN (by omega) (by omega) Hy.out Hx.out _, hm.swapN _ _ _ _ _, hs.out.symm.trans HO.out⟩
            case measure => simp [intOf]; have := Hlt.out; omega
        · go_wp2_with fail
          go_quiet (first | (go_at_call 97; refine Calls.quiet_of (lessQ _ _ _)))
          have HK : Hid (k1 + 1 = if 2 * root + 2 < hi ∧ ltInt dk[first + (2 * root + 1)]! dk[first + (2 * root + 1) + 1]! = true then 2 * root + 2 else 2 * root + 1) := hide (by
            have e : first + (2 * root + 1) = q1 := by have := Hq1.out; have := Hk1.out; omega
            rw [e, Hy.out, Hz.out, hl, if_pos ⟨by have := Hk1.out; omega, rfl⟩]; have := Hk1.out; omega)
          cases hl2 : ltInt x z
          · have hs : Hid (siftDown ltInt hi first root dk = dk) := hide (sift_no Hc.out HK.out Hp.out (q := q1 + 1) (by have := Hq1.out; have := Hk1.out; omega) (by rw [Hx.out, Hz.out]; exact hl2))
            go_wp2_with fail
            go_quiet (first | (go_at_call 97; exact quiet_add (lessQ _ _ _)))
            go_wp2
            refine bodyPost_ret (results_none rfl _ _ _) rfl ?_
            exact ⟨rfl, by rw [← HO.out, hs.out]; exact (hr.drewN _).drewN _, (hm.drewN _).drewN _⟩
          · have hs : Hid (siftDown ltInt hi first root dk = siftDown ltInt hi first (k1 + 1) (swp dk p (q1 + 1))) := hide (sift_yes Hc.out HK.out Hp.out (q := q1 + 1) (by have := Hq1.out; have := Hk1.out; omega) (by rw [Hx.out, Hz.out]; exact hl2))
            go_wp2_with fail
            go_quiet (first | (go_at_call 97; exact quiet_add (lessQ _ _ _)))
            go_wp2
            go_region
            all_goals go_wp2
            go_roundw
            case rel => exact ⟨k1 + 1, swp dk p (q1 + 1), by go_num, by omega, by rw [size_swp]; exact hsk, hr.swapN (by omega) (by omega) Hz.out Hx.out _, hm.swapN _ _ _ _ _, hs.out.symm.trans HO.out⟩
            case measure => simp [intOf]; have := Hlt.out; omega
      ·
        have hc2' : decide ((k1 : Int) + 1 < hi) = false := decide_eq_false (by omega)
        go_wp2_with fail
        go_quiet (fail)
        have HK : Hid (k1 = if 2 * root + 2 < hi ∧ ltInt dk[first + (2 * root + 1)]! dk[first + (2 * root + 1) + 1]! = true then 2 * root + 2 else 2 * root + 1) := hide (by
          have e : first + (2 * root + 1) = q1 := by have := Hq1.out; have := Hk1.out; omega
          rw [if_neg (fun h => by have h2 := h.1; have := Hk1.out; omega)]; exact Hk1.out)
        cases hl2 : ltInt x y
        · have hs : Hid (siftDown ltInt hi first root dk = dk) := hide (sift_no Hc.out HK.out Hp.out (q := q1) (by have := Hq1.out; have := Hk1.out; omega) (by rw [Hx.out, Hy.out]; exact hl2))
          go_wp2_with fail
          go_quiet (first | (go_at_call 97; exact quiet_add (lessQ _ _ _)))
          go_wp2
          refine bodyPost_ret (results_none rfl _ _ _) rfl ?_
          exact ⟨rfl, by rw [← HO.out, hs.out]; exact (hr.drewN _).drewN _, (hm.drewN _).drewN _⟩
        · have hs : Hid (siftDown ltInt hi first root dk = siftDown ltInt hi first (k1) (swp dk p (q1))) := hide (sift_yes Hc.out HK.out Hp.out (q := q1) (by have := Hq1.out; have := Hk1.out; omega) (by rw [Hx.out, Hy.out]; exact hl2))
          go_wp2_with fail
          go_quiet (first | (go_at_call 97; exact quiet_add (lessQ _ _ _)))
          go_wp2
          go_region
          all_goals go_wp2
          go_roundw
          case rel => exact ⟨k1, swp dk p (q1), by go_num, by omega, by rw [size_swp]; exact hsk, hr.swapN (by omega) (by omega) Hy.out Hx.out _, hm.swapN _ _ _ _ _, hs.out.symm.trans HO.out⟩
          case measure => simp [intOf]; have := Hlt.out; omega
    · have hs : Hid (siftDown ltInt hi first root dk = dk) := hide (sift_stop (by have := Hk1.out; omega))
      go_wp2
      go_end0
      exact ⟨rfl, by rw [← HO.out, hs.out]; exact hr, hm⟩
end Go.Proofs.YtjdfemfobcjecaaGreat

/-
  slices.heapSortOrdered, reverseRangeOrdered at uint64.
-/
namespace Go.Proofs.YtjdfemfobcjecaaGreat
open Go.RowKit Go.Sort

theorem sift_size {hi first root : Nat} {d : Array Int} : (siftDown ltInt hi first root d).size = d.size := by
  fun_induction siftDown ltInt hi first root d <;> simp_all [size_swp]
theorem reverse_yes {i j : Nat} {d : Array Int} (h : i < j) : reverseLoop i j d = reverseLoop (i + 1) (j - 1) (swp d i j) := by
  rw [reverseLoop.eq_def, if_pos h]
theorem reverse_no {i j : Nat} {d : Array Int} (h : ¬ i < j) : reverseLoop i j d = d := by
  rw [reverseLoop.eq_def, if_neg h]

set_option maxHeartbeats 2000000 in
theorem reverse_u64 (w : World) (g cap a b : Nat) (d : Array Int) (R : List Value) (h : Row w g d R) (hb : b ≤ d.size) (ha : a < b) (hsz : d.size ≤ 1099511627776) (len : Nat) (hlen : d.size = len) :
    Calls Tryz.prog 95 #[.slice (some ⟨g, 0, none⟩) len cap, .int .i64 a, .int .i64 b] w fun e w' =>
      e = .returned (.tuple #[]) ∧ Row w' g (reverseRange d a b) R ∧ Mod [g] w w' := by
  subst hlen
  go_enter Tryz.func95, Tryz.ntmps95
  go_wp2
  go_loopw [6, 7] (fun u v wr => ∃ (i j : Nat) (dk : Array Int), u = .int .i64 (i : Int) ∧ v = .int .i64 (j : Int) ∧ i ≤ b ∧ j < b ∧ dk.size = d.size ∧ Row wr g dk R ∧ Mod [g] w wr ∧ reverseLoop i j dk = reverseRange d a b)
    (fun u _ _ => b + 1 - (intOf u).toNat)
  case atStart => exact ⟨a, b - 1, d, rfl, by congr 1; omega, by omega, by omega, rfl, h, Mod.refl _ _, rfl⟩
  case round =>
    obtain ⟨i, j, dk, rfl, rfl, hi, hj, hsk, hr, hm, hO⟩ := hrel
    have HO := hide hO
    clear hO h
    by_cases hlt : i < j
    · obtain ⟨x, hx⟩ : ∃ x, dk[i]! = x := ⟨_, rfl⟩
      obtain ⟨y, hy⟩ : ∃ x, dk[j]! = x := ⟨_, rfl⟩
      have c1 := hr.cell (j := i) (by omega)
      have c2 := hr.cell (j := j) (by omega)
      have f1 := hr.frozen i
      have f2 := hr.frozen j
      rw [hx] at c1
      rw [hy] at c2
      have Hx := hide hx
      have Hy := hide hy
      clear hx hy
      go_wp2
      go_region
      all_goals go_wp2
      go_roundw
      case rel => exact ⟨i + 1, j - 1, swp dk i j, by go_num, by congr 1; omega, by omega, by omega, by rw [size_swp]; exact hsk, hr.swapN (by omega) (by omega) Hy.out Hx.out 1, hm.swapN 1 _ _ _ _, by rw [← HO.out, reverse_yes hlt]⟩
      case measure => simp [intOf]; omega
    · go_wp2
      go_end0
      exact ⟨rfl, by rw [← HO.out, reverse_no hlt]; exact hr, hm⟩

set_option maxHeartbeats 2000000 in
theorem heap_u64 (w : World) (g cap a b : Nat) (d : Array Int) (R : List Value) (h : Row w g d R) (hb : b ≤ d.size) (ha : a < b) (hsz : d.size ≤ 1099511627776) (len : Nat) (hlen : d.size = len) :
    Calls Tryz.prog 92 #[.slice (some ⟨g, 0, none⟩) len cap, .int .i64 a, .int .i64 b] w fun e w' =>
      e = .returned (.tuple #[]) ∧ Row w' g (heapSort ltInt d a b) R ∧ Mod [g] w w' := by
  subst hlen
  obtain ⟨n, hn⟩ : ∃ n, n = b - a := ⟨_, rfl⟩
  have hn' : (b : Int) - a = n := by omega
  have hq : ((n : Int) - 1).tdiv 2 = (((n - 1) / 2 : Nat) : Int) := by
    rw [Int.tdiv_eq_ediv_of_nonneg (by omega)]
    omega
  have hn0 : 0 < n := by omega
  have hns : a + n ≤ d.size := by omega
  have HS : Hid (heapSort ltInt d a b = heapPop ltInt a n (heapBuild ltInt n a ((n - 1) / 2 + 1) d)) := hide (by rw [hn]; rfl)
  have hwn : IntKind.i64.wrap (n : Int) = n := IntWalk.i64_in _ (by omega)
  clear hn
  go_enter Tryz.func92, Tryz.ntmps92
  go_wp2
  go_loopw [9] (fun v wr => ∃ (k : Nat) (dk : Array Int), v = .int .i64 ((k : Int) - 1) ∧ k ≤ n ∧ dk.size = d.size ∧ Row wr g dk R ∧ Mod [g] w wr ∧ heapBuild ltInt n a k dk = heapBuild ltInt n a ((n - 1) / 2 + 1) d)
    (fun v _ => (intOf v + 1).toNat)
  case atStart =>
    exact ⟨(n - 1) / 2 + 1, d, by congr 1; omega, by omega, rfl, h, Mod.refl _ _, rfl⟩
  case round =>
    obtain ⟨k, dk, rfl, hk, hsk, hr, hm, hO⟩ := hrel
    have HO := hide hO
    clear hO h
    cases k with
    | succ m =>
      have hm1 : ((m + 1 : Nat) : Int) - 1 = m := by omega
      rw [hm1]
      go_wp2_with fail
      refine (sift_u64 _ g cap m n a dk R hr (by omega) (by omega) (by omega) _ hsk).mono ?_
      rintro e wx ⟨rfl, hr', hm'⟩
      go_wp2_with fail
      go_roundw
      case rel => exact ⟨m, _, by go_num, by omega, sift_size.trans hsk, hr', hm.trans hm' (by simp), by rw [← HO.out]; rfl⟩
      case measure => simp [intOf]
    | zero =>
      have hm1 : ((0 : Nat) : Int) - 1 = -1 := by omega
      rw [hm1]
      have HO2 : Hid (heapSort ltInt d a b = heapPop ltInt a n dk) := hide (by rw [HS.out, ← HO.out]; rfl)
      go_wp2_with fail
      go_loopw [10] (fun v wr => ∃ (k : Nat) (dk : Array Int), v = .int .i64 ((k : Int) - 1) ∧ k ≤ n ∧ dk.size = d.size ∧ Row wr g dk R ∧ Mod [g] w wr ∧ heapPop ltInt a k dk = heapSort ltInt d a b)
        (fun v _ => (intOf v + 1).toNat)
      case atStart => exact ⟨n, dk, by congr 1, by omega, hsk, hr, hm, HO2.out.symm⟩
      case round =>
        clear hr hm hsk HO2
        obtain ⟨k, dk, rfl, hk, hsk, hr, hm, hO⟩ := hrel
        have HP := hide hO
        clear hO
        cases k with
        | succ m =>
          have hm2 : ((m + 1 : Nat) : Int) - 1 = m := by omega
          rw [hm2]
          obtain ⟨p, hp⟩ : ∃ k, k = a + m := ⟨_, rfl⟩
          have hp' : (a : Int) + m = p := by omega
          have hps : p < d.size := by omega
          have hwp : IntKind.i64.wrap (p : Int) = p := IntWalk.i64_in _ (by omega)
          have Hp := hide hp
          clear hp
          obtain ⟨x, hx⟩ : ∃ x, dk[a]! = x := ⟨_, rfl⟩
          obtain ⟨y, hy⟩ : ∃ x, dk[p]! = x := ⟨_, rfl⟩
          have c1 := hr.cell (j := a) (by omega)
          have c2 := hr.cell (j := p) (by omega)
          have f1 := hr.frozen a
          have f2 := hr.frozen p
          rw [hx] at c1
          rw [hy] at c2
          have Hx := hide hx
          have Hy := hide hy
          clear hx hy
          have hr2 := hr.swapN (i := a) (j := p) (by omega) (by omega) Hy.out Hx.out 1
          have hm3 := hm.swapN 1 a p (.int .u64 y) (.int .u64 x)
          have has : a < d.size := by omega
          have Hr2 := hide hr2
          have Hm3 := hide hm3
          clear hr2 hm3
          by_cases hpa : p = a
          · subst hpa
            obtain rfl : x = y := Hx.out.symm.trans Hy.out
            go_wp2_with fail
            go_region
            all_goals go_wp2_with fail
            refine (sift_u64 _ g cap 0 m p (swp dk p p) R Hr2.out (by rw [size_swp]; omega) (by omega) (by rw [size_swp]; omega) _ (by rw [size_swp]; exact hsk)).mono ?_
            rintro e wx ⟨rfl, hr', hm'⟩
            go_wp2_with fail
            go_roundw
            case rel => exact ⟨m, _, by go_num, by omega, sift_size.trans (by rw [size_swp]; exact hsk), hr', Hm3.out.trans hm' (by simp), by rw [← HP.out]; show _ = heapPop ltInt p m (siftDown ltInt m p 0 (swp dk p (p + m))); rw [← Hp.out]⟩
            case measure => simp [intOf]
          · have hap : ¬ a = p := fun e => hpa e.symm
            go_wp2_with fail
            go_region
            all_goals go_wp2_with fail
            refine (sift_u64 _ g cap 0 m a (swp dk a p) R Hr2.out (by rw [size_swp]; omega) (by omega) (by rw [size_swp]; omega) _ (by rw [size_swp]; exact hsk)).mono ?_
            rintro e wx ⟨rfl, hr', hm'⟩
            go_wp2_with fail
            go_roundw
            case rel => exact ⟨m, _, by go_num, by omega, sift_size.trans (by rw [size_swp]; exact hsk), hr', Hm3.out.trans hm' (by simp), by rw [← HP.out, Hp.out]; rfl⟩
            case measure => simp [intOf]
        | zero =>
          have hm2 : ((0 : Nat) : Int) - 1 = -1 := by omega
          rw [hm2]
          go_wp2_with fail
          go_end0
          exact ⟨rfl, by rw [← HP.out]; exact hr, hm⟩
end Go.Proofs.YtjdfemfobcjecaaGreat

/-
  slices.insertionSortOrdered[uint64].
-/
namespace Go.Proofs.YtjdfemfobcjecaaGreat
open Go.RowKit Go.Sort

theorem insInner_yes {a m : Nat} {d : Array Int} (ha : a ≤ m) (hl : ltInt d[m + 1]! d[m]! = true) : insInner ltInt a (m + 1) d = insInner ltInt a m (swp d (m + 1) m) := by
  rw [insInner, hl]
  simp [Nat.lt_succ_of_le ha]
theorem insInner_no {a m : Nat} {d : Array Int} (hl : ltInt d[m + 1]! d[m]! = false) : insInner ltInt a (m + 1) d = d := by
  rw [insInner, hl]
  simp
theorem insInner_low {a j : Nat} {d : Array Int} (h : j ≤ a) : insInner ltInt a j d = d := by
  cases j with
  | zero => rw [insInner]
  | succ k => rw [insInner]; simp [show ¬ k + 1 > a by omega]

set_option maxHeartbeats 2000000 in
theorem insertion_u64 (w : World) (g cap a b : Nat) (d : Array Int) (R : List Value) (h : Row w g d R) (hb : b ≤ d.size) (hsz : d.size ≤ 1099511627776) (len : Nat) (hlen : d.size = len) (ha : a ≤ b) :
    Calls Tryz.prog 91 #[.slice (some ⟨g, 0, none⟩) len cap, .int .i64 a, .int .i64 b] w fun e w' =>
      e = .returned (.tuple #[]) ∧ Row w' g (insertionSort ltInt d a b) R ∧ Mod [g] w w' := by
  subst hlen
  go_enter Tryz.func91, Tryz.ntmps91
  go_wp2
  go_loopw [6] (fun vi wr => ∃ (i : Nat) (dk : Array Int), vi = .int .i64 (i : Int) ∧ a < i ∧ i ≤ b + 1 ∧ dk.size = d.size ∧ Row wr g dk R ∧ Mod [g] w wr ∧ insOuter ltInt a b i dk = insertionSort ltInt d a b)
    (fun vi _ => b + 1 - (intOf vi).toNat)
  case atStart => exact ⟨a + 1, d, by go_num, by omega, by omega, rfl, h, Mod.refl _ _, rfl⟩
  case round =>
    obtain ⟨i, dk, rfl, hai, hib, hsk, hr, hm, hO⟩ := hrel
    have HO := hide hO
    clear hO h
    by_cases hlt : i < b
    · go_wp2
      go_loopw [7] (fun vj wr2 => ∃ (j : Nat) (dj : Array Int), vj = .int .i64 (j : Int) ∧ j ≤ i ∧ dj.size = d.size ∧ Row wr2 g dj R ∧ Mod [g] w wr2 ∧ insInner ltInt a j dj = insInner ltInt a i dk)
        (fun vj _ => (intOf vj).toNat)
      case atStart => exact ⟨i, dk, rfl, Nat.le_refl _, hsk, hr, hm, rfl⟩
      case round =>
        obtain ⟨j, dj, rfl, hji, hsj, hr2, hm2, hI⟩ := hrel
        have HI := hide hI
        clear hI hr hm
        have out : ∀ q wx, Row wx g dj R → Mod [g] w wx → insInner ltInt a j dj = dj → ∃ (i' : Nat) (dk' : Array Int), Value.int .i64 ((i : Int) + 1) = .int .i64 (i' : Int) ∧ a < i' ∧ i' ≤ b + 1 ∧ dk'.size = d.size ∧ Row (wx.drewN q) g dk' R ∧
            Mod [g] w (wx.drewN q) ∧ insOuter ltInt a b i' dk' = insertionSort ltInt d a b := fun q wx h1 h2 h3 =>
          ⟨i + 1, dj, by go_num, by omega, by omega, hsj, h1, h2.drewN q, by
            rw [← HO.out, insOuter.eq_def ltInt a b i dk, if_pos hlt, ← HI.out, h3]⟩
        have OUT := hide out
        clear out
        by_cases hja : a < j
        · obtain ⟨m, rfl⟩ : ∃ m, j = m + 1 := ⟨j - 1, by omega⟩
          obtain ⟨x, hx⟩ : ∃ x, dj[m]! = x := ⟨_, rfl⟩
          obtain ⟨y, hy⟩ : ∃ y, dj[m + 1]! = y := ⟨_, rfl⟩
          have c1 := hr2.cell (j := m) (by omega)
          have c2 := hr2.cell (j := m + 1) (by omega)
          have f1 := hr2.frozen m
          have f2 := hr2.frozen (m + 1)
          rw [hx] at c1
          rw [hy] at c2
          have Hx := hide hx
          have Hy := hide hy
          clear hx hy
          have hj1 : (a : Int) < (m : Int) + 1 := by omega
          cases hl : ltInt y x
          · go_wp2
            go_quiet (first | (go_at_call 97; refine Calls.quiet_of (lessQ _ _ _)))
            go_wp2
            go_roundw
            case rel => exact OUT.out nq wr hr2 hm2 (insInner_no (by rw [Hx.out, Hy.out]; exact hl))
            case measure => simp [intOf]; omega
          · go_wp2
            go_quiet (first | (go_at_call 97; refine Calls.quiet_of (lessQ _ _ _)))
            go_wp2
            go_region
            all_goals go_wp2
            go_roundw
            case rel =>
              exact ⟨m, swp dj (m + 1) m, by go_num, by omega, by rw [size_swp]; exact hsj, hr2.swapN (by omega) (by omega) Hx.out Hy.out _, hm2.swapN _ _ _ _ _, by
                rw [← HI.out, insInner_yes (by omega) (by rw [Hx.out, Hy.out]; exact hl)]⟩
            case measure => simp [intOf]
        · have hja2 : ¬ (a : Int) < (j : Int) := by omega
          go_wp2
          go_quiet (fail)
          go_wp2
          go_roundw
          case rel => exact OUT.out nq wr hr2 hm2 (insInner_low (by omega))
          case measure => simp [intOf]; omega
    · go_wp2
      go_end0
      exact ⟨rfl, by rw [← HO.out, insOuter.eq_def, if_neg hlt]; exact hr, hm⟩
end Go.Proofs.YtjdfemfobcjecaaGreat

/-
  slices.pdqsortOrdered, slices.Sort at uint64: a sorted permutation.
-/
namespace Go.Proofs.YtjdfemfobcjecaaGreat
open Go.RowKit Go.Sort

set_option maxRecDepth 100000 in
set_option maxHeartbeats 16000000 in
theorem pdq_u64 (g cap : Nat) (R : List Value) : ∀ (N : Nat) (w : World) (a b lim : Nat) (d : Array Int), b - a ≤ N → Row w g d R → a ≤ b → b ≤ d.size → d.size < 65536 → Go.Sort.Below ltInt a b d → lim ≤ 64 → ∀ (len : Nat), d.size = len →
    Calls Tryz.prog 79 #[.slice (some ⟨g, 0, none⟩) len cap, .int .i64 a, .int .i64 b, .int .i64 lim] w fun e w' =>
      e = .returned (.tuple #[]) ∧ ∃ d', PermIn a b d d' ∧ SortedIn ltInt a b d' ∧ Row w' g d' R ∧ Mod [g] w w' := by
  intro N
  induction N using Nat.strongRecOn with
  | _ N ih =>
  intro w a b lim d hN hr hab hb hsz hBl hlim len hlen
  have hm := Mod.refl [g] w
  have inv0 : ∀ r, PermIn a b d r → SortedIn ltInt a b r → PermIn a b d r ∧ SortedIn ltInt a b r := fun r h1 h2 => ⟨h1, h2⟩
  have INV0 := hide inv0
  have IH := hide ih
  have HB0 := hide hBl
  clear inv0 ih hBl
  go_enter Tryz.func79, Tryz.ntmps79
  go_wp2_with fail
  go_loopw [1, 2, 3, 8, 9] (fun x1 x2 x3 x8 x9 wr => ∃ (a' b' l' : Nat) (wb wp : Bool) (dk : Array Int), x1 = .int .i64 (a' : Int) ∧ x2 = .int .i64 (b' : Int) ∧ x3 = .int .i64 (l' : Int) ∧ x8 = .bool wb ∧ x9 = .bool wp ∧
      a ≤ a' ∧ a' ≤ b' ∧ b' ≤ b ∧ l' ≤ 64 ∧ dk.size = d.size ∧ Row wr g dk R ∧ Mod [g] w wr ∧ Go.Sort.Below ltInt a' b' dk ∧ ∀ r, PermIn a' b' dk r → SortedIn ltInt a' b' r → PermIn a b d r ∧ SortedIn ltInt a b r)
    (fun x1 x2 _ _ _ _ => (intOf x2 - intOf x1).toNat)
  case atStart => exact ⟨a, b, lim, true, true, d, rfl, rfl, rfl, rfl, rfl, Nat.le_refl _, hab, Nat.le_refl _, hlim, rfl, hr, hm, HB0.out, INV0.out⟩
  case round =>
    clear hr hm INV0 HB0
    obtain ⟨a', b', l', wb, wp, dk, rfl, rfl, rfl, rfl, rfl, haa, hab', hbb, hl, hsk, hr, hm, hBl, hinv⟩ := hrel
    have HBl := hide hBl
    have HI := hide hinv
    clear hBl hinv
    obtain ⟨n, hn⟩ : ∃ n, n = b' - a' := ⟨_, rfl⟩
    have hn' : (b' : Int) - a' = n := by omega
    have hnb : a' + n = b' := by omega
    clear hn
    by_cases h12 : n ≤ 12
    · have h12' : (n : Int) ≤ 12 := by omega
      go_wp2_with fail
      refine (insertion_u64 _ g cap a' b' dk R hr (by omega) (by omega) len (by omega) (by omega)).mono ?_
      rintro e wf ⟨rfl, hr', hm'⟩
      obtain ⟨h1, h2⟩ := insertionSort_holds swo_ltInt dk a' b' hab' (by omega)
      obtain ⟨h3, h4⟩ := HI.out _ h1 h2
      go_wp2_with fail
      refine bodyPost_ret (results_none rfl _ _ _) rfl ?_
      exact ⟨rfl, _, h3, h4, hr', hm.trans hm' (by simp)⟩
    · have h12' : ¬ (n : Int) ≤ 12 := by omega
      by_cases hl0 : l' = 0
      · subst hl0
        go_wp2_with fail
        refine (heap_u64 _ g cap a' b' dk R hr (by omega) (by omega) (by omega) len (by omega)).mono ?_
        rintro e wf ⟨rfl, hr', hm'⟩
        obtain ⟨h1, h2⟩ := heapSort_holds swo_ltInt dk a' b' hab' (by omega)
        obtain ⟨h3, h4⟩ := HI.out _ h1 h2
        go_wp2_with fail
        refine bodyPost_ret (results_none rfl _ _ _) rfl ?_
        exact ⟨rfl, _, h3, h4, hr', hm.trans hm' (by simp)⟩
      · have hl0' : ((l' : Int) == 0) = false := by simp; omega
        go_upto_if 35 with fail
        go_cut [3] (fun v wx => ∃ (l1 : Nat) (d1 : Array Int), v = .int .i64 (l1 : Int) ∧ l1 ≤ 64 ∧ d1.size = d.size ∧ PermIn a' b' dk d1 ∧ Row wx g d1 R ∧ Mod [g] w wx)
        case first =>
          cases wb
          · go_wp2_with fail
            refine (break_u64 _ g cap a' b' dk R hr (by omega) (by omega) (by omega) len (by omega)).mono ?_
            rintro e wf ⟨rfl, d1, hp1, hr', hm'⟩
            go_wp2_with fail
            go_meet
            exact ⟨l' - 1, d1, by congr 1; omega, by omega, by rw [hp1.1]; exact hsk, hp1, hr', hm.trans hm' (by simp)⟩
          · go_wp2_with fail
            go_meet
            exact ⟨l', dk, rfl, hl, hsk, permIn_refl _ _ _, hr, hm⟩
        case rest =>
          clear hr hm
          obtain ⟨l1, d1, rfl, hl1, hs1, hp1, hr, hm⟩ := hcut
          go_wp2_with fail
          refine (pivot_u64 _ g cap a' b' d1 R hr (by omega) (by omega) (by omega) len (by omega)).mono ?_
          rintro e wf ⟨p, h, rfl, hpa, hpb, hr', hm'⟩
          replace hm := hm.trans hm' (by simp)
          clear hr hm'
          go_upto_if 50 with fail
          go_cut [11, 12] (fun u v wx => ∃ (p2 h2 : Nat) (d2 : Array Int), u = .int .i64 (p2 : Int) ∧ v = .int .i64 (h2 : Int) ∧ a' ≤ p2 ∧ p2 < b' ∧ d2.size = d.size ∧ PermIn a' b' d1 d2 ∧ Row wx g d2 R ∧ Mod [g] w wx)
          case first =>
            by_cases hh : h = 2
            · subst hh
              go_wp2_with fail
              refine (reverse_u64 _ g cap a' b' d1 R hr' (by omega) (by omega) (by omega) len (by omega)).mono ?_
              rintro e wg ⟨rfl, hr2, hm2⟩
              have hrv := reverseRange_holds d1 a' b' hab' (by omega)
              go_wp2_with fail
              go_meet
              exact ⟨b' - 1 - (p - a'), 1, _, by congr 1; omega, rfl, by omega, by omega, by rw [hrv.1]; exact hs1, hrv, hr2, hm.trans hm2 (by simp)⟩
            · have hh' : ((h : Int) == 2) = false := by simp; omega
              go_wp2_with fail
              go_meet
              exact ⟨p, h, d1, rfl, rfl, hpa, hpb, hs1, permIn_refl _ _ _, hr', hm⟩
          case rest =>
            clear hr' hm hpa hpb
            obtain ⟨p2, h2, d2, rfl, rfl, hpa, hpb, hs2, hp2, hr, hm⟩ := hcut
            go_upto_region 15 with fail
            go_cut [68] (fun v wx => ∃ c : Bool, v = .bool c ∧ Row wx g d2 R ∧ Mod [g] w wx)
            case first =>
              by_cases hh : h2 = 1
              · subst hh
                cases wb <;> cases wp <;> (go_wp2_with fail; go_meet)
                all_goals exact ⟨_, rfl, hr, hm⟩
              · have hh' : ((h2 : Int) == 1) = false := by simp; omega
                cases wb <;> cases wp <;> (go_wp2_with fail; go_meet)
                all_goals exact ⟨_, rfl, hr, hm⟩
            case rest =>
              clear hr hm
              obtain ⟨c, rfl, hr, hm⟩ := hcut
              have hq2 : PermIn a' b' dk d2 := permIn_trans _ _ _ a' b' hp1 hp2
              have hB2 : Go.Sort.Below ltInt a' b' d2 := HBl.out.perm (by omega) hq2
              have HB2 := hide hB2
              clear hp1 hp2 hB2
              go_upto_if 68 with fail
              go_cut [] (fun wx => ∃ d3 : Array Int, d3.size = d.size ∧ PermIn a' b' d2 d3 ∧ Row wx g d3 R ∧ Mod [g] w wx)
              case first =>
                cases c
                · go_wp2_with fail
                  go_meet
                  exact ⟨d2, hs2, permIn_refl _ _ _, hr, hm⟩
                · go_wp2_with fail
                  refine (partial_u64 _ g cap a' b' d2 R hr (by omega) (by omega) (by omega) len (by omega)).mono ?_
                  rintro e wg ⟨rfl, hr2, hm2⟩
                  obtain ⟨k1, k2⟩ := partialInsertionSort_holds swo_ltInt d2 a' b' (by omega) (by omega) HB2.out
                  obtain ⟨dd, hdd⟩ : ∃ dd, (partialInsertionSort ltInt d2 a' b').1 = dd := ⟨_, rfl⟩
                  obtain ⟨t, ht⟩ : ∃ t, (partialInsertionSort ltInt d2 a' b').2 = t := ⟨_, rfl⟩
                  rw [hdd] at k1 k2 hr2
                  rw [ht] at k2
                  rw [ht]
                  clear hdd ht
                  cases t
                  · go_wp2_with fail
                    go_meet
                    exact ⟨dd, by rw [k1.1]; exact hs2, k1, hr2, hm.trans hm2 (by simp)⟩
                  · obtain ⟨h3, h4⟩ := HI.out _ (permIn_trans _ _ _ a' b' hq2 k1) (k2 rfl)
                    clear k2
                    go_wp2_with fail
                    refine bodyPost_ret (results_none rfl _ _ _) rfl ?_
                    exact ⟨rfl, _, h3, h4, hr2, hm.trans hm2 (by simp)⟩
              case rest =>
                clear hr hm
                obtain ⟨d3, hs3, hp3, hr, hm⟩ := hcut
                have hq3 : PermIn a' b' dk d3 := permIn_trans _ _ _ a' b' hq2 hp3
                have hB3 : Go.Sort.Below ltInt a' b' d3 := HB2.out.perm (by omega) hp3
                have HB3 := hide hB3
                clear hp3 hB3 hq2 HB2
                go_upto_region 17 with fail
                go_cut [87] (fun v wx => ∃ c : Bool, v = .bool c ∧ (c = true → 0 < a' ∧ ltInt d3[a' - 1]! d3[p2]! = false) ∧ Row wx g d3 R ∧ Mod [g] w wx)
                case first =>
                  by_cases ha0 : 0 < a'
                  · obtain ⟨k, hk⟩ : ∃ k, k = a' - 1 := ⟨_, rfl⟩
                    have hk' : (a' : Int) - 1 = k := by omega
                    have ha0' : (0 : Int) < a' := by omega
                    have hks : k < d.size := by omega
                    have hps : p2 < d.size := by omega
                    obtain ⟨x, hx⟩ : ∃ x, d3[k]! = x := ⟨_, rfl⟩
                    obtain ⟨y, hy⟩ : ∃ x, d3[p2]! = x := ⟨_, rfl⟩
                    have c1 := hr.cell (j := k) (by omega)
                    have c2 := hr.cell (j := p2) (by omega)
                    rw [hx] at c1
                    rw [hy] at c2
                    have Hk := hide hk
                    have Hx := hide hx
                    have Hy := hide hy
                    clear hk hx hy
                    subst hlen
                    cases hl : ltInt x y
                    · go_quiet (first | (go_at_call 97; refine Calls.quiet_of (lessQ _ _ _)))
                      go_wp2_with fail
                      go_meet
                      exact ⟨true, rfl, fun _ => ⟨ha0, by rw [← Hk.out, Hx.out, Hy.out]; exact hl⟩, hr.drewN _, hm.drewN _⟩
                    · go_quiet (first | (go_at_call 97; refine Calls.quiet_of (lessQ _ _ _)))
                      go_wp2_with fail
                      go_meet
                      exact ⟨false, rfl, nofun, hr.drewN _, hm.drewN _⟩
                  · have ha0' : ¬ (0 : Int) < a' := by omega
                    go_quiet (fail)
                    go_wp2_with fail
                    go_meet
                    exact ⟨false, rfl, nofun, hr.drewN _, hm.drewN _⟩
                case rest =>
                  clear hr hm
                  obtain ⟨c, rfl, hc, hr, hm⟩ := hcut
                  have Hc := hide hc
                  clear hc
                  cases c
                  · clear Hc
                    go_wp2_with fail
                    refine (part_u64 _ g cap a' b' p2 d3 R hr (by omega) hpa hpb (by omega) len (by omega)).mono ?_
                    rintro e wg ⟨rfl, hr2, hm2⟩
                    obtain ⟨⟨mid, ap, d4⟩, hx⟩ : ∃ t, partition ltInt d3 a' b' p2 = t := ⟨_, rfl⟩
                    obtain ⟨k1, k2, k3, k4, k5, k6, k7⟩ := round_part swo_ltInt (partition_holds _) hpa hpb (by omega) HB3.out hx
                    rw [hx] at hr2 ⊢
                    simp only at hr2 ⊢
                    have hm3 : Mod [g] w wg := hm.trans hm2 (by simp)
                    have hs4 : d4.size = d.size := k3.trans hs3
                    obtain ⟨nl, hnl⟩ : ∃ k, k = mid - a' := ⟨_, rfl⟩
                    obtain ⟨nr, hnr⟩ : ∃ k, k = b' - mid := ⟨_, rfl⟩
                    obtain ⟨q8, hq8⟩ : ∃ k, k = n / 8 := ⟨_, rfl⟩
                    have hnl' : (mid : Int) - a' = nl := by omega
                    have hnr' : (b' : Int) - mid = nr := by omega
                    have hq8' : (n : Int).tdiv 8 = q8 := by
                      rw [Int.tdiv_eq_ediv_of_nonneg (by omega)]
                      omega
                    have hwnl : IntKind.i64.wrap (nl : Int) = nl := IntWalk.i64_in _ (by omega)
                    have hwnr : IntKind.i64.wrap (nr : Int) = nr := IntWalk.i64_in _ (by omega)
                    have hwq8 : IntKind.i64.wrap (q8 : Int) = q8 := IntWalk.i64_in _ (by omega)
                    have K4 := hide k4
                    have K5 := hide k5
                    have K6 := hide k6
                    have K7 := hide k7
                    clear hr hm hm2 hx k3 k4 k5 k6 k7 hnl hnr hq8
                    by_cases hlr : nl < nr
                    · have hlr' : (nl : Int) < nr := by omega
                      go_wp2_with fail
                      refine (IH.out (mid - a') (by omega) wg a' mid l1 d4 (Nat.le_refl _) hr2 k1 (by omega) (by omega) K4.out hl1 len (by omega)).mono ?_
                      rintro e wh ⟨rfl, L, hL1, hL2, hr5, hm5⟩
                      obtain ⟨j1, j2⟩ := K6.out L hL1 hL2
                      go_wp2_with fail
                      go_roundw
                      case rel => exact ⟨mid + 1, b', l1, _, _, L, by go_num, rfl, rfl, rfl, rfl, by omega, by omega, hbb, hl1, by rw [hL1.1]; exact hs4, hr5, hm3.trans hm5 (by simp), j1, fun r h1 h2 => by
                        obtain ⟨q1, q2⟩ := j2 r h1 h2
                        exact HI.out r (permIn_trans _ _ _ a' b' hq3 q1) q2⟩
                      case measure => simp [intOf]; omega
                    · have hlr' : ¬ (nl : Int) < nr := by omega
                      go_wp2_with fail
                      refine (IH.out (b' - (mid + 1)) (by omega) wg (mid + 1) b' l1 d4 (Nat.le_refl _) hr2 (by omega) (by omega) (by omega) K5.out hl1 len (by omega)).mono ?_
                      rintro e wh ⟨rfl, L, hL1, hL2, hr5, hm5⟩
                      obtain ⟨j1, j2⟩ := K7.out L hL1 hL2
                      go_wp2_with fail
                      go_roundw
                      case rel => exact ⟨a', mid, l1, _, _, L, rfl, rfl, rfl, rfl, rfl, by omega, by omega, by omega, hl1, by rw [hL1.1]; exact hs4, hr5, hm3.trans hm5 (by simp), j1, fun r h1 h2 => by
                        obtain ⟨q1, q2⟩ := j2 r h1 h2
                        exact HI.out r (permIn_trans _ _ _ a' b' hq3 q1) q2⟩
                      case measure => simp [intOf]; omega
                  · obtain ⟨ha0, hnl⟩ := Hc.out rfl
                    go_wp2_with fail
                    refine (partEq_u64 _ g cap a' b' p2 d3 R hr (by omega) hpa hpb (by omega) len (by omega)).mono ?_
                    rintro e wg ⟨rfl, hr2, hm2⟩
                    obtain ⟨⟨mid, d4⟩, hx⟩ : ∃ t, partitionEqual ltInt d3 a' b' p2 = t := ⟨_, rfl⟩
                    obtain ⟨k1, k2, k3, k4, k5⟩ := round_eq swo_ltInt (partitionEqual_holds _) ha0 hpa hpb (by omega) HB3.out hnl hx
                    rw [hx] at hr2 ⊢
                    simp only at hr2 ⊢
                    have hm3 : Mod [g] w wg := hm.trans hm2 (by simp)
                    have K4 := hide k4
                    have K5 := hide k5
                    clear hr hm hm2 hx k4 k5 hnl Hc
                    go_wp2_with fail
                    go_roundw
                    case rel => exact ⟨mid, b', l1, wb, wp, d4, rfl, rfl, rfl, rfl, rfl, by omega, by omega, hbb, hl1, k3.trans hs3, hr2, hm3, K4.out, fun r h1 h2 => by
                      obtain ⟨q1, q2⟩ := K5.out r h1 h2
                      exact HI.out r (permIn_trans _ _ _ a' b' hq3 q1) q2⟩
                    case measure => simp [intOf]; omega

set_option maxHeartbeats 2000000 in
/-- slices.Sort at uint64: sorted. -/
theorem sort_u64 (w : World) (g cap : Nat) (d : Array Int) (R : List Value) (hr : Row w g d R) (hsz : d.size < 65536) (len : Nat) (hlen : d.size = len) :
    Calls Tryz.prog 53 #[.slice (some ⟨g, 0, none⟩) len cap] w fun e w' =>
      e = .returned (.tuple #[]) ∧ ∃ d', PermIn 0 len d d' ∧ SortedIn ltInt 0 len d' ∧ Row w' g d' R ∧ Mod [g] w w' := by
  have hwl : IntKind.u64.wrap (len : Int) = len := IntWalk.u64_in _ (by omega)
  have h16 : Lib.bitLen len ≤ 16 := bitLen_le16 (by omega)
  have H16 := hide h16
  clear h16
  go_enter Tryz.func53, Tryz.ntmps53
  go_wp2_with fail
  refine (len_u64 w len (by omega)).mono ?_
  rintro e w' ⟨rfl, rfl⟩
  go_wp2_with fail
  refine (pdq_u64 g cap R len w' 0 len (Lib.bitLen len) d (by omega) hr (by omega) (by omega) hsz (.inl rfl) (by have := H16.out; omega) len hlen).mono ?_
  rintro e w2 ⟨rfl, d', h1, h2, h3, h4⟩
  go_wp2_with fail
  go_end0
  exact ⟨rfl, d', h1, h2, h3, h4⟩
end Go.Proofs.YtjdfemfobcjecaaGreat
