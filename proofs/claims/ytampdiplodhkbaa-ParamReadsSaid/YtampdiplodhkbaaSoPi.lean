/-
  slices.partialInsertionSortOrdered at uint64.
-/
import Derived.Test.YtampdiplodhkbaaSoPart
import Derived.Deep.CutBlock
import Derived.Deep.DeepCutAuto
namespace Go.Proofs.Ytampdiplodhkbaa
open Go.RowKit Go.Sort

theorem sorted_yes {d : Array Int} {b i : Nat} (h : i < b) (hp : ltInt d[i]! d[i - 1]! = false) : scanSorted ltInt d b i = scanSorted ltInt d b (i + 1) := by
  rw [scanSorted.eq_def]; simp [h, hp]
theorem sorted_stop {d : Array Int} {b i : Nat} (h : b ≤ i ∨ ltInt d[i]! d[i - 1]! = true) : scanSorted ltInt d b i = i := by
  rw [scanSorted.eq_def]
  rcases h with h | h
  · simp [show ¬ i < b by omega]
  · simp [h]
theorem shd_yes {d : Array Int} {m : Nat} (h : ltInt d[m + 1]! d[m]! = true) : shiftDown ltInt (m + 1) d = shiftDown ltInt m (swp d (m + 1) m) := by
  rw [shiftDown]; simp [h]
theorem shd_no {d : Array Int} {m : Nat} (h : ltInt d[m + 1]! d[m]! = false) : shiftDown ltInt (m + 1) d = d := by
  rw [shiftDown]; simp [h]
theorem shu_yes {d : Array Int} {b j : Nat} (hb : j < b) (h : ltInt d[j]! d[j - 1]! = true) : shiftUp ltInt b j d = shiftUp ltInt b (j + 1) (swp d j (j - 1)) := by
  rw [shiftUp.eq_def]; simp [h, hb]
theorem shu_no {d : Array Int} {b j : Nat} (h : b ≤ j ∨ ltInt d[j]! d[j - 1]! = false) : shiftUp ltInt b j d = d := by
  rw [shiftUp.eq_def]
  rcases h with h | h
  · simp [show ¬ j < b by omega]
  · simp [h]

set_option maxRecDepth 100000 in
set_option maxHeartbeats 16000000 in
theorem partial_u64 (w : World) (g cap a b : Nat) (d : Array Int) (R : List Value) (hr : Row w g d R) (hb : b ≤ d.size) (ha : a < b) (hsz : d.size ≤ 1099511627776) (len : Nat) (hlen : d.size = len) :
    Calls Try.prog 60 #[.slice (some ⟨g, 0, none⟩) len cap, .int .i64 a, .int .i64 b] w fun e w' =>
      e = .returned (.bool (partialInsertionSort ltInt d a b).2) ∧ Row w' g (partialInsertionSort ltInt d a b).1 R ∧ Mod [g] w w' := by
  subst hlen
  have hm := Mod.refl [g] w
  go_enter Try.func60, Try.ntmps60
  go_wp2_with fail
  go_loopw [7, 8] (fun u v wr => ∃ (i s : Nat) (dk : Array Int), u = .int .i64 (i : Int) ∧ v = .int .i64 (5 - (s : Int)) ∧ s ≤ 5 ∧ a < i ∧ i ≤ b ∧ dk.size = d.size ∧ Row wr g dk R ∧ Mod [g] w wr ∧ partialIns ltInt a b s i dk = partialInsertionSort ltInt d a b)
    (fun u v _ => (5 - intOf v).toNat)
  case atStart => exact ⟨a + 1, 5, d, by go_num, by simp, by omega, by omega, by omega, rfl, hr, hm, rfl⟩
  case round =>
    clear hr hm
    obtain ⟨i, s, dk, rfl, rfl, hs5, hai, hib, hsk, hr, hm, hO⟩ := hrel
    cases s with
    | zero =>
      have hO' := hide hO
      clear hO
      go_wp2_with fail
      go_ret
      exact ⟨by rw [← hO'.out]; rfl, by rw [← hO'.out]; exact hr, hm⟩
    | succ s =>
      have hs1 : (5 : Int) - ((s + 1 : Nat) : Int) = 4 - s := by omega
      rw [hs1]
      have hs2 : (4 : Int) - s < 5 := by omega
      have HO := hide hO
      clear hO
      go_upto_block 2 with fail
      go_cut [7] (fun v wx => ∃ n1 : Nat, v = .int .i64 (n1 : Int) ∧ (i ≤ n1 ∧ n1 ≤ b) ∧ scanSorted ltInt dk b i = n1 ∧ Row wx g dk R ∧ Mod [g] w wx)
      case first =>
        go_wp2_with fail
        go_loopw [7] (fun v wx => ∃ n1 : Nat, v = .int .i64 (n1 : Int) ∧ (i ≤ n1 ∧ n1 ≤ b) ∧ scanSorted ltInt dk b n1 = scanSorted ltInt dk b i ∧ Row wx g dk R ∧ Mod [g] w wx) (fun v _ => b + 1 - (intOf v).toNat)
        case atStart => exact ⟨i, rfl, ⟨Nat.le_refl _, hib⟩, rfl, hr, hm⟩
        case round =>
          clear hr hm
          obtain ⟨n1, rfl, hn, hS, hr, hm⟩ := hrel
          obtain ⟨hn1, hn2⟩ := hn
          have HS := hide hS
          clear hS
          by_cases hlt : n1 < b
          · obtain ⟨k1, hk1⟩ : ∃ k, k = n1 - 1 := ⟨_, rfl⟩
            have hk1' : (n1 : Int) - 1 = k1 := by omega
            have hlt' : (n1 : Int) < b := by omega
            obtain ⟨v, hv⟩ : ∃ z, dk[n1]! = z := ⟨_, rfl⟩
            obtain ⟨t, ht⟩ : ∃ z, dk[k1]! = z := ⟨_, rfl⟩
            have c1 := hr.cell (j := n1) (by omega)
            have c2 := hr.cell (j := k1) (by omega)
            rw [hv] at c1
            rw [ht] at c2
            have Hv := hide hv
            have Ht := hide ht
            clear hv ht
            have hxs : n1 < d.size := by omega
            have hys : k1 < d.size := by omega
            have Hk1 := hide hk1
            clear hk1
            cases hl : ltInt v t
            · go_wp2_with fail
              go_quiet (first | (go_at_call 61; refine Calls.quiet_of (lessQ _ _ _)))
              go_wp2_with fail
              go_roundw
              case rel => exact ⟨n1 + 1, by go_num, ⟨by omega, by omega⟩, by rw [← HS.out]; exact (sorted_yes hlt (by rw [← Hk1.out, Hv.out, Ht.out]; exact hl)).symm, hr.drewN _, hm.drewN _⟩
              case measure => simp [intOf]; omega
            · go_wp2_with fail
              go_quiet (first | (go_at_call 61; refine Calls.quiet_of (lessQ _ _ _)))
              go_wp2_with fail
              go_meet
              exact ⟨n1, rfl, ⟨by omega, by omega⟩, by rw [← HS.out]; exact sorted_stop (.inr (by rw [← Hk1.out, Hv.out, Ht.out]; exact hl)), hr.drewN _, hm.drewN _⟩
          · have hlt' : decide ((n1 : Int) < b) = false := decide_eq_false (by omega)
            go_wp2_with fail
            go_quiet (fail)
            go_wp2_with fail
            go_meet
            exact ⟨n1, rfl, ⟨by omega, by omega⟩, by rw [← HS.out]; exact sorted_stop (.inl (by omega)), hr.drewN _, hm.drewN _⟩
      case rest =>
        clear hr hm
        obtain ⟨n, rfl, hn, hS, hr, hm⟩ := hcut
        obtain ⟨hn1, hn2⟩ := hn
        have HE : Hid (partialIns ltInt a b (s + 1) i dk = if n = b then (dk, true) else if b - a < 50 then (dk, false) else partialIns ltInt a b s n (if b - n ≥ 2 then shiftUp ltInt b (n + 1) (if n - a ≥ 2 then shiftDown ltInt (n - 1) (swp dk n (n - 1)) else swp dk n (n - 1)) else (if n - a ≥ 2 then shiftDown ltInt (n - 1) (swp dk n (n - 1)) else swp dk n (n - 1)))) := hide (by
          rw [partialIns, hS])
        clear hS
        by_cases hnb : n = b
        · have hnb' : ((n : Int) == (b : Int)) = true := by simp; omega
          have he : partialInsertionSort ltInt d a b = (dk, true) := by rw [← HO.out, HE.out, if_pos hnb]
          have He := hide he
          clear he
          go_wp2_with fail
          go_ret
          rw [He.out]
          exact ⟨rfl, hr, hm⟩
        · have hnb' : ((n : Int) == (b : Int)) = false := by simp; omega
          by_cases h50 : b - a < 50
          · have h50' : (b : Int) - a < 50 := by omega
            have he : partialInsertionSort ltInt d a b = (dk, false) := by rw [← HO.out, HE.out, if_neg hnb, if_pos h50]
            have He := hide he
            clear he
            go_wp2_with fail
            go_ret
            rw [He.out]
            exact ⟨rfl, hr, hm⟩
          · have h50' : decide ((b : Int) - a < 50) = false := decide_eq_false (by omega)
            have h50'' : ¬ (b : Int) - a < 50 := by omega
            obtain ⟨k, hk⟩ : ∃ k, k = n - 1 := ⟨_, rfl⟩
            have hk' : (n : Int) - 1 = k := by omega
            have hkn : k + 1 = n := by omega
            have Hk := hide hk
            clear hk
            obtain ⟨x, hx⟩ : ∃ x, dk[n]! = x := ⟨_, rfl⟩
            obtain ⟨y, hy⟩ : ∃ x, dk[k]! = x := ⟨_, rfl⟩
            have c1 := hr.cell (j := n) (by omega)
            have c2 := hr.cell (j := k) (by omega)
            have f1 := hr.frozen n
            have f2 := hr.frozen k
            rw [hx] at c1
            rw [hy] at c2
            have hsi : n < d.size := by omega
            have hsj : k < d.size := by omega
            have Hr := hide (hr.swapN (i := n) (j := k) (by omega) (by omega) hy hx 1)
            have Hm := hide (hm.swapN 1 n k (.int .u64 y) (.int .u64 x))
            go_upto_region 11 with fail
            go_cut [] (fun wx => Row wx g (swp dk n k) R ∧ Mod [g] w wx)
            case first =>
              have hpa : ¬ n = k := by omega
              have hap : ¬ k = n := by omega
              go_region
              all_goals (go_wp2_with fail; go_meet)
              all_goals exact ⟨Hr.out, Hm.out⟩
            case rest =>
              clear hr hm c1 c2 f1 f2 Hr Hm hx hy
              obtain ⟨hr, hm⟩ := hcut
              obtain ⟨d1, hd1⟩ : ∃ z, swp dk n k = z := ⟨_, rfl⟩
              have hsd1 : d1.size = d.size := by rw [← hd1, size_swp]; try omega
              rw [hd1] at hr
              have Hd1 := hide hd1
              clear hd1
              have HE2 : Hid (partialIns ltInt a b (s + 1) i dk = partialIns ltInt a b s n (if b - n ≥ 2 then shiftUp ltInt b (n + 1) (if n - a ≥ 2 then shiftDown ltInt k d1 else d1) else (if n - a ≥ 2 then shiftDown ltInt k d1 else d1))) := hide (by
                rw [HE.out, if_neg hnb, if_neg h50, ← Hk.out, Hd1.out])
              go_upto_if 61 with fail
              go_cut [] (fun wx => ∃ dx : Array Int, dx.size = d.size ∧ (if n - a ≥ 2 then shiftDown ltInt k d1 else d1) = dx ∧ Row wx g dx R ∧ Mod [g] w wx)
              case first =>
                by_cases h2 : n - a ≥ 2
                · have h2' : (2 : Int) ≤ (n : Int) - a := by omega
                  go_wp2_with fail
                  go_loopw [9] (fun v wx => ∃ (j : Nat) (dx : Array Int), v = .int .i64 (j : Int) ∧ j ≤ k ∧ dx.size = d.size ∧ shiftDown ltInt j dx = shiftDown ltInt k d1 ∧ Row wx g dx R ∧ Mod [g] w wx) (fun v _ => (intOf v).toNat)
                  case atStart => exact ⟨k, d1, rfl, Nat.le_refl _, hsd1, rfl, hr, hm⟩
                  case round =>
                    clear hr hm
                    obtain ⟨j, dx, rfl, hjk, hsx, hS, hr, hm⟩ := hrel
                    have HS := hide hS
                    clear hS
                    cases j with
                    | zero =>
                      go_wp2_with fail
                      go_meet
                      exact ⟨dx, hsx, by rw [if_pos h2, ← HS.out]; rfl, hr, hm⟩
                    | succ m =>
                      have hm1 : (m : Int) + 1 - 1 = m := by omega
                      obtain ⟨v, hv⟩ : ∃ z, dx[(m + 1)]! = z := ⟨_, rfl⟩
                      obtain ⟨t, ht⟩ : ∃ z, dx[m]! = z := ⟨_, rfl⟩
                      have c1 := hr.cell (j := (m + 1)) (by omega)
                      have c2 := hr.cell (j := m) (by omega)
                      rw [hv] at c1
                      rw [ht] at c2
                      have Hv := hide hv
                      have Ht := hide ht
                      clear hv ht
                      have hxs : (m + 1) < d.size := by omega
                      have hys : m < d.size := by omega
                      cases hl : ltInt v t
                      · go_wp2_with fail
                        go_quiet (first | (go_at_call 61; refine Calls.quiet_of (lessQ _ _ _)))
                        go_wp2_with fail
                        go_meet
                        exact ⟨dx, hsx, by rw [if_pos h2, ← HS.out]; exact shd_no (by rw [Hv.out, Ht.out]; exact hl), hr.drewN _, hm.drewN _⟩
                      · go_wp2_with fail
                        go_quiet (first | (go_at_call 61; refine Calls.quiet_of (lessQ _ _ _)))
                        go_wp2_with fail
                        have f1 := hr.frozen (m + 1)
                        have f2 := hr.frozen m
                        go_region
                        all_goals go_wp2_with fail
                        go_roundw
                        case rel => exact ⟨m, swp dx (m + 1) m, by go_num, by omega, by rw [size_swp]; exact hsx, by rw [← HS.out]; exact (shd_yes (by rw [Hv.out, Ht.out]; exact hl)).symm, hr.swapN (by omega) (by omega) Ht.out Hv.out _, hm.swapN _ _ _ _ _⟩
                        case measure => simp [intOf]
                · have h2' : ¬ (2 : Int) ≤ (n : Int) - a := by omega
                  go_wp2_with fail
                  go_meet
                  exact ⟨d1, hsd1, by rw [if_neg h2], hr, hm⟩
              case rest =>
                clear hr hm
                obtain ⟨d2, hsd2, hd2, hr, hm⟩ := hcut
                have HE3 : Hid (partialIns ltInt a b (s + 1) i dk = partialIns ltInt a b s n (if b - n ≥ 2 then shiftUp ltInt b (n + 1) d2 else d2)) := hide (by rw [HE2.out, hd2])
                clear hd2
                have fin : ∀ (dx : Array Int) (wx : World), dx.size = d.size → (if b - n ≥ 2 then shiftUp ltInt b (n + 1) d2 else d2) = dx → Row wx g dx R → Mod [g] w wx →
                    ∃ (i s' : Nat) (dk : Array Int), Value.int .i64 (n : Int) = .int .i64 (i : Int) ∧ Value.int .i64 (4 - (s : Int) + 1) = .int .i64 (5 - (s' : Int)) ∧ s' ≤ 5 ∧ a < i ∧ i ≤ b ∧ dk.size = d.size ∧ Row wx g dk R ∧ Mod [g] w wx ∧ partialIns ltInt a b s' i dk = partialInsertionSort ltInt d a b :=
                  fun dx wx h1 h2 h3 h4 => ⟨n, s, dx, rfl, by congr 1; omega, by omega, by omega, by omega, h1, h3, h4, by rw [← HO.out, HE3.out, h2]⟩
                have FIN := hide fin
                clear fin
                ·
                  by_cases h2 : b - n ≥ 2
                  · have h2' : (2 : Int) ≤ (b : Int) - n := by omega
                    go_wp2_with fail
                    go_loopw [10] (fun v wx => ∃ (j : Nat) (dx : Array Int), v = .int .i64 (j : Int) ∧ n < j ∧ j ≤ b ∧ dx.size = d.size ∧ shiftUp ltInt b j dx = shiftUp ltInt b (n + 1) d2 ∧ Row wx g dx R ∧ Mod [g] w wx) (fun v _ => b + 1 - (intOf v).toNat)
                    case atStart => exact ⟨n + 1, d2, by go_num, by omega, by omega, hsd2, rfl, hr, hm⟩
                    case round =>
                      clear hr hm
                      obtain ⟨j, dx, rfl, hnj, hjb, hsx, hS, hr, hm⟩ := hrel
                      have HS := hide hS
                      clear hS
                      by_cases hlt : j < b
                      · obtain ⟨m, hm1⟩ : ∃ k, k = j - 1 := ⟨_, rfl⟩
                        have hm1' : (j : Int) - 1 = m := by omega
                        have hmj : ¬ m = j := by omega
                        have hjm : ¬ j = m := by omega
                        obtain ⟨v, hv⟩ : ∃ z, dx[j]! = z := ⟨_, rfl⟩
                        obtain ⟨t, ht⟩ : ∃ z, dx[m]! = z := ⟨_, rfl⟩
                        have c1 := hr.cell (j := j) (by omega)
                        have c2 := hr.cell (j := m) (by omega)
                        rw [hv] at c1
                        rw [ht] at c2
                        have Hv := hide hv
                        have Ht := hide ht
                        clear hv ht
                        have hxs : j < d.size := by omega
                        have hys : m < d.size := by omega
                        have Hm1 := hide hm1
                        clear hm1
                        cases hl : ltInt v t
                        · go_wp2_with fail
                          go_quiet (first | (go_at_call 61; refine Calls.quiet_of (lessQ _ _ _)))
                          go_wp2_with fail
                          go_roundw
                          case rel => exact FIN.out dx _ hsx (by rw [if_pos h2, ← HS.out]; exact shu_no (.inr (by rw [← Hm1.out, Hv.out, Ht.out]; exact hl))) (hr.drewN _) (hm.drewN _)
                          case measure => simp [intOf]; omega
                        · go_wp2_with fail
                          go_quiet (first | (go_at_call 61; refine Calls.quiet_of (lessQ _ _ _)))
                          go_wp2_with fail
                          have f1 := hr.frozen j
                          have f2 := hr.frozen m
                          go_region
                          all_goals go_wp2_with fail
                          go_roundw
                          case rel => exact ⟨j + 1, swp dx j m, by go_num, by omega, by omega, by rw [size_swp]; exact hsx, by rw [← HS.out, Hm1.out]; exact (shu_yes hlt (by rw [← Hm1.out, Hv.out, Ht.out]; exact hl)).symm, hr.swapN (by omega) (by omega) Ht.out Hv.out _, hm.swapN _ _ _ _ _⟩
                          case measure => simp [intOf]; omega
                      · go_wp2_with fail
                        go_roundw
                        case rel => exact FIN.out dx _ hsx (by rw [if_pos h2, ← HS.out]; exact shu_no (.inl (by omega))) hr hm
                        case measure => simp [intOf]; omega
                  · have h2' : ¬ (2 : Int) ≤ (b : Int) - n := by omega
                    go_wp2_with fail
                    go_roundw
                    case rel => exact FIN.out d2 _ hsd2 (by rw [if_neg h2]) hr hm
                    case measure => simp [intOf]; omega
end Go.Proofs.Ytampdiplodhkbaa
