/-
  slices.partitionEqualOrdered at uint64.
-/
import Derived.Test.YtampdiplodhkbaaSoRow
import Derived.Deep.CutBlock
import Derived.Deep.DeepCutAuto
namespace Go.Proofs.Ytampdiplodhkbaa
open Go.RowKit Go.Sort

theorem up_yes {p : Int → Bool} {d : Array Int} {j i : Nat} (h : i ≤ j) (hp : p d[i]! = true) : scanUp p d j i = scanUp p d j (i + 1) := by
  rw [scanUp.eq_def]; simp [h, hp]
theorem up_stop {p : Int → Bool} {d : Array Int} {j i : Nat} (h : j < i ∨ p d[i]! = false) : scanUp p d j i = i := by
  rw [scanUp.eq_def]
  rcases h with h | h
  · simp [show ¬ i ≤ j by omega]
  · simp [h]
theorem down_yes {p : Int → Bool} {d : Array Int} {i j : Nat} (h : i ≤ j + 1) (hp : p d[j + 1]! = true) : scanDown p d i (j + 1) = scanDown p d i j := by
  rw [scanDown]; simp [h, hp]
theorem down_stop {p : Int → Bool} {d : Array Int} {i j : Nat} (h : j < i ∨ p d[j]! = false) : scanDown p d i j = j := by
  cases j with
  | zero => rw [scanDown]
  | succ k =>
    rw [scanDown]
    rcases h with h | h
    · simp [show ¬ i ≤ k + 1 by omega]
    · simp [h]

set_option maxHeartbeats 8000000 in
theorem partEq_u64 (w : World) (g cap a b pv : Nat) (d : Array Int) (R : List Value) (hr : Row w g d R) (hb : b ≤ d.size) (ha : a ≤ pv) (hp : pv < b) (hsz : d.size ≤ 1099511627776) (len : Nat) (hlen : d.size = len) :
    Calls Try.prog 62 #[.slice (some ⟨g, 0, none⟩) len cap, .int .i64 a, .int .i64 b, .int .i64 pv] w fun e w' =>
      e = .returned (.int .i64 ((partitionEqual ltInt d a b pv).1 : Nat)) ∧ Row w' g (partitionEqual ltInt d a b pv).2 R ∧ Mod [g] w w' := by
  subst hlen
  have hm := Mod.refl [g] w
  go_enter Try.func62, Try.ntmps62
  go_wp2_with fail
  obtain ⟨x, hx⟩ : ∃ x, d[a]! = x := ⟨_, rfl⟩
  obtain ⟨y, hy⟩ : ∃ x, d[pv]! = x := ⟨_, rfl⟩
  have c1 := hr.cell (j := a) (by omega)
  have c2 := hr.cell (j := pv) (by omega)
  have f1 := hr.frozen a
  have f2 := hr.frozen pv
  rw [hx] at c1
  rw [hy] at c2
  have hsi : a < d.size := by omega
  have hsj : pv < d.size := by omega
  have Hr := hide (hr.swapN (i := a) (j := pv) (by omega) (by omega) hy hx 1)
  have Hm := hide (hm.swapN 1 a pv (.int .u64 y) (.int .u64 x))
  go_upto_region 1 with fail
  go_cut [] (fun wx => Row wx g (swp d a pv) R ∧ Mod [g] w wx)
  case first =>
    by_cases hpa : a = pv
    · subst hpa
      obtain rfl : x = y := hx.symm.trans hy
      go_region
      all_goals (go_wp2_with fail; go_meet)
      all_goals exact ⟨Hr.out, Hm.out⟩
    · have hap : ¬ pv = a := fun e => hpa e.symm
      go_region
      all_goals (go_wp2_with fail; go_meet)
      all_goals exact ⟨Hr.out, Hm.out⟩
  case rest =>
    clear hr hm c1 c2 f1 f2 Hr Hm hx hy
    obtain ⟨hr, hm⟩ := hcut
    obtain ⟨d0, hd0⟩ : ∃ z, swp d a pv = z := ⟨_, rfl⟩
    have hsd0 : d0.size = d.size := by rw [← hd0, size_swp]; try omega
    rw [hd0] at hr
    have Hd0 := hide hd0
    clear hd0
    have HD : Hid (partitionEqual ltInt d a b pv = partEqLoop ltInt a (a + 1) (b - 1) d0) := hide (by rw [← Hd0.out]; rfl)
    have has : a < d.size := by omega
    go_wp2_with fail
    go_loopw [9, 10] (fun u v wr => ∃ (i j : Nat) (dk : Array Int), u = .int .i64 (i : Int) ∧ v = .int .i64 (j : Int) ∧ a < i ∧ i ≤ j + 1 ∧ j < b ∧ dk.size = d.size ∧ Row wr g dk R ∧ Mod [g] w wr ∧ partEqLoop ltInt a i j dk = partEqLoop ltInt a (a + 1) (b - 1) d0)
      (fun u v _ => (intOf v + 1 - intOf u).toNat)
    case atStart => exact ⟨a + 1, b - 1, d0, by go_num, by congr 1; omega, by omega, by omega, by omega, hsd0, hr, hm, rfl⟩
    case round =>
      clear hr hm
      obtain ⟨i, j, dk, rfl, rfl, hai, hij, hjb, hsk, hr, hm, hO⟩ := hrel
      have HO := hide hO
      clear hO
      go_upto_block 2 with fail
      go_cut [9] (fun v wx => ∃ n1 : Nat, v = .int .i64 (n1 : Int) ∧ (i ≤ n1 ∧ n1 ≤ j + 1) ∧ scanUp (fun z => !ltInt dk[a]! z) dk j i = n1 ∧ (j < n1 ∨ (fun z => !ltInt dk[a]! z) dk[n1]! = false) ∧ Row wx g dk R ∧ Mod [g] w wx)
      case first =>
        go_wp2_with fail
        go_loopw [9] (fun v wx => ∃ n1 : Nat, v = .int .i64 (n1 : Int) ∧ (i ≤ n1 ∧ n1 ≤ j + 1) ∧ scanUp (fun z => !ltInt dk[a]! z) dk j n1 = scanUp (fun z => !ltInt dk[a]! z) dk j i ∧ Row wx g dk R ∧ Mod [g] w wx) (fun v _ => j + 1 - (intOf v).toNat)
        case atStart => exact ⟨i, rfl, ⟨Nat.le_refl _, by omega⟩, rfl, hr, hm⟩
        case round =>
          clear hr hm
          obtain ⟨n1, rfl, hn, hO, hr, hm⟩ := hrel
          obtain ⟨hn1, hn2⟩ := hn
          have HO := hide hO
          clear hO
          by_cases hle : n1 ≤ j
          · have hle' : (n1 : Int) ≤ j := by omega
            have hn1s : n1 < d.size := by omega
            obtain ⟨v, hv⟩ : ∃ x, dk[a]! = x := ⟨_, rfl⟩
            obtain ⟨t, ht⟩ : ∃ x, dk[n1]! = x := ⟨_, rfl⟩
            have c1 := hr.cell (j := a) (by omega)
            have c2 := hr.cell (j := n1) (by omega)
            rw [hv] at c1
            rw [ht] at c2
            have Hv := hide hv
            have Ht := hide ht
            clear hv ht
            cases hl : ltInt v t
            · go_wp2_with fail
              go_quiet (first | (go_at_call 61; refine Calls.quiet_of (lessQ _ _ _)))
              go_wp2_with fail
              go_roundw
              case rel => exact ⟨n1 + 1, by go_num, ⟨by omega, by omega⟩, by
                rw [← HO.out]
                skip
                skip
                exact (up_yes hle (by show (!ltInt _ _) = true; rw [Hv.out, Ht.out, hl]; try rfl)).symm, hr.drewN _, hm.drewN _⟩
              case measure => simp [intOf]; omega
            · go_wp2_with fail
              go_quiet (first | (go_at_call 61; refine Calls.quiet_of (lessQ _ _ _)))
              go_wp2_with fail
              go_meet
              have hst : (fun z => !ltInt dk[a]! z) dk[n1]! = false := by show (!ltInt _ _) = false; rw [Hv.out, Ht.out, hl]; try rfl
              exact ⟨n1, rfl, ⟨by omega, by omega⟩, by rw [← HO.out]; exact up_stop (.inr hst), .inr hst, hr.drewN _, hm.drewN _⟩
          · have hle' : decide ((n1 : Int) ≤ j) = false := decide_eq_false (by omega)
            go_wp2_with fail
            go_quiet (fail)
            go_wp2_with fail
            go_meet
            exact ⟨n1, rfl, ⟨by omega, by omega⟩, by rw [← HO.out]; exact up_stop (.inl (by omega)), .inl (by omega), hr.drewN _, hm.drewN _⟩
      case rest =>
        clear hr hm
        obtain ⟨i2, rfl, hi2b, hi2, hi2s, hr, hm⟩ := hcut
        obtain ⟨hi21, hi22⟩ := hi2b
        have Hi2 := hide hi2
        have Hi2s := hide hi2s
        clear hi2 hi2s
        go_upto_block 4 with fail
        go_cut [10] (fun v wx => ∃ n1 : Nat, v = .int .i64 (n1 : Int) ∧ (n1 ≤ j ∧ i2 ≤ n1 + 1) ∧ scanDown (fun z => ltInt dk[a]! z) dk i2 j = n1 ∧ (n1 < i2 ∨ (fun z => ltInt dk[a]! z) dk[n1]! = false) ∧ Row wx g dk R ∧ Mod [g] w wx)
        case first =>
          go_wp2_with fail
          go_loopw [10] (fun v wx => ∃ n1 : Nat, v = .int .i64 (n1 : Int) ∧ (n1 ≤ j ∧ i2 ≤ n1 + 1) ∧ scanDown (fun z => ltInt dk[a]! z) dk i2 n1 = scanDown (fun z => ltInt dk[a]! z) dk i2 j ∧ Row wx g dk R ∧ Mod [g] w wx) (fun v _ => (intOf v).toNat)
          case atStart => exact ⟨j, rfl, ⟨Nat.le_refl _, by omega⟩, rfl, hr, hm⟩
          case round =>
            clear hr hm
            obtain ⟨n1, rfl, hn, hO, hr, hm⟩ := hrel
            obtain ⟨hn1, hn2⟩ := hn
            have HO := hide hO
            clear hO
            by_cases hle : i2 ≤ n1
            · have hle' : (i2 : Int) ≤ n1 := by omega
              have hn1s : n1 < d.size := by omega
              obtain ⟨v, hv⟩ : ∃ x, dk[a]! = x := ⟨_, rfl⟩
              obtain ⟨t, ht⟩ : ∃ x, dk[n1]! = x := ⟨_, rfl⟩
              have c1 := hr.cell (j := a) (by omega)
              have c2 := hr.cell (j := n1) (by omega)
              rw [hv] at c1
              rw [ht] at c2
              have Hv := hide hv
              have Ht := hide ht
              clear hv ht
              cases hl : ltInt v t
              · go_wp2_with fail
                go_quiet (first | (go_at_call 61; refine Calls.quiet_of (lessQ _ _ _)))
                go_wp2_with fail
                go_meet
                have hst : (fun z => ltInt dk[a]! z) dk[n1]! = false := by show (ltInt _ _) = false; rw [Hv.out, Ht.out, hl]; try rfl
                exact ⟨n1, rfl, ⟨by omega, by omega⟩, by rw [← HO.out]; exact down_stop (.inr hst), .inr hst, hr.drewN _, hm.drewN _⟩
              · go_wp2_with fail
                go_quiet (first | (go_at_call 61; refine Calls.quiet_of (lessQ _ _ _)))
                go_wp2_with fail
                go_roundw
                case rel => exact ⟨n1 - 1, by congr 1; omega, ⟨by omega, by omega⟩, by
                  rw [← HO.out]
                  obtain ⟨k, rfl⟩ : ∃ k, n1 = k + 1 := ⟨n1 - 1, by omega⟩
                  rw [Nat.add_sub_cancel]
                  exact (down_yes (by omega) (by show (ltInt _ _) = true; rw [Hv.out, Ht.out, hl]; try rfl)).symm, hr.drewN _, hm.drewN _⟩
                case measure => simp [intOf]; omega
            · have hle' : decide ((i2 : Int) ≤ n1) = false := decide_eq_false (by omega)
              go_wp2_with fail
              go_quiet (fail)
              go_wp2_with fail
              go_meet
              exact ⟨n1, rfl, ⟨by omega, by omega⟩, by rw [← HO.out]; exact down_stop (.inl (by omega)), .inl (by omega), hr.drewN _, hm.drewN _⟩
        case rest =>
          clear hr hm
          obtain ⟨j2, rfl, hj2b, hj2, hj2s, hr, hm⟩ := hcut
          obtain ⟨hj21, hj22⟩ := hj2b
          have Hj2 := hide hj2
          have Hj2s := hide hj2s
          clear hj2 hj2s
          have HE : Hid (partEqLoop ltInt a i j dk = if i2 > j2 then (i2, dk) else partEqLoop ltInt a (i2 + 1) (j2 - 1) (swp dk i2 j2)) := hide (by
            have := partEqLoop_eq ltInt a i j dk
            rw [Hi2.out, Hj2.out] at this
            exact this)
          by_cases hgt : j2 < i2
          · have hgt' : (j2 : Int) < i2 := by omega
            go_wp2_with fail
            go_ret
            have he : partitionEqual ltInt d a b pv = (i2, dk) := by rw [HD.out, ← HO.out, HE.out, if_pos hgt]
            rw [he]
            exact ⟨rfl, hr, hm⟩
          · have hgt' : decide ((j2 : Int) < i2) = false := decide_eq_false (by omega)
            have hne : i2 < j2 := by
              rcases Nat.lt_or_ge i2 j2 with h | h
              · exact h
              · obtain rfl : i2 = j2 := by omega
                have e1 := Hi2s.out
                have e2 := Hj2s.out
                rcases e1 with e1 | e1
                · omega
                · rcases e2 with e2 | e2
                  · omega
                  · simp only at e1 e2; rw [e2] at e1; cases e1
            obtain ⟨x, hx⟩ : ∃ x, dk[i2]! = x := ⟨_, rfl⟩
            obtain ⟨y, hy⟩ : ∃ x, dk[j2]! = x := ⟨_, rfl⟩
            have c1 := hr.cell (j := i2) (by omega)
            have c2 := hr.cell (j := j2) (by omega)
            have f1 := hr.frozen i2
            have f2 := hr.frozen j2
            rw [hx] at c1
            rw [hy] at c2
            have hsi : i2 < d.size := by omega
            have hsj : j2 < d.size := by omega
            have Hr := hide (hr.swapN (i := i2) (j := j2) (by omega) (by omega) hy hx 1)
            have Hm := hide (hm.swapN 1 i2 j2 (.int .u64 y) (.int .u64 x))
            go_upto_region 8 with fail
            go_cut [] (fun wx => Row wx g (swp dk i2 j2) R ∧ Mod [g] w wx)
            case first =>
              have hpa : ¬ i2 = j2 := by omega
              have hap : ¬ j2 = i2 := by omega
              go_region
              all_goals (go_wp2_with fail; go_meet)
              all_goals exact ⟨Hr.out, Hm.out⟩
            case rest =>
              clear hr hm c1 c2 f1 f2 Hr Hm hx hy
              obtain ⟨hr, hm⟩ := hcut
              obtain ⟨d2, hd2⟩ : ∃ z, swp dk i2 j2 = z := ⟨_, rfl⟩
              have hsd2 : d2.size = d.size := by rw [← hd2, size_swp]; try omega
              rw [hd2] at hr
              have Hd2 := hide hd2
              clear hd2
              go_wp2_with fail
              go_roundw
              case rel => exact ⟨i2 + 1, j2 - 1, d2, by go_num, by congr 1; omega, by omega, by omega, by omega, hsd2, hr, hm, by rw [← HO.out, HE.out, if_neg hgt, Hd2.out]⟩
              case measure => simp [intOf]; omega
end Go.Proofs.Ytampdiplodhkbaa
