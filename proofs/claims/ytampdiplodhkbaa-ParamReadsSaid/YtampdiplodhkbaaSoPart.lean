/-
  slices.partitionOrdered at uint64.
-/
import Derived.Test.YtampdiplodhkbaaSoPartEq
import Derived.Deep.CutBlock
import Derived.Deep.DeepCutAuto
namespace Go.Proofs.Ytampdiplodhkbaa
open Go.RowKit Go.Sort

set_option maxRecDepth 100000 in
set_option maxHeartbeats 16000000 in
theorem part_u64 (w : World) (g cap a b pv : Nat) (d : Array Int) (R : List Value) (hr : Row w g d R) (hb : b ≤ d.size) (ha : a ≤ pv) (hp : pv < b) (hsz : d.size ≤ 1099511627776) (len : Nat) (hlen : d.size = len) :
    Calls Try.prog 63 #[.slice (some ⟨g, 0, none⟩) len cap, .int .i64 a, .int .i64 b, .int .i64 pv] w fun e w' =>
      e = .returned (.tuple #[.int .i64 ((partition ltInt d a b pv).1 : Nat), .bool (partition ltInt d a b pv).2.1]) ∧ Row w' g (partition ltInt d a b pv).2.2 R ∧ Mod [g] w w' := by
  subst hlen
  have hm := Mod.refl [g] w
  go_enter Try.func63, Try.ntmps63
  go_wp2_with fail
  obtain ⟨x, hx⟩ : ∃ x, d[a]! = x := ⟨_, rfl⟩
  obtain ⟨y, hy⟩ : ∃ x, d[pv]! = x := ⟨_, rfl⟩
  have c1 := hr.cell (j := a) (by omega)
  have c2 := hr.cell (j := pv) (by omega)
  have f1 := hr.frozen a
  have f2 := hr.frozen pv
  rw [hx] at c1
  rw [hy] at c2
  have hsi : a < d.size := by omega
  have hsj : pv < d.size := by omega
  have Hr := hide (hr.swapN (i := a) (j := pv) (by omega) (by omega) hy hx 1)
  have Hm := hide (hm.swapN 1 a pv (.int .u64 y) (.int .u64 x))
  go_upto_region 1 with fail
  go_cut [] (fun wx => Row wx g (swp d a pv) R ∧ Mod [g] w wx)
  case first =>
    by_cases hpa : a = pv
    · subst hpa
      obtain rfl : x = y := hx.symm.trans hy
      go_region
      all_goals (go_wp2_with fail; go_meet)
      all_goals exact ⟨Hr.out, Hm.out⟩
    · have hap : ¬ pv = a := fun e => hpa e.symm
      go_region
      all_goals (go_wp2_with fail; go_meet)
      all_goals exact ⟨Hr.out, Hm.out⟩
  case rest =>
    clear hr hm c1 c2 f1 f2 Hr Hm hx hy
    obtain ⟨hr, hm⟩ := hcut
    obtain ⟨d0, hd0⟩ : ∃ z, swp d a pv = z := ⟨_, rfl⟩
    have hsd0 : d0.size = d.size := by rw [← hd0, size_swp]; try omega
    rw [hd0] at hr
    have Hd0 := hide hd0
    clear hd0
    have has : a < d.size := by omega
    obtain ⟨i0, hi0⟩ : ∃ i, i = a + 1 := ⟨_, rfl⟩
    obtain ⟨j0, hj0⟩ : ∃ i, i = b - 1 := ⟨_, rfl⟩
    have hi0' : (a : Int) + 1 = i0 := by omega
    have hj0' : (b : Int) - 1 = j0 := by omega
    have hi0a : a < i0 := by omega
    have hj0b : j0 < b := by omega
    have hij0 : i0 ≤ j0 + 1 := by omega
    have Hi0 := hide hi0
    have Hj0 := hide hj0
    clear hi0 hj0
    have hwi0 : IntKind.i64.wrap (i0 : Int) = i0 := IntWalk.i64_in _ (by omega)
    have hwj0 : IntKind.i64.wrap (j0 : Int) = j0 := IntWalk.i64_in _ (by omega)
    go_upto_block 0 with fail
    go_cut [10] (fun v wx => ∃ n1 : Nat, v = .int .i64 (n1 : Int) ∧ (i0 ≤ n1 ∧ n1 ≤ j0 + 1) ∧ scanUp (fun z => ltInt z d0[a]!) d0 j0 i0 = n1 ∧ (j0 < n1 ∨ (fun z => ltInt z d0[a]!) d0[n1]! = false) ∧ Row wx g d0 R ∧ Mod [g] w wx)
    case first =>
      go_wp2_with fail
      go_loopw [10] (fun v wx => ∃ n1 : Nat, v = .int .i64 (n1 : Int) ∧ (i0 ≤ n1 ∧ n1 ≤ j0 + 1) ∧ scanUp (fun z => ltInt z d0[a]!) d0 j0 n1 = scanUp (fun z => ltInt z d0[a]!) d0 j0 i0 ∧ Row wx g d0 R ∧ Mod [g] w wx) (fun v _ => j0 + 1 - (intOf v).toNat)
      case atStart => exact ⟨i0, rfl, ⟨Nat.le_refl _, by omega⟩, rfl, hr, hm⟩
      case round =>
        clear hr hm
        obtain ⟨n1, rfl, hn, hO, hr, hm⟩ := hrel
        obtain ⟨hn1, hn2⟩ := hn
        have HO := hide hO
        clear hO
        by_cases hle : n1 ≤ j0
        · have hle' : (n1 : Int) ≤ j0 := by omega
          have hn1s : n1 < d.size := by omega
          obtain ⟨v, hv⟩ : ∃ x, d0[a]! = x := ⟨_, rfl⟩
          obtain ⟨t, ht⟩ : ∃ x, d0[n1]! = x := ⟨_, rfl⟩
          have c1 := hr.cell (j := a) (by omega)
          have c2 := hr.cell (j := n1) (by omega)
          rw [hv] at c1
          rw [ht] at c2
          have Hv := hide hv
          have Ht := hide ht
          clear hv ht
          cases hl : ltInt t v
          · go_wp2_with fail
            go_quiet (first | (go_at_call 61; refine Calls.quiet_of (lessQ _ _ _)))
            go_wp2_with fail
            go_meet
            have hst : (fun z => ltInt z d0[a]!) d0[n1]! = false := by show (ltInt _ _) = false; rw [Hv.out, Ht.out, hl]; try rfl
            exact ⟨n1, rfl, ⟨by omega, by omega⟩, by rw [← HO.out]; exact up_stop (.inr hst), .inr hst, hr.drewN _, hm.drewN _⟩
          · go_wp2_with fail
            go_quiet (first | (go_at_call 61; refine Calls.quiet_of (lessQ _ _ _)))
            go_wp2_with fail
            go_roundw
            case rel => exact ⟨n1 + 1, by go_num, ⟨by omega, by omega⟩, by
              rw [← HO.out]
              skip
              skip
              exact (up_yes hle (by show (ltInt _ _) = true; rw [Hv.out, Ht.out, hl]; try rfl)).symm, hr.drewN _, hm.drewN _⟩
            case measure => simp [intOf]; omega
        · have hle' : decide ((n1 : Int) ≤ j0) = false := decide_eq_false (by omega)
          go_wp2_with fail
          go_quiet (fail)
          go_wp2_with fail
          go_meet
          exact ⟨n1, rfl, ⟨by omega, by omega⟩, by rw [← HO.out]; exact up_stop (.inl (by omega)), .inl (by omega), hr.drewN _, hm.drewN _⟩
    case rest =>
      clear hr hm
      obtain ⟨i1, rfl, hi1b, hi1, hi1s, hr, hm⟩ := hcut
      obtain ⟨hi11, hi12⟩ := hi1b
      have Hi1 := hide hi1
      have Hi1s := hide hi1s
      clear hi1 hi1s
      go_upto_block 2 with fail
      go_cut [11] (fun v wx => ∃ n1 : Nat, v = .int .i64 (n1 : Int) ∧ (n1 ≤ j0 ∧ i1 ≤ n1 + 1) ∧ scanDown (fun z => !ltInt z d0[a]!) d0 i1 j0 = n1 ∧ (n1 < i1 ∨ (fun z => !ltInt z d0[a]!) d0[n1]! = false) ∧ Row wx g d0 R ∧ Mod [g] w wx)
      case first =>
        go_wp2_with fail
        go_loopw [11] (fun v wx => ∃ n1 : Nat, v = .int .i64 (n1 : Int) ∧ (n1 ≤ j0 ∧ i1 ≤ n1 + 1) ∧ scanDown (fun z => !ltInt z d0[a]!) d0 i1 n1 = scanDown (fun z => !ltInt z d0[a]!) d0 i1 j0 ∧ Row wx g d0 R ∧ Mod [g] w wx) (fun v _ => (intOf v).toNat)
        case atStart => exact ⟨j0, rfl, ⟨Nat.le_refl _, by omega⟩, rfl, hr, hm⟩
        case round =>
          clear hr hm
          obtain ⟨n1, rfl, hn, hO, hr, hm⟩ := hrel
          obtain ⟨hn1, hn2⟩ := hn
          have HO := hide hO
          clear hO
          by_cases hle : i1 ≤ n1
          · have hle' : (i1 : Int) ≤ n1 := by omega
            have hn1s : n1 < d.size := by omega
            obtain ⟨v, hv⟩ : ∃ x, d0[a]! = x := ⟨_, rfl⟩
            obtain ⟨t, ht⟩ : ∃ x, d0[n1]! = x := ⟨_, rfl⟩
            have c1 := hr.cell (j := a) (by omega)
            have c2 := hr.cell (j := n1) (by omega)
            rw [hv] at c1
            rw [ht] at c2
            have Hv := hide hv
            have Ht := hide ht
            clear hv ht
            cases hl : ltInt t v
            · go_wp2_with fail
              go_quiet (first | (go_at_call 61; refine Calls.quiet_of (lessQ _ _ _)))
              go_wp2_with fail
              go_roundw
              case rel => exact ⟨n1 - 1, by congr 1; omega, ⟨by omega, by omega⟩, by
                rw [← HO.out]
                obtain ⟨k, rfl⟩ : ∃ k, n1 = k + 1 := ⟨n1 - 1, by omega⟩
                rw [Nat.add_sub_cancel]
                exact (down_yes (by omega) (by show (!ltInt _ _) = true; rw [Hv.out, Ht.out, hl]; try rfl)).symm, hr.drewN _, hm.drewN _⟩
              case measure => simp [intOf]; omega
            · go_wp2_with fail
              go_quiet (first | (go_at_call 61; refine Calls.quiet_of (lessQ _ _ _)))
              go_wp2_with fail
              go_meet
              have hst : (fun z => !ltInt z d0[a]!) d0[n1]! = false := by show (!ltInt _ _) = false; rw [Hv.out, Ht.out, hl]; try rfl
              exact ⟨n1, rfl, ⟨by omega, by omega⟩, by rw [← HO.out]; exact down_stop (.inr hst), .inr hst, hr.drewN _, hm.drewN _⟩
          · have hle' : decide ((i1 : Int) ≤ n1) = false := decide_eq_false (by omega)
            go_wp2_with fail
            go_quiet (fail)
            go_wp2_with fail
            go_meet
            exact ⟨n1, rfl, ⟨by omega, by omega⟩, by rw [← HO.out]; exact down_stop (.inl (by omega)), .inl (by omega), hr.drewN _, hm.drewN _⟩
      case rest =>
        clear hr hm
        obtain ⟨j1, rfl, hj1b, hj1, hj1s, hr, hm⟩ := hcut
        obtain ⟨hj11, hj12⟩ := hj1b
        have Hj1 := hide hj1
        have Hj1s := hide hj1s
        clear hj1 hj1s
        have HP : Hid (partition ltInt d a b pv = if i1 > j1 then (j1, true, swp d0 j1 a) else ((partLoop ltInt a (i1 + 1) (j1 - 1) (swp d0 i1 j1)).1, false, swp (partLoop ltInt a (i1 + 1) (j1 - 1) (swp d0 i1 j1)).2 (partLoop ltInt a (i1 + 1) (j1 - 1) (swp d0 i1 j1)).1 a)) := hide (by
          have e1 := Hi1.out
          have e2 := Hj1.out
          rw [Hi0.out, Hj0.out] at e1
          rw [Hj0.out] at e2
          unfold partition
          simp only [Hd0.out, e1, e2])
        by_cases hgt : j1 < i1
        · have hgt' : (j1 : Int) < i1 := by omega
          obtain ⟨x, hx⟩ : ∃ x, d0[j1]! = x := ⟨_, rfl⟩
          obtain ⟨y, hy⟩ : ∃ x, d0[a]! = x := ⟨_, rfl⟩
          have c1 := hr.cell (j := j1) (by omega)
          have c2 := hr.cell (j := a) (by omega)
          have f1 := hr.frozen j1
          have f2 := hr.frozen a
          rw [hx] at c1
          rw [hy] at c2
          have hsi : j1 < d.size := by omega
          have hsj : a < d.size := by omega
          have Hr := hide (hr.swapN (i := j1) (j := a) (by omega) (by omega) hy hx 1)
          have Hm := hide (hm.swapN 1 j1 a (.int .u64 y) (.int .u64 x))
          go_upto_region 8 with fail
          go_cut [] (fun wx => Row wx g (swp d0 j1 a) R ∧ Mod [g] w wx)
          case first =>
            by_cases hpa : j1 = a
            · subst hpa
              obtain rfl : x = y := hx.symm.trans hy
              go_region
              all_goals (go_wp2_with fail; go_meet)
              all_goals exact ⟨Hr.out, Hm.out⟩
            · have hap : ¬ a = j1 := fun e => hpa e.symm
              go_region
              all_goals (go_wp2_with fail; go_meet)
              all_goals exact ⟨Hr.out, Hm.out⟩
          case rest =>
            clear hr hm c1 c2 f1 f2 Hr Hm hx hy
            obtain ⟨hr, hm⟩ := hcut
            obtain ⟨d3, hd3⟩ : ∃ z, swp d0 j1 a = z := ⟨_, rfl⟩
            have hsd3 : d3.size = d.size := by rw [← hd3, size_swp]; try omega
            rw [hd3] at hr
            have Hd3 := hide hd3
            clear hd3
            go_wp2_with fail
            go_ret2
            have he : partition ltInt d a b pv = (j1, true, d3) := by rw [HP.out, if_pos hgt, Hd3.out]
            rw [he]
            exact ⟨rfl, hr, hm⟩
        · have hgt' : decide ((j1 : Int) < i1) = false := decide_eq_false (by omega)
          have hne : i1 < j1 := by
            rcases Nat.lt_or_ge i1 j1 with h | h
            · exact h
            · obtain rfl : i1 = j1 := by omega
              have e1 := Hi1s.out
              have e2 := Hj1s.out
              rcases e1 with e1 | e1
              · omega
              · rcases e2 with e2 | e2
                · omega
                · simp only at e1 e2; rw [e1] at e2; cases e2
          obtain ⟨x, hx⟩ : ∃ x, d0[i1]! = x := ⟨_, rfl⟩
          obtain ⟨y, hy⟩ : ∃ x, d0[j1]! = x := ⟨_, rfl⟩
          have c1 := hr.cell (j := i1) (by omega)
          have c2 := hr.cell (j := j1) (by omega)
          have f1 := hr.frozen i1
          have f2 := hr.frozen j1
          rw [hx] at c1
          rw [hy] at c2
          have hsi : i1 < d.size := by omega
          have hsj : j1 < d.size := by omega
          have Hr := hide (hr.swapN (i := i1) (j := j1) (by omega) (by omega) hy hx 1)
          have Hm := hide (hm.swapN 1 i1 j1 (.int .u64 y) (.int .u64 x))
          go_upto_region 10 with fail
          go_cut [] (fun wx => Row wx g (swp d0 i1 j1) R ∧ Mod [g] w wx)
          case first =>
            have hpa : ¬ i1 = j1 := by omega
            have hap : ¬ j1 = i1 := by omega
            go_region
            all_goals (go_wp2_with fail; go_meet)
            all_goals exact ⟨Hr.out, Hm.out⟩
          case rest =>
            clear hr hm c1 c2 f1 f2 Hr Hm hx hy
            obtain ⟨hr, hm⟩ := hcut
            obtain ⟨d4, hd4⟩ : ∃ z, swp d0 i1 j1 = z := ⟨_, rfl⟩
            have hsd4 : d4.size = d.size := by rw [← hd4, size_swp]; try omega
            rw [hd4] at hr
            have Hd4 := hide hd4
            clear hd4
            have HP2 : Hid (partition ltInt d a b pv = ((partLoop ltInt a (i1 + 1) (j1 - 1) d4).1, false, swp (partLoop ltInt a (i1 + 1) (j1 - 1) d4).2 (partLoop ltInt a (i1 + 1) (j1 - 1) d4).1 a)) := hide (by
              rw [HP.out, if_neg hgt, Hd4.out])
            go_wp2_with fail
            go_loopw [10, 11] (fun u v wr => ∃ (i j : Nat) (dk : Array Int), u = .int .i64 (i : Int) ∧ v = .int .i64 (j : Int) ∧ a < i ∧ i ≤ j + 1 ∧ j < b ∧ dk.size = d.size ∧ Row wr g dk R ∧ Mod [g] w wr ∧ partLoop ltInt a i j dk = partLoop ltInt a (i1 + 1) (j1 - 1) d4)
              (fun u v _ => (intOf v + 1 - intOf u).toNat)
            case atStart => exact ⟨i1 + 1, j1 - 1, d4, by go_num, by congr 1; omega, by omega, by omega, by omega, hsd4, hr, hm, rfl⟩
            case round =>
              clear hr hm
              obtain ⟨i, j, dk, rfl, rfl, hai, hij, hjb, hsk, hr, hm, hO⟩ := hrel
              have HO1 := hide hO
              clear hO
              go_upto_block 6 with fail
              go_cut [10] (fun v wx => ∃ n1 : Nat, v = .int .i64 (n1 : Int) ∧ (i ≤ n1 ∧ n1 ≤ j + 1) ∧ scanUp (fun z => ltInt z dk[a]!) dk j i = n1 ∧ (j < n1 ∨ (fun z => ltInt z dk[a]!) dk[n1]! = false) ∧ Row wx g dk R ∧ Mod [g] w wx)
              case first =>
                go_wp2_with fail
                go_loopw [10] (fun v wx => ∃ n1 : Nat, v = .int .i64 (n1 : Int) ∧ (i ≤ n1 ∧ n1 ≤ j + 1) ∧ scanUp (fun z => ltInt z dk[a]!) dk j n1 = scanUp (fun z => ltInt z dk[a]!) dk j i ∧ Row wx g dk R ∧ Mod [g] w wx) (fun v _ => j + 1 - (intOf v).toNat)
                case atStart => exact ⟨i, rfl, ⟨Nat.le_refl _, by omega⟩, rfl, hr, hm⟩
                case round =>
                  clear hr hm
                  obtain ⟨n1, rfl, hn, hO, hr, hm⟩ := hrel
                  obtain ⟨hn1, hn2⟩ := hn
                  have HO := hide hO
                  clear hO
                  by_cases hle : n1 ≤ j
                  · have hle' : (n1 : Int) ≤ j := by omega
                    have hn1s : n1 < d.size := by omega
                    obtain ⟨v, hv⟩ : ∃ x, dk[a]! = x := ⟨_, rfl⟩
                    obtain ⟨t, ht⟩ : ∃ x, dk[n1]! = x := ⟨_, rfl⟩
                    have c1 := hr.cell (j := a) (by omega)
                    have c2 := hr.cell (j := n1) (by omega)
                    rw [hv] at c1
                    rw [ht] at c2
                    have Hv := hide hv
                    have Ht := hide ht
                    clear hv ht
                    cases hl : ltInt t v
                    · go_wp2_with fail
                      go_quiet (first | (go_at_call 61; refine Calls.quiet_of (lessQ _ _ _)))
                      go_wp2_with fail
                      go_meet
                      have hst : (fun z => ltInt z dk[a]!) dk[n1]! = false := by show (ltInt _ _) = false; rw [Hv.out, Ht.out, hl]; try rfl
                      exact ⟨n1, rfl, ⟨by omega, by omega⟩, by rw [← HO.out]; exact up_stop (.inr hst), .inr hst, hr.drewN _, hm.drewN _⟩
                    · go_wp2_with fail
                      go_quiet (first | (go_at_call 61; refine Calls.quiet_of (lessQ _ _ _)))
                      go_wp2_with fail
                      go_roundw
                      case rel => exact ⟨n1 + 1, by go_num, ⟨by omega, by omega⟩, by
                        rw [← HO.out]
                        skip
                        skip
                        exact (up_yes hle (by show (ltInt _ _) = true; rw [Hv.out, Ht.out, hl]; try rfl)).symm, hr.drewN _, hm.drewN _⟩
                      case measure => simp [intOf]; omega
                  · have hle' : decide ((n1 : Int) ≤ j) = false := decide_eq_false (by omega)
                    go_wp2_with fail
                    go_quiet (fail)
                    go_wp2_with fail
                    go_meet
                    exact ⟨n1, rfl, ⟨by omega, by omega⟩, by rw [← HO.out]; exact up_stop (.inl (by omega)), .inl (by omega), hr.drewN _, hm.drewN _⟩
              case rest =>
                clear hr hm
                obtain ⟨i2, rfl, hi2b, hi2, hi2s, hr, hm⟩ := hcut
                obtain ⟨hi21, hi22⟩ := hi2b
                have Hi2 := hide hi2
                have Hi2s := hide hi2s
                clear hi2 hi2s
                go_upto_block 8 with fail
                go_cut [11] (fun v wx => ∃ n1 : Nat, v = .int .i64 (n1 : Int) ∧ (n1 ≤ j ∧ i2 ≤ n1 + 1) ∧ scanDown (fun z => !ltInt z dk[a]!) dk i2 j = n1 ∧ (n1 < i2 ∨ (fun z => !ltInt z dk[a]!) dk[n1]! = false) ∧ Row wx g dk R ∧ Mod [g] w wx)
                case first =>
                  go_wp2_with fail
                  go_loopw [11] (fun v wx => ∃ n1 : Nat, v = .int .i64 (n1 : Int) ∧ (n1 ≤ j ∧ i2 ≤ n1 + 1) ∧ scanDown (fun z => !ltInt z dk[a]!) dk i2 n1 = scanDown (fun z => !ltInt z dk[a]!) dk i2 j ∧ Row wx g dk R ∧ Mod [g] w wx) (fun v _ => (intOf v).toNat)
                  case atStart => exact ⟨j, rfl, ⟨Nat.le_refl _, by omega⟩, rfl, hr, hm⟩
                  case round =>
                    clear hr hm
                    obtain ⟨n1, rfl, hn, hO, hr, hm⟩ := hrel
                    obtain ⟨hn1, hn2⟩ := hn
                    have HO := hide hO
                    clear hO
                    by_cases hle : i2 ≤ n1
                    · have hle' : (i2 : Int) ≤ n1 := by omega
                      have hn1s : n1 < d.size := by omega
                      obtain ⟨v, hv⟩ : ∃ x, dk[a]! = x := ⟨_, rfl⟩
                      obtain ⟨t, ht⟩ : ∃ x, dk[n1]! = x := ⟨_, rfl⟩
                      have c1 := hr.cell (j := a) (by omega)
                      have c2 := hr.cell (j := n1) (by omega)
                      rw [hv] at c1
                      rw [ht] at c2
                      have Hv := hide hv
                      have Ht := hide ht
                      clear hv ht
                      cases hl : ltInt t v
                      · go_wp2_with fail
                        go_quiet (first | (go_at_call 61; refine Calls.quiet_of (lessQ _ _ _)))
                        go_wp2_with fail
                        go_roundw
                        case rel => exact ⟨n1 - 1, by congr 1; omega, ⟨by omega, by omega⟩, by
                          rw [← HO.out]
                          obtain ⟨k, rfl⟩ : ∃ k, n1 = k + 1 := ⟨n1 - 1, by omega⟩
                          rw [Nat.add_sub_cancel]
                          exact (down_yes (by omega) (by show (!ltInt _ _) = true; rw [Hv.out, Ht.out, hl]; try rfl)).symm, hr.drewN _, hm.drewN _⟩
                        case measure => simp [intOf]; omega
                      · go_wp2_with fail
                        go_quiet (first | (go_at_call 61; refine Calls.quiet_of (lessQ _ _ _)))
                        go_wp2_with fail
                        go_meet
                        have hst : (fun z => !ltInt z dk[a]!) dk[n1]! = false := by show (!ltInt _ _) = false; rw [Hv.out, Ht.out, hl]; try rfl
                        exact ⟨n1, rfl, ⟨by omega, by omega⟩, by rw [← HO.out]; exact down_stop (.inr hst), .inr hst, hr.drewN _, hm.drewN _⟩
                    · have hle' : decide ((i2 : Int) ≤ n1) = false := decide_eq_false (by omega)
                      go_wp2_with fail
                      go_quiet (fail)
                      go_wp2_with fail
                      go_meet
                      exact ⟨n1, rfl, ⟨by omega, by omega⟩, by rw [← HO.out]; exact down_stop (.inl (by omega)), .inl (by omega), hr.drewN _, hm.drewN _⟩
                case rest =>
                  clear hr hm
                  obtain ⟨j2, rfl, hj2b, hj2, hj2s, hr, hm⟩ := hcut
                  obtain ⟨hj21, hj22⟩ := hj2b
                  have Hj2 := hide hj2
                  have Hj2s := hide hj2s
                  clear hj2 hj2s
                  have HE : Hid (partLoop ltInt a i j dk = if i2 > j2 then (j2, dk) else partLoop ltInt a (i2 + 1) (j2 - 1) (swp dk i2 j2)) := hide (by
                    have := partLoop_eq ltInt a i j dk
                    rw [Hi2.out, Hj2.out] at this
                    exact this)
                  by_cases hgt : j2 < i2
                  · have hgt' : (j2 : Int) < i2 := by omega
                    obtain ⟨x, hx⟩ : ∃ x, dk[j2]! = x := ⟨_, rfl⟩
                    obtain ⟨y, hy⟩ : ∃ x, dk[a]! = x := ⟨_, rfl⟩
                    have c1 := hr.cell (j := j2) (by omega)
                    have c2 := hr.cell (j := a) (by omega)
                    have f1 := hr.frozen j2
                    have f2 := hr.frozen a
                    rw [hx] at c1
                    rw [hy] at c2
                    have hsi : j2 < d.size := by omega
                    have hsj : a < d.size := by omega
                    have Hr := hide (hr.swapN (i := j2) (j := a) (by omega) (by omega) hy hx 1)
                    have Hm := hide (hm.swapN 1 j2 a (.int .u64 y) (.int .u64 x))
                    go_upto_region 21 with fail
                    go_cut [] (fun wx => Row wx g (swp dk j2 a) R ∧ Mod [g] w wx)
                    case first =>
                      by_cases hpa : j2 = a
                      · subst hpa
                        obtain rfl : x = y := hx.symm.trans hy
                        go_region
                        all_goals (go_wp2_with fail; go_meet)
                        all_goals exact ⟨Hr.out, Hm.out⟩
                      · have hap : ¬ a = j2 := fun e => hpa e.symm
                        go_region
                        all_goals (go_wp2_with fail; go_meet)
                        all_goals exact ⟨Hr.out, Hm.out⟩
                    case rest =>
                      clear hr hm c1 c2 f1 f2 Hr Hm hx hy
                      obtain ⟨hr, hm⟩ := hcut
                      obtain ⟨d5, hd5⟩ : ∃ z, swp dk j2 a = z := ⟨_, rfl⟩
                      have hsd5 : d5.size = d.size := by rw [← hd5, size_swp]; try omega
                      rw [hd5] at hr
                      have Hd5 := hide hd5
                      clear hd5
                      go_wp2_with fail
                      go_ret2
                      have he : partition ltInt d a b pv = (j2, false, d5) := by rw [HP2.out, ← HO1.out, HE.out, if_pos hgt, Hd5.out]
                      rw [he]
                      exact ⟨rfl, hr, hm⟩
                  · have hgt' : decide ((j2 : Int) < i2) = false := decide_eq_false (by omega)
                    have hne : i2 < j2 := by
                      rcases Nat.lt_or_ge i2 j2 with h | h
                      · exact h
                      · obtain rfl : i2 = j2 := by omega
                        have e1 := Hi2s.out
                        have e2 := Hj2s.out
                        rcases e1 with e1 | e1
                        · omega
                        · rcases e2 with e2 | e2
                          · omega
                          · simp only at e1 e2; rw [e1] at e2; cases e2
                    obtain ⟨x, hx⟩ : ∃ x, dk[i2]! = x := ⟨_, rfl⟩
                    obtain ⟨y, hy⟩ : ∃ x, dk[j2]! = x := ⟨_, rfl⟩
                    have c1 := hr.cell (j := i2) (by omega)
                    have c2 := hr.cell (j := j2) (by omega)
                    have f1 := hr.frozen i2
                    have f2 := hr.frozen j2
                    rw [hx] at c1
                    rw [hy] at c2
                    have hsi : i2 < d.size := by omega
                    have hsj : j2 < d.size := by omega
                    have Hr := hide (hr.swapN (i := i2) (j := j2) (by omega) (by omega) hy hx 1)
                    have Hm := hide (hm.swapN 1 i2 j2 (.int .u64 y) (.int .u64 x))
                    go_upto_region 18 with fail
                    go_cut [] (fun wx => Row wx g (swp dk i2 j2) R ∧ Mod [g] w wx)
                    case first =>
                      have hpa : ¬ i2 = j2 := by omega
                      have hap : ¬ j2 = i2 := by omega
                      go_region
                      all_goals (go_wp2_with fail; go_meet)
                      all_goals exact ⟨Hr.out, Hm.out⟩
                    case rest =>
                      clear hr hm c1 c2 f1 f2 Hr Hm hx hy
                      obtain ⟨hr, hm⟩ := hcut
                      obtain ⟨d6, hd6⟩ : ∃ z, swp dk i2 j2 = z := ⟨_, rfl⟩
                      have hsd6 : d6.size = d.size := by rw [← hd6, size_swp]; try omega
                      rw [hd6] at hr
                      have Hd6 := hide hd6
                      clear hd6
                      go_wp2_with fail
                      go_roundw
                      case rel => exact ⟨i2 + 1, j2 - 1, d6, by go_num, by congr 1; omega, by omega, by omega, by omega, hsd6, hr, hm, by rw [← HO1.out, HE.out, if_neg hgt, Hd6.out]⟩
                      case measure => simp [intOf]; omega
end Go.Proofs.Ytampdiplodhkbaa
