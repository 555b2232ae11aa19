/-
  slices.pdqsortOrdered, slices.Sort at uint64: a sorted permutation.
-/
import Derived.Test.YtampdiplodhkbaaSoBreak2
import Derived.Test.YtampdiplodhkbaaSoPiv
import Derived.Test.YtampdiplodhkbaaSoHeap2
import Derived.Test.YtampdiplodhkbaaSoIns
namespace Go.Proofs.Ytampdiplodhkbaa
open Go.RowKit Go.Sort

set_option maxRecDepth 100000 in
set_option maxHeartbeats 16000000 in
theorem pdq_u64 (g cap : Nat) (R : List Value) : ∀ (N : Nat) (w : World) (a b lim : Nat) (d : Array Int), b - a ≤ N → Row w g d R → a ≤ b → b ≤ d.size → d.size < 65536 → Go.Sort.Below ltInt a b d → lim ≤ 64 → ∀ (len : Nat), d.size = len →
    Calls Try.prog 50 #[.slice (some ⟨g, 0, none⟩) len cap, .int .i64 a, .int .i64 b, .int .i64 lim] w fun e w' =>
      e = .returned (.tuple #[]) ∧ ∃ d', PermIn a b d d' ∧ SortedIn ltInt a b d' ∧ Row w' g d' R ∧ Mod [g] w w' := by
  intro N
  induction N using Nat.strongRecOn with
  | _ N ih =>
  intro w a b lim d hN hr hab hb hsz hBl hlim len hlen
  have hm := Mod.refl [g] w
  have inv0 : ∀ r, PermIn a b d r → SortedIn ltInt a b r → PermIn a b d r ∧ SortedIn ltInt a b r := fun r h1 h2 => ⟨h1, h2⟩
  have INV0 := hide inv0
  have IH := hide ih
  have HB0 := hide hBl
  clear inv0 ih hBl
  go_enter Try.func50, Try.ntmps50
  go_wp2_with fail
  go_loopw [1, 2, 3, 8, 9] (fun x1 x2 x3 x8 x9 wr => ∃ (a' b' l' : Nat) (wb wp : Bool) (dk : Array Int), x1 = .int .i64 (a' : Int) ∧ x2 = .int .i64 (b' : Int) ∧ x3 = .int .i64 (l' : Int) ∧ x8 = .bool wb ∧ x9 = .bool wp ∧
      a ≤ a' ∧ a' ≤ b' ∧ b' ≤ b ∧ l' ≤ 64 ∧ dk.size = d.size ∧ Row wr g dk R ∧ Mod [g] w wr ∧ Go.Sort.Below ltInt a' b' dk ∧ ∀ r, PermIn a' b' dk r → SortedIn ltInt a' b' r → PermIn a b d r ∧ SortedIn ltInt a b r)
    (fun x1 x2 _ _ _ _ => (intOf x2 - intOf x1).toNat)
  case atStart => exact ⟨a, b, lim, true, true, d, rfl, rfl, rfl, rfl, rfl, Nat.le_refl _, hab, Nat.le_refl _, hlim, rfl, hr, hm, HB0.out, INV0.out⟩
  case round =>
    clear hr hm INV0 HB0
    obtain ⟨a', b', l', wb, wp, dk, rfl, rfl, rfl, rfl, rfl, haa, hab', hbb, hl, hsk, hr, hm, hBl, hinv⟩ := hrel
    have HBl := hide hBl
    have HI := hide hinv
    clear hBl hinv
    obtain ⟨n, hn⟩ : ∃ n, n = b' - a' := ⟨_, rfl⟩
    have hn' : (b' : Int) - a' = n := by omega
    have hnb : a' + n = b' := by omega
    clear hn
    by_cases h12 : n ≤ 12
    · have h12' : (n : Int) ≤ 12 := by omega
      go_wp2_with fail
      refine (insertion_u64 _ g cap a' b' dk R hr (by omega) (by omega) len (by omega) (by omega)).mono ?_
      rintro e wf ⟨rfl, hr', hm'⟩
      obtain ⟨h1, h2⟩ := insertionSort_holds swo_ltInt dk a' b' hab' (by omega)
      obtain ⟨h3, h4⟩ := HI.out _ h1 h2
      go_wp2_with fail
      refine bodyPost_ret (results_none rfl _ _ _) rfl ?_
      exact ⟨rfl, _, h3, h4, hr', hm.trans hm' (by simp)⟩
    · have h12' : ¬ (n : Int) ≤ 12 := by omega
      by_cases hl0 : l' = 0
      · subst hl0
        go_wp2_with fail
        refine (heap_u64 _ g cap a' b' dk R hr (by omega) (by omega) (by omega) len (by omega)).mono ?_
        rintro e wf ⟨rfl, hr', hm'⟩
        obtain ⟨h1, h2⟩ := heapSort_holds swo_ltInt dk a' b' hab' (by omega)
        obtain ⟨h3, h4⟩ := HI.out _ h1 h2
        go_wp2_with fail
        refine bodyPost_ret (results_none rfl _ _ _) rfl ?_
        exact ⟨rfl, _, h3, h4, hr', hm.trans hm' (by simp)⟩
      · have hl0' : ((l' : Int) == 0) = false := by simp; omega
        go_upto_if 35 with fail
        go_cut [3] (fun v wx => ∃ (l1 : Nat) (d1 : Array Int), v = .int .i64 (l1 : Int) ∧ l1 ≤ 64 ∧ d1.size = d.size ∧ PermIn a' b' dk d1 ∧ Row wx g d1 R ∧ Mod [g] w wx)
        case first =>
          cases wb
          · go_wp2_with fail
            refine (break_u64 _ g cap a' b' dk R hr (by omega) (by omega) (by omega) len (by omega)).mono ?_
            rintro e wf ⟨rfl, d1, hp1, hr', hm'⟩
            go_wp2_with fail
            go_meet
            exact ⟨l' - 1, d1, by congr 1; omega, by omega, by rw [hp1.1]; exact hsk, hp1, hr', hm.trans hm' (by simp)⟩
          · go_wp2_with fail
            go_meet
            exact ⟨l', dk, rfl, hl, hsk, permIn_refl _ _ _, hr, hm⟩
        case rest =>
          clear hr hm
          obtain ⟨l1, d1, rfl, hl1, hs1, hp1, hr, hm⟩ := hcut
          go_wp2_with fail
          refine (pivot_u64 _ g cap a' b' d1 R hr (by omega) (by omega) (by omega) len (by omega)).mono ?_
          rintro e wf ⟨p, h, rfl, hpa, hpb, hr', hm'⟩
          replace hm := hm.trans hm' (by simp)
          clear hr hm'
          go_upto_if 50 with fail
          go_cut [11, 12] (fun u v wx => ∃ (p2 h2 : Nat) (d2 : Array Int), u = .int .i64 (p2 : Int) ∧ v = .int .i64 (h2 : Int) ∧ a' ≤ p2 ∧ p2 < b' ∧ d2.size = d.size ∧ PermIn a' b' d1 d2 ∧ Row wx g d2 R ∧ Mod [g] w wx)
          case first =>
            by_cases hh : h = 2
            · subst hh
              go_wp2_with fail
              refine (reverse_u64 _ g cap a' b' d1 R hr' (by omega) (by omega) (by omega) len (by omega)).mono ?_
              rintro e wg ⟨rfl, hr2, hm2⟩
              have hrv := reverseRange_holds d1 a' b' hab' (by omega)
              go_wp2_with fail
              go_meet
              exact ⟨b' - 1 - (p - a'), 1, _, by congr 1; omega, rfl, by omega, by omega, by rw [hrv.1]; exact hs1, hrv, hr2, hm.trans hm2 (by simp)⟩
            · have hh' : ((h : Int) == 2) = false := by simp; omega
              go_wp2_with fail
              go_meet
              exact ⟨p, h, d1, rfl, rfl, hpa, hpb, hs1, permIn_refl _ _ _, hr', hm⟩
          case rest =>
            clear hr' hm hpa hpb
            obtain ⟨p2, h2, d2, rfl, rfl, hpa, hpb, hs2, hp2, hr, hm⟩ := hcut
            go_upto_region 15 with fail
            go_cut [68] (fun v wx => ∃ c : Bool, v = .bool c ∧ Row wx g d2 R ∧ Mod [g] w wx)
            case first =>
              by_cases hh : h2 = 1
              · subst hh
                cases wb <;> cases wp <;> (go_wp2_with fail; go_meet)
                all_goals exact ⟨_, rfl, hr, hm⟩
              · have hh' : ((h2 : Int) == 1) = false := by simp; omega
                cases wb <;> cases wp <;> (go_wp2_with fail; go_meet)
                all_goals exact ⟨_, rfl, hr, hm⟩
            case rest =>
              clear hr hm
              obtain ⟨c, rfl, hr, hm⟩ := hcut
              have hq2 : PermIn a' b' dk d2 := permIn_trans _ _ _ a' b' hp1 hp2
              have hB2 : Go.Sort.Below ltInt a' b' d2 := HBl.out.perm (by omega) hq2
              have HB2 := hide hB2
              clear hp1 hp2 hB2
              go_upto_if 68 with fail
              go_cut [] (fun wx => ∃ d3 : Array Int, d3.size = d.size ∧ PermIn a' b' d2 d3 ∧ Row wx g d3 R ∧ Mod [g] w wx)
              case first =>
                cases c
                · go_wp2_with fail
                  go_meet
                  exact ⟨d2, hs2, permIn_refl _ _ _, hr, hm⟩
                · go_wp2_with fail
                  refine (partial_u64 _ g cap a' b' d2 R hr (by omega) (by omega) (by omega) len (by omega)).mono ?_
                  rintro e wg ⟨rfl, hr2, hm2⟩
                  obtain ⟨k1, k2⟩ := partialInsertionSort_holds swo_ltInt d2 a' b' (by omega) (by omega) HB2.out
                  obtain ⟨dd, hdd⟩ : ∃ dd, (partialInsertionSort ltInt d2 a' b').1 = dd := ⟨_, rfl⟩
                  obtain ⟨t, ht⟩ : ∃ t, (partialInsertionSort ltInt d2 a' b').2 = t := ⟨_, rfl⟩
                  rw [hdd] at k1 k2 hr2
                  rw [ht] at k2
                  rw [ht]
                  clear hdd ht
                  cases t
                  · go_wp2_with fail
                    go_meet
                    exact ⟨dd, by rw [k1.1]; exact hs2, k1, hr2, hm.trans hm2 (by simp)⟩
                  · obtain ⟨h3, h4⟩ := HI.out _ (permIn_trans _ _ _ a' b' hq2 k1) (k2 rfl)
                    clear k2
                    go_wp2_with fail
                    refine bodyPost_ret (results_none rfl _ _ _) rfl ?_
                    exact ⟨rfl, _, h3, h4, hr2, hm.trans hm2 (by simp)⟩
              case rest =>
                clear hr hm
                obtain ⟨d3, hs3, hp3, hr, hm⟩ := hcut
                have hq3 : PermIn a' b' dk d3 := permIn_trans _ _ _ a' b' hq2 hp3
                have hB3 : Go.Sort.Below ltInt a' b' d3 := HB2.out.perm (by omega) hp3
                have HB3 := hide hB3
                clear hp3 hB3 hq2 HB2
                go_upto_region 17 with fail
                go_cut [87] (fun v wx => ∃ c : Bool, v = .bool c ∧ (c = true → 0 < a' ∧ ltInt d3[a' - 1]! d3[p2]! = false) ∧ Row wx g d3 R ∧ Mod [g] w wx)
                case first =>
                  by_cases ha0 : 0 < a'
                  · obtain ⟨k, hk⟩ : ∃ k, k = a' - 1 := ⟨_, rfl⟩
                    have hk' : (a' : Int) - 1 = k := by omega
                    have ha0' : (0 : Int) < a' := by omega
                    have hks : k < d.size := by omega
                    have hps : p2 < d.size := by omega
                    obtain ⟨x, hx⟩ : ∃ x, d3[k]! = x := ⟨_, rfl⟩
                    obtain ⟨y, hy⟩ : ∃ x, d3[p2]! = x := ⟨_, rfl⟩
                    have c1 := hr.cell (j := k) (by omega)
                    have c2 := hr.cell (j := p2) (by omega)
                    rw [hx] at c1
                    rw [hy] at c2
                    have Hk := hide hk
                    have Hx := hide hx
                    have Hy := hide hy
                    clear hk hx hy
                    subst hlen
                    cases hl : ltInt x y
                    · go_quiet (first | (go_at_call 61; refine Calls.quiet_of (lessQ _ _ _)))
                      go_wp2_with fail
                      go_meet
                      exact ⟨true, rfl, fun _ => ⟨ha0, by rw [← Hk.out, Hx.out, Hy.out]; exact hl⟩, hr.drewN _, hm.drewN _⟩
                    · go_quiet (first | (go_at_call 61; refine Calls.quiet_of (lessQ _ _ _)))
                      go_wp2_with fail
                      go_meet
                      exact ⟨false, rfl, nofun, hr.drewN _, hm.drewN _⟩
                  · have ha0' : ¬ (0 : Int) < a' := by omega
                    go_quiet (fail)
                    go_wp2_with fail
                    go_meet
                    exact ⟨false, rfl, nofun, hr.drewN _, hm.drewN _⟩
                case rest =>
                  clear hr hm
                  obtain ⟨c, rfl, hc, hr, hm⟩ := hcut
                  have Hc := hide hc
                  clear hc
                  cases c
                  · clear Hc
                    go_wp2_with fail
                    refine (part_u64 _ g cap a' b' p2 d3 R hr (by omega) hpa hpb (by omega) len (by omega)).mono ?_
                    rintro e wg ⟨rfl, hr2, hm2⟩
                    obtain ⟨⟨mid, ap, d4⟩, hx⟩ : ∃ t, partition ltInt d3 a' b' p2 = t := ⟨_, rfl⟩
                    obtain ⟨k1, k2, k3, k4, k5, k6, k7⟩ := round_part swo_ltInt (partition_holds _) hpa hpb (by omega) HB3.out hx
                    rw [hx] at hr2 ⊢
                    simp only at hr2 ⊢
                    have hm3 : Mod [g] w wg := hm.trans hm2 (by simp)
                    have hs4 : d4.size = d.size := k3.trans hs3
                    obtain ⟨nl, hnl⟩ : ∃ k, k = mid - a' := ⟨_, rfl⟩
                    obtain ⟨nr, hnr⟩ : ∃ k, k = b' - mid := ⟨_, rfl⟩
                    obtain ⟨q8, hq8⟩ : ∃ k, k = n / 8 := ⟨_, rfl⟩
                    have hnl' : (mid : Int) - a' = nl := by omega
                    have hnr' : (b' : Int) - mid = nr := by omega
                    have hq8' : (n : Int).tdiv 8 = q8 := by
                      rw [Int.tdiv_eq_ediv_of_nonneg (by omega)]
                      omega
                    have hwnl : IntKind.i64.wrap (nl : Int) = nl := IntWalk.i64_in _ (by omega)
                    have hwnr : IntKind.i64.wrap (nr : Int) = nr := IntWalk.i64_in _ (by omega)
                    have hwq8 : IntKind.i64.wrap (q8 : Int) = q8 := IntWalk.i64_in _ (by omega)
                    have K4 := hide k4
                    have K5 := hide k5
                    have K6 := hide k6
                    have K7 := hide k7
                    clear hr hm hm2 hx k3 k4 k5 k6 k7 hnl hnr hq8
                    by_cases hlr : nl < nr
                    · have hlr' : (nl : Int) < nr := by omega
                      go_wp2_with fail
                      refine (IH.out (mid - a') (by omega) wg a' mid l1 d4 (Nat.le_refl _) hr2 k1 (by omega) (by omega) K4.out hl1 len (by omega)).mono ?_
                      rintro e wh ⟨rfl, L, hL1, hL2, hr5, hm5⟩
                      obtain ⟨j1, j2⟩ := K6.out L hL1 hL2
                      go_wp2_with fail
                      go_roundw
                      case rel => exact ⟨mid + 1, b', l1, _, _, L, by go_num, rfl, rfl, rfl, rfl, by omega, by omega, hbb, hl1, by rw [hL1.1]; exact hs4, hr5, hm3.trans hm5 (by simp), j1, fun r h1 h2 => by
                        obtain ⟨q1, q2⟩ := j2 r h1 h2
                        exact HI.out r (permIn_trans _ _ _ a' b' hq3 q1) q2⟩
                      case measure => simp [intOf]; omega
                    · have hlr' : ¬ (nl : Int) < nr := by omega
                      go_wp2_with fail
                      refine (IH.out (b' - (mid + 1)) (by omega) wg (mid + 1) b' l1 d4 (Nat.le_refl _) hr2 (by omega) (by omega) (by omega) K5.out hl1 len (by omega)).mono ?_
                      rintro e wh ⟨rfl, L, hL1, hL2, hr5, hm5⟩
                      obtain ⟨j1, j2⟩ := K7.out L hL1 hL2
                      go_wp2_with fail
                      go_roundw
                      case rel => exact ⟨a', mid, l1, _, _, L, rfl, rfl, rfl, rfl, rfl, by omega, by omega, by omega, hl1, by rw [hL1.1]; exact hs4, hr5, hm3.trans hm5 (by simp), j1, fun r h1 h2 => by
                        obtain ⟨q1, q2⟩ := j2 r h1 h2
                        exact HI.out r (permIn_trans _ _ _ a' b' hq3 q1) q2⟩
                      case measure => simp [intOf]; omega
                  · obtain ⟨ha0, hnl⟩ := Hc.out rfl
                    go_wp2_with fail
                    refine (partEq_u64 _ g cap a' b' p2 d3 R hr (by omega) hpa hpb (by omega) len (by omega)).mono ?_
                    rintro e wg ⟨rfl, hr2, hm2⟩
                    obtain ⟨⟨mid, d4⟩, hx⟩ : ∃ t, partitionEqual ltInt d3 a' b' p2 = t := ⟨_, rfl⟩
                    obtain ⟨k1, k2, k3, k4, k5⟩ := round_eq swo_ltInt (partitionEqual_holds _) ha0 hpa hpb (by omega) HB3.out hnl hx
                    rw [hx] at hr2 ⊢
                    simp only at hr2 ⊢
                    have hm3 : Mod [g] w wg := hm.trans hm2 (by simp)
                    have K4 := hide k4
                    have K5 := hide k5
                    clear hr hm hm2 hx k4 k5 hnl Hc
                    go_wp2_with fail
                    go_roundw
                    case rel => exact ⟨mid, b', l1, wb, wp, d4, rfl, rfl, rfl, rfl, rfl, by omega, by omega, hbb, hl1, k3.trans hs3, hr2, hm3, K4.out, fun r h1 h2 => by
                      obtain ⟨q1, q2⟩ := K5.out r h1 h2
                      exact HI.out r (permIn_trans _ _ _ a' b' hq3 q1) q2⟩
                    case measure => simp [intOf]; omega

set_option maxHeartbeats 2000000 in
/-- slices.Sort at uint64: sorted. -/
theorem sort_u64 (w : World) (g cap : Nat) (d : Array Int) (R : List Value) (hr : Row w g d R) (hsz : d.size < 65536) (len : Nat) (hlen : d.size = len) :
    Calls Try.prog 41 #[.slice (some ⟨g, 0, none⟩) len cap] w fun e w' =>
      e = .returned (.tuple #[]) ∧ ∃ d', PermIn 0 len d d' ∧ SortedIn ltInt 0 len d' ∧ Row w' g d' R ∧ Mod [g] w w' := by
  have hwl : IntKind.u64.wrap (len : Int) = len := IntWalk.u64_in _ (by omega)
  have h16 : Lib.bitLen len ≤ 16 := bitLen_le16 (by omega)
  have H16 := hide h16
  clear h16
  go_enter Try.func41, Try.ntmps41
  go_wp2_with fail
  refine (len_u64 w len (by omega)).mono ?_
  rintro e w' ⟨rfl, rfl⟩
  go_wp2_with fail
  refine (pdq_u64 g cap R len w' 0 len (Lib.bitLen len) d (by omega) hr (by omega) (by omega) hsz (.inl rfl) (by have := H16.out; omega) len hlen).mono ?_
  rintro e w2 ⟨rfl, d', h1, h2, h3, h4⟩
  go_wp2_with fail
  go_end0
  exact ⟨rfl, d', h1, h2, h3, h4⟩
end Go.Proofs.Ytampdiplodhkbaa
