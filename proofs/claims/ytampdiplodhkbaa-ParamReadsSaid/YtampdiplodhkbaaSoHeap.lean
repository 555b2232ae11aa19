/-
  slices.siftDownOrdered, heapSortOrdered, reverseRangeOrdered at uint64.
-/
import Derived.Test.YtampdiplodhkbaaSoRow
namespace Go.Proofs.Ytampdiplodhkbaa
open Go.RowKit Go.Sort

theorem sift_stop {hi first root : Nat} {d : Array Int} (h : hi ≤ 2 * root + 1) : siftDown ltInt hi first root d = d := by
  rw [siftDown]; simp [h]
theorem sift_no {hi first root k p q : Nat} {d : Array Int} (hc : 2 * root + 1 < hi) (hk : k = if 2 * root + 2 < hi ∧ ltInt d[first + (2 * root + 1)]! d[first + (2 * root + 1) + 1]! = true then 2 * root + 2 else 2 * root + 1)
    (hp : p = first + root) (hq : q = first + k) (hl : ltInt d[p]! d[q]! = false) : siftDown ltInt hi first root d = d := by
  subst hp hq
  rw [siftDown, dif_neg (by omega)]
  by_cases h2 : 2 * root + 2 < hi ∧ ltInt d[first + (2 * root + 1)]! d[first + (2 * root + 1) + 1]! = true
  · rw [if_pos h2] at hk
    subst hk
    rw [if_pos (by simpa using h2), if_pos (by simp [hl])]
  · rw [if_neg h2] at hk
    subst hk
    rw [if_neg (by simpa using h2), if_pos (by simp [hl])]
theorem sift_yes {hi first root k p q : Nat} {d : Array Int} (hc : 2 * root + 1 < hi) (hk : k = if 2 * root + 2 < hi ∧ ltInt d[first + (2 * root + 1)]! d[first + (2 * root + 1) + 1]! = true then 2 * root + 2 else 2 * root + 1)
    (hp : p = first + root) (hq : q = first + k) (hl : ltInt d[p]! d[q]! = true) : siftDown ltInt hi first root d = siftDown ltInt hi first k (swp d p q) := by
  subst hp hq
  rw [siftDown, dif_neg (by omega)]
  by_cases h2 : 2 * root + 2 < hi ∧ ltInt d[first + (2 * root + 1)]! d[first + (2 * root + 1) + 1]! = true
  · rw [if_pos h2] at hk
    subst hk
    rw [if_pos (by simpa using h2), if_neg (by simp [hl]), dif_pos h2.1]
  · rw [if_neg h2] at hk
    subst hk
    rw [if_neg (by simpa using h2), if_neg (by simp [hl])]

set_option maxHeartbeats 4000000 in
theorem sift_u64 (w : World) (g cap lo hi first : Nat) (d : Array Int) (R : List Value) (h : Row w g d R) (hb : first + hi ≤ d.size) (hlo : lo ≤ hi) (hsz : d.size ≤ 1099511627776) (len : Nat) (hlen : d.size = len) :
    Calls Try.prog 66 #[.slice (some ⟨g, 0, none⟩) len cap, .int .i64 lo, .int .i64 hi, .int .i64 first] w fun e w' =>
      e = .returned (.tuple #[]) ∧ Row w' g (siftDown ltInt hi first lo d) R ∧ Mod [g] w w' := by
  subst hlen
  go_enter Try.func66, Try.ntmps66
  go_wp2
  go_loopw [8] (fun v wr => ∃ (root : Nat) (dk : Array Int), v = .int .i64 (root : Int) ∧ root ≤ hi ∧ dk.size = d.size ∧ Row wr g dk R ∧ Mod [g] w wr ∧ siftDown ltInt hi first root dk = siftDown ltInt hi first lo d)
    (fun v _ => hi - (intOf v).toNat)
  case atStart => exact ⟨lo, d, rfl, hlo, rfl, h, Mod.refl _ _, rfl⟩
  case round =>
    obtain ⟨root, dk, rfl, hrt, hsk, hr, hm, hO⟩ := hrel
    have HO := hide hO
    clear hO h
    obtain ⟨k1, hk1⟩ : ∃ k, k = 2 * root + 1 := ⟨_, rfl⟩
    have hk1' : (2 : Int) * root + 1 = k1 := by omega
    have Hk1 := hide hk1
    clear hk1
    by_cases hc : k1 < hi
    · have Hc : Hid (2 * root + 1 < hi) := hide (by have := Hk1.out; omega)
      have Hlt : Hid (root < k1) := hide (by have := Hk1.out; omega)
      obtain ⟨p, hp⟩ : ∃ k, k = first + root := ⟨_, rfl⟩
      have hp' : (first : Int) + root = p := by omega
      have hps : p < d.size := by have := Hk1.out; omega
      have hwp : IntKind.i64.wrap (p : Int) = p := IntWalk.i64_in _ (by omega)
      have Hp := hide hp
      clear hp
      obtain ⟨q1, hq1⟩ : ∃ k, k = first + k1 := ⟨_, rfl⟩
      have hq1' : (first : Int) + k1 = q1 := by omega
      have hqs1 : q1 < d.size := by omega
      have hwq : IntKind.i64.wrap (q1 : Int) = q1 := IntWalk.i64_in _ (by omega)
      have hwk : IntKind.i64.wrap ((k1 : Int) + 1) = k1 + 1 := IntWalk.i64_in _ (by omega)
      have Hq1 := hide hq1
      clear hq1
      obtain ⟨x, hx⟩ : ∃ x, dk[p]! = x := ⟨_, rfl⟩
      obtain ⟨y, hy⟩ : ∃ x, dk[q1]! = x := ⟨_, rfl⟩
      have c1 := hr.cell (j := p) (by omega)
      have c2 := hr.cell (j := q1) (by omega)
      have f1 := hr.frozen p
      have f2 := hr.frozen q1
      rw [hx] at c1
      rw [hy] at c2
      have Hx := hide hx
      have Hy := hide hy
      clear hx hy
      by_cases hc2 : k1 + 1 < hi
      · obtain ⟨z, hz⟩ : ∃ x, dk[q1 + 1]! = x := ⟨_, rfl⟩
        have c3 := hr.cell (j := q1 + 1) (by omega)
        rw [hz] at c3
        have f3 := hr.frozen (q1 + 1)
        have Hz := hide hz
        clear hz
        have hc2' : (k1 : Int) + 1 < hi := by omega
        have hwq2 : IntKind.i64.wrap ((q1 : Int) + 1) = q1 + 1 := IntWalk.i64_in _ (by omega)
        have hq2' : (first : Int) + ((k1 : Int) + 1) = (q1 : Int) + 1 := by omega
        cases hl : ltInt y z
        · go_wp2_with fail
          go_quiet (first | (go_at_call 61; refine Calls.quiet_of (lessQ _ _ _)))
          have HK : Hid (k1 = if 2 * root + 2 < hi ∧ ltInt dk[first + (2 * root + 1)]! dk[first + (2 * root + 1) + 1]! = true then 2 * root + 2 else 2 * root + 1) := hide (by
            have e : first + (2 * root + 1) = q1 := by have := Hq1.out; have := Hk1.out; omega
            rw [e, Hy.out, Hz.out, hl]; simpa using Hk1.out)
          cases hl2 : ltInt x y
          · have hs : Hid (siftDown ltInt hi first root dk = dk) := hide (sift_no Hc.out HK.out Hp.out (q := q1) (by have := Hq1.out; have := Hk1.out; omega) (by rw [Hx.out, Hy.out]; exact hl2))
            go_wp2_with fail
            go_quiet (first | (go_at_call 61; exact quiet_add (lessQ _ _ _)))
            go_wp2
            refine bodyPost_ret (results_none rfl _ _ _) rfl ?_
            exact ⟨rfl, by rw [← HO.out, hs.out]; exact (hr.drewN _).drewN _, (hm.drewN _).drewN _⟩
          · have hs : Hid (siftDown ltInt hi first root dk = siftDown ltInt hi first (k1) (swp dk p (q1))) := hide (sift_yes Hc.out HK.out Hp.out (q := q1) (by have := Hq1.out; have := Hk1.out; omega) (by rw [Hx.out, Hy.out]; exact hl2))
            go_wp2_with fail
            go_quiet (first | (go_at_call 61; exact quiet_add (lessQ _ _ _)))
            go_wp2
            go_region
            all_goals go_wp2
            go_roundw
            case rel => exact ⟨k1, swp dk p (q1), by go_num, by omega, by rw [size_swp]; exact hsk, hr.swapN (by omega) (by omega) Hy.out Hx.out _, hm.swapN _ _ _ _ _, hs.out.symm.trans HO.out⟩
            case measure => simp [intOf]; have := Hlt.out; omega
        · go_wp2_with fail
          go_quiet (first | (go_at_call 61; refine Calls.quiet_of (lessQ _ _ _)))
          have HK : Hid (k1 + 1 = if 2 * root + 2 < hi ∧ ltInt dk[first + (2 * root + 1)]! dk[first + (2 * root + 1) + 1]! = true then 2 * root + 2 else 2 * root + 1) := hide (by
            have e : first + (2 * root + 1) = q1 := by have := Hq1.out; have := Hk1.out; omega
            rw [e, Hy.out, Hz.out, hl, if_pos ⟨by have := Hk1.out; omega, rfl⟩]; have := Hk1.out; omega)
          cases hl2 : ltInt x z
          · have hs : Hid (siftDown ltInt hi first root dk = dk) := hide (sift_no Hc.out HK.out Hp.out (q := q1 + 1) (by have := Hq1.out; have := Hk1.out; omega) (by rw [Hx.out, Hz.out]; exact hl2))
            go_wp2_with fail
            go_quiet (first | (go_at_call 61; exact quiet_add (lessQ _ _ _)))
            go_wp2
            refine bodyPost_ret (results_none rfl _ _ _) rfl ?_
            exact ⟨rfl, by rw [← HO.out, hs.out]; exact (hr.drewN _).drewN _, (hm.drewN _).drewN _⟩
          · have hs : Hid (siftDown ltInt hi first root dk = siftDown ltInt hi first (k1 + 1) (swp dk p (q1 + 1))) := hide (sift_yes Hc.out HK.out Hp.out (q := q1 + 1) (by have := Hq1.out; have := Hk1.out; omega) (by rw [Hx.out, Hz.out]; exact hl2))
            go_wp2_with fail
            go_quiet (first | (go_at_call 61; exact quiet_add (lessQ _ _ _)))
            go_wp2
            go_region
            all_goals go_wp2
            go_roundw
            case rel => exact ⟨k1 + 1, swp dk p (q1 + 1), by go_num, by omega, by rw [size_swp]; exact hsk, hr.swapN (by omega) (by omega) Hz.out Hx.out _, hm.swapN _ _ _ _ _, hs.out.symm.trans HO.out⟩
            case measure => simp [intOf]; have := Hlt.out; omega
      ·
        have hc2' : decide ((k1 : Int) + 1 < hi) = false := decide_eq_false (by omega)
        go_wp2_with fail
        go_quiet (fail)
        have HK : Hid (k1 = if 2 * root + 2 < hi ∧ ltInt dk[first + (2 * root + 1)]! dk[first + (2 * root + 1) + 1]! = true then 2 * root + 2 else 2 * root + 1) := hide (by
          have e : first + (2 * root + 1) = q1 := by have := Hq1.out; have := Hk1.out; omega
          rw [if_neg (fun h => by have h2 := h.1; have := Hk1.out; omega)]; exact Hk1.out)
        cases hl2 : ltInt x y
        · have hs : Hid (siftDown ltInt hi first root dk = dk) := hide (sift_no Hc.out HK.out Hp.out (q := q1) (by have := Hq1.out; have := Hk1.out; omega) (by rw [Hx.out, Hy.out]; exact hl2))
          go_wp2_with fail
          go_quiet (first | (go_at_call 61; exact quiet_add (lessQ _ _ _)))
          go_wp2
          refine bodyPost_ret (results_none rfl _ _ _) rfl ?_
          exact ⟨rfl, by rw [← HO.out, hs.out]; exact (hr.drewN _).drewN _, (hm.drewN _).drewN _⟩
        · have hs : Hid (siftDown ltInt hi first root dk = siftDown ltInt hi first (k1) (swp dk p (q1))) := hide (sift_yes Hc.out HK.out Hp.out (q := q1) (by have := Hq1.out; have := Hk1.out; omega) (by rw [Hx.out, Hy.out]; exact hl2))
          go_wp2_with fail
          go_quiet (first | (go_at_call 61; exact quiet_add (lessQ _ _ _)))
          go_wp2
          go_region
          all_goals go_wp2
          go_roundw
          case rel => exact ⟨k1, swp dk p (q1), by go_num, by omega, by rw [size_swp]; exact hsk, hr.swapN (by omega) (by omega) Hy.out Hx.out _, hm.swapN _ _ _ _ _, hs.out.symm.trans HO.out⟩
          case measure => simp [intOf]; have := Hlt.out; omega
    · have hs : Hid (siftDown ltInt hi first root dk = dk) := hide (sift_stop (by have := Hk1.out; omega))
      go_wp2
      go_end0
      exact ⟨rfl, by rw [← HO.out, hs.out]; exact hr, hm⟩
end Go.Proofs.Ytampdiplodhkbaa
