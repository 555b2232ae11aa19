/-
  slices.breakPatternsOrdered at uint64: some permutation.
-/
import Derived.Test.YtampdiplodhkbaaSoBreak
namespace Go.Proofs.Ytampdiplodhkbaa
open Go.RowKit Go.Sort

set_option maxHeartbeats 2000000 in
theorem pow2_any (w : World) (n : Nat) (h0 : 0 < n) (hn : n < 65536) :
    Calls Try.prog 67 #[.int .i64 (n : Int)] w fun e w' => ∃ m : Nat, e = .returned (.int .u64 ((m : Int) + 1)) ∧ m + 1 ≤ 2 * n ∧ w' = w := by
  have hb := bitLen_ge hn h0
  have hw : IntKind.u64.wrap (n : Int) = n := IntWalk.u64_in _ (by omega)
  obtain ⟨m, hm⟩ : ∃ m, m + 1 = 2 ^ Lib.bitLen n := ⟨2 ^ Lib.bitLen n - 1, by have := Nat.two_pow_pos (Lib.bitLen n); omega⟩
  have h16 := bitLen_le16 hn
  rw [← hm] at hb
  have H16 := hide h16
  have Hm := hide hm
  obtain ⟨k, hk⟩ : ∃ k, Lib.bitLen n = k := ⟨_, rfl⟩
  rw [hk] at h16
  have hsh : IntKind.u64.wrap ((2 : Int) ^ k) = m + 1 := by
    have e : ((2 : Int) ^ k) = ((2 ^ k : Nat) : Int) := by simp
    rw [e, ← hk, ← hm]
    exact IntWalk.u64_in _ (by omega)
  have hk63 : (k : Int) ≤ 63 := by omega
  have Hk := hide hk
  clear hk hm h16
  go_enter Try.func67, Try.ntmps67
  go_wp2_with fail
  refine (len_u64 w n hn).mono ?_
  rintro e w' ⟨rfl, rfl⟩
  rw [Hk.out]
  go_wp2_with fail
  go_ret
  exact ⟨m, rfl, hb, rfl⟩

theorem Blk.swapFar {w : World} {k g : Nat} {t : TypeId} {cs : Array Value} (h : Blk w k t cs) (hne : ¬ k = g) (i j : Nat) (x y : Value) :
    Blk (((w.drewN 1).setCell ⟨g, i, none⟩ x).setCell ⟨g, j, none⟩ y) k t cs :=
  Blk.far (Blk.far (w := w.drewN 1) h (p := ⟨g, i, none⟩) hne x) (p := ⟨g, j, none⟩) hne y

set_option maxRecDepth 100000 in
set_option maxHeartbeats 8000000 in
theorem break_u64 (w : World) (g cap a b : Nat) (d : Array Int) (R : List Value) (hr : Row w g d R) (hab : a + 12 < b) (hb : b ≤ d.size) (hsz : d.size < 65536) (len : Nat) (hlen : d.size = len) :
    Calls Try.prog 57 #[.slice (some ⟨g, 0, none⟩) len cap, .int .i64 a, .int .i64 b] w fun e w' =>
      e = .returned (.tuple #[]) ∧ ∃ d', PermIn a b d d' ∧ Row w' g d' R ∧ Mod [g] w w' := by
  subst hlen
  obtain ⟨n, hn⟩ : ∃ n, n = b - a := ⟨_, rfl⟩
  have hn' : (b : Int) - a = n := by omega
  have hn12 : 12 < n := by omega
  have hab2 : a + n = b := by omega
  have hns : n < 65536 := by omega
  obtain ⟨q, hq⟩ : ∃ q, q = n / 4 := ⟨_, rfl⟩
  have hq' : (n : Int).tdiv 4 = q := by
    rw [Int.tdiv_eq_ediv_of_nonneg (by omega)]
    omega
  have hq4 : 4 * q ≤ n ∧ n < 4 * q + 4 := by omega
  obtain ⟨s, hs⟩ : ∃ s, s = a + q * 2 := ⟨_, rfl⟩
  have hs' : (a : Int) + q * 2 = s := by omega
  have hsb : a < s ∧ s + 2 < b := by omega
  clear hq hn hs
  have hwn : IntKind.i64.wrap (n : Int) = n := IntWalk.i64_in _ (by omega)
  have hwq : IntKind.i64.wrap (q : Int) = q := IntWalk.i64_in _ (by omega)
  have hws : IntKind.i64.wrap (s : Int) = s := IntWalk.i64_in _ (by omega)
  have hun : IntKind.u64.wrap (n : Int) = n := IntWalk.u64_in _ (by omega)
  have hb2 : Blk (w.alloc (.cells #[.int .u64 (n : Int)] 111)) w.heap.size 111 #[.int .u64 (n : Int)] := Blk.new w _ _
  have hr2 : Row (w.alloc (.cells #[.int .u64 (n : Int)] 111)) g d R := Blk.alloc hr _
  have hm2 : Mod [g] w (w.alloc (.cells #[.int .u64 (n : Int)] 111)) := (Mod.refl _ _).alloc _
  have HB := hide hb2
  have HR := hide hr2
  have HM := hide hm2
  have hglt : g < w.heap.size := hr.lt
  clear hb2 hr2 hm2 hr
  go_enter Try.func57, Try.ntmps57
  go_wp2_with fail
  refine (pow2_any _ n (by omega) hns).mono ?_
  rintro e w' ⟨m, rfl, hmn, rfl⟩
  have hm1 : (m : Int) + 1 - 1 = m := by omega
  go_wp2_with fail
  go_loopw [9] (fun v wr => ∃ (ix r : Nat) (dk : Array Int), v = .int .i64 (ix : Int) ∧ s ≤ ix + 1 ∧ ix ≤ s + 2 ∧ r < 18446744073709551616 ∧ dk.size = d.size ∧ PermIn a b d dk ∧ Blk wr w.heap.size 111 #[.int .u64 (r : Int)] ∧ Row wr g dk R ∧ Mod [g] w wr)
    (fun v _ => s + 3 - (intOf v).toNat)
  case atStart => exact ⟨s - 1, n, d, by congr 1; omega, by omega, by omega, by omega, rfl, permIn_refl _ _ _, HB.out, HR.out, HM.out⟩
  case round =>
    clear HB HR HM
    obtain ⟨ix, r, dk, rfl, hx1, hx2, hrl, hsk, hP, hB, hr, hm⟩ := hrel
    by_cases hle : ix ≤ s + 1
    · have hle' : (ix : Int) ≤ (s : Int) + 1 := by omega
      go_wp2_with fail
      refine (next_any _ w.heap.size r hrl hB).mono ?_
      rintro e w2 ⟨r', rfl, hr', hB2, hM2⟩
      have hr2 := hr.mod hM2 (by simp; omega)
      have hm2 : Mod [g] w w2 := hm.trans hM2 (by simp)
      clear hB hr hm hM2
      have hand := bits_and_u64_nat r' m hr' (by omega)
      obtain ⟨o, ho⟩ : ∃ o, r' &&& m = o := ⟨_, rfl⟩
      have hom : o ≤ m := by rw [← ho]; exact Nat.and_le_right
      rw [ho] at hand
      clear ho
      have hwo : IntKind.i64.wrap (o : Int) = o := IntWalk.i64_in _ (by omega)
      go_upto_if 43 with fail
      go_cut [10] (fun v wx => ∃ o2 : Nat, v = .int .i64 (o2 : Int) ∧ o2 < n ∧ Blk wx w.heap.size 111 #[.int .u64 (r' : Int)] ∧ Row wx g dk R ∧ Mod [g] w wx)
      case first =>
        by_cases hon : n ≤ o
        · have hon' : (n : Int) ≤ o := by omega
          go_wp2_with fail
          go_meet
          exact ⟨o - n, by congr 1; omega, by omega, hB2, hr2, hm2⟩
        · have hon' : ¬ (n : Int) ≤ o := by omega
          go_wp2_with fail
          go_meet
          exact ⟨o, rfl, by omega, hB2, hr2, hm2⟩
      case rest =>
        clear hB2 hr2 hm2 hand hwo hom
        obtain ⟨o2, rfl, ho2, hB, hr, hm⟩ := hcut
        obtain ⟨p, hp⟩ : ∃ p, p = a + o2 := ⟨_, rfl⟩
        have hp' : (a : Int) + o2 = p := by omega
        have hpb : a ≤ p ∧ p < b := by omega
        have hwp : IntKind.i64.wrap (p : Int) = p := IntWalk.i64_in _ (by omega)
        clear hp
        obtain ⟨x, hx⟩ : ∃ z, dk[ix]! = z := ⟨_, rfl⟩
        obtain ⟨y, hy⟩ : ∃ z, dk[p]! = z := ⟨_, rfl⟩
        have c1 := hr.cell (j := ix) (by omega)
        have c2 := hr.cell (j := p) (by omega)
        have f1 := hr.frozen ix
        have f2 := hr.frozen p
        rw [hx] at c1
        rw [hy] at c2
        have hsi : ix < d.size := by omega
        have hsj : p < d.size := by omega
        have hgw : ¬ w.heap.size = g := by omega
        have fin : ∃ (ix' r : Nat) (dk' : Array Int), Value.int .i64 ((ix : Int) + 1) = .int .i64 (ix' : Int) ∧ s ≤ ix' + 1 ∧ ix' ≤ s + 2 ∧ r < 18446744073709551616 ∧ dk'.size = d.size ∧ PermIn a b d dk' ∧ Blk (((wc.drewN 1).setCell ⟨g, ix, none⟩ (.int .u64 y)).setCell ⟨g, p, none⟩ (.int .u64 x)) w.heap.size 111 #[.int .u64 (r : Int)] ∧ Row (((wc.drewN 1).setCell ⟨g, ix, none⟩ (.int .u64 y)).setCell ⟨g, p, none⟩ (.int .u64 x)) g dk' R ∧ Mod [g] w (((wc.drewN 1).setCell ⟨g, ix, none⟩ (.int .u64 y)).setCell ⟨g, p, none⟩ (.int .u64 x)) :=
          ⟨ix + 1, r', swp dk ix p, by go_num, by omega, by omega, hr', by rw [size_swp]; exact hsk, permIn_trans _ _ _ a b hP (swp_permIn dk a b ix p (by omega) (by omega) (by omega) (by omega) (by omega)), Blk.swapFar hB hgw ix p (.int .u64 y) (.int .u64 x), hr.swapN (i := ix) (j := p) (by omega) (by omega) hy hx 1, hm.swapN 1 ix p (.int .u64 y) (.int .u64 x)⟩
        have FIN := hide fin
        clear fin hr hm hB
        by_cases hpa : ix = p
        · subst hpa
          obtain rfl : x = y := hx.symm.trans hy
          go_wp2_with fail
          go_region
          all_goals go_wp2_with fail
          go_roundw
          case rel => exact FIN.out
          case measure => simp [intOf]; omega
        · have hap : ¬ p = ix := fun e => hpa e.symm
          go_wp2_with fail
          go_region
          all_goals go_wp2_with fail
          go_roundw
          case rel => exact FIN.out
          case measure => simp [intOf]; omega
    · have hle' : decide ((ix : Int) ≤ (s : Int) + 1) = false := decide_eq_false (by omega)
      go_wp2_with fail
      go_end0
      exact ⟨rfl, dk, hP, hr, hm⟩
end Go.Proofs.Ytampdiplodhkbaa
