/-
  slices.order2Ordered, medianOrdered, medianAdjacentOrdered, choosePivotOrdered at uint64: some pivot in the range, nothing turned.
-/
import Derived.Test.YtampdiplodhkbaaSoPi
namespace Go.Proofs.Ytampdiplodhkbaa
open Go.RowKit Go.Sort

set_option maxHeartbeats 4000000 in
theorem order2_u64 (w : World) (g cap a b sp n : Nat) (d : Array Int) (R : List Value) (hr : Row w g d R) (hc : Blk w sp 3 #[.int .i64 (n : Int)]) (ha : a < d.size) (hb : b < d.size) (hn : n ≤ 1000) (len : Nat) (hlen : d.size = len) :
    Calls Try.prog 72 #[.slice (some ⟨g, 0, none⟩) len cap, .int .i64 a, .int .i64 b, .pointer (some ⟨sp, 0, none⟩)] w fun e w' =>
      ∃ x y m : Nat, e = .returned (.tuple #[.int .i64 (x : Int), .int .i64 (y : Int)]) ∧ ((x = a ∧ y = b) ∨ (x = b ∧ y = a)) ∧ m ≤ n + 1 ∧ Blk w' sp 3 #[.int .i64 (m : Int)] ∧ Row w' g d R ∧ Mod [sp] w w' := by
  subst hlen
  have hgs : g ≠ sp := Blk.ne_ hr hc (by decide)
  obtain ⟨x, hx⟩ : ∃ x, d[a]! = x := ⟨_, rfl⟩
  obtain ⟨y, hy⟩ : ∃ x, d[b]! = x := ⟨_, rfl⟩
  have c1 := hr.cell (j := a) ha
  have c2 := hr.cell (j := b) hb
  rw [hx] at c1
  rw [hy] at c2
  clear hx hy
  have c3 := hc.cell 0
  have f3 := hc.frozen 0
  simp at c3
  go_enter Try.func72, Try.ntmps72
  go_wp2_with fail
  go_quiet (first | (go_at_call 61; refine Calls.quiet_of (lessQ _ _ _)))
  go_wp2_with fail
  · go_ret2
    refine ⟨b, a, n + 1, rfl, .inr ⟨rfl, rfl⟩, by omega, ?_, ?_, ((Mod.refl _ _).drewN nq).setCell (.inl (by simp)) _⟩
    · have := Blk.set_ (w := w.drewN nq) hc 0 (.int .i64 ((n : Int) + 1))
      simpa using this
    · exact Blk.far (w := w.drewN nq) hr hgs _
  · go_ret2
    exact ⟨a, b, n, rfl, .inl ⟨rfl, rfl⟩, by omega, hc, hr, (Mod.refl _ _).drewN _⟩

set_option maxHeartbeats 4000000 in
theorem median_u64 (w : World) (g cap a b c sp n : Nat) (d : Array Int) (R : List Value) (hr : Row w g d R) (hc : Blk w sp 3 #[.int .i64 (n : Int)]) (ha : a < d.size) (hb : b < d.size) (hcz : c < d.size) (hn : n ≤ 900) (len : Nat) (hlen : d.size = len) :
    Calls Try.prog 70 #[.slice (some ⟨g, 0, none⟩) len cap, .int .i64 a, .int .i64 b, .int .i64 c, .pointer (some ⟨sp, 0, none⟩)] w fun e w' =>
      ∃ x m : Nat, e = .returned (.int .i64 (x : Int)) ∧ (x = a ∨ x = b ∨ x = c) ∧ m ≤ n + 3 ∧ Blk w' sp 3 #[.int .i64 (m : Int)] ∧ Row w' g d R ∧ Mod [sp] w w' := by
  go_enter Try.func70, Try.ntmps70
  go_wp2_with fail
  refine (order2_u64 w g cap a b sp n d R hr hc ha hb (by omega) len hlen).mono ?_
  rintro e w1 ⟨a1, b1, n1, rfl, h1, hn1, hc1, hr1, hm1⟩
  go_wp2_with fail
  refine (order2_u64 w1 g cap b1 c sp n1 d R hr1 hc1 (by omega) hcz (by omega) len hlen).mono ?_
  rintro e w2 ⟨b2, c2, n2, rfl, h2, hn2, hc2, hr2, hm2⟩
  go_wp2_with fail
  refine (order2_u64 w2 g cap a1 b2 sp n2 d R hr2 hc2 (by omega) (by omega) (by omega) len hlen).mono ?_
  rintro e w3 ⟨a3, b3, n3, rfl, h3, hn3, hc3, hr3, hm3⟩
  go_wp2_with fail
  go_ret
  exact ⟨b3, n3, rfl, by omega, by omega, hc3, hr3, (hm1.trans hm2 (by simp)).trans hm3 (by simp)⟩

set_option maxHeartbeats 4000000 in
theorem medAdj_u64 (w : World) (g cap a sp n : Nat) (d : Array Int) (R : List Value) (hr : Row w g d R) (hc : Blk w sp 3 #[.int .i64 (n : Int)]) (ha : a + 1 < d.size) (ha0 : 0 < a) (hn : n ≤ 900) (hsz : d.size ≤ 1099511627776) (len : Nat) (hlen : d.size = len) :
    Calls Try.prog 69 #[.slice (some ⟨g, 0, none⟩) len cap, .int .i64 a, .pointer (some ⟨sp, 0, none⟩)] w fun e w' =>
      ∃ x m : Nat, e = .returned (.int .i64 (x : Int)) ∧ (x + 1 = a ∨ x = a ∨ x = a + 1) ∧ m ≤ n + 3 ∧ Blk w' sp 3 #[.int .i64 (m : Int)] ∧ Row w' g d R ∧ Mod [sp] w w' := by
  obtain ⟨k, rfl⟩ : ∃ k, a = k + 1 := ⟨a - 1, by omega⟩
  have hk : (k : Int) + 1 - 1 = k := by omega
  go_enter Try.func69, Try.ntmps69
  go_wp2_with fail
  refine (median_u64 w g cap k (k + 1) (k + 1 + 1) sp n d R hr hc (by omega) (by omega) (by omega) hn len hlen).mono ?_
  rintro e w1 ⟨x, n1, rfl, h1, hn1, hc1, hr1, hm1⟩
  go_wp2_with fail
  go_ret
  exact ⟨x, n1, rfl, by omega, hn1, hc1, hr1, hm1⟩

set_option maxRecDepth 100000 in
set_option maxHeartbeats 8000000 in
theorem pivot_u64 (w : World) (g cap a b : Nat) (d : Array Int) (R : List Value) (hr : Row w g d R) (hab : a + 12 < b) (hb : b ≤ d.size) (hsz : d.size ≤ 1099511627776) (len : Nat) (hlen : d.size = len) :
    Calls Try.prog 58 #[.slice (some ⟨g, 0, none⟩) len cap, .int .i64 a, .int .i64 b] w fun e w' =>
      ∃ x h : Nat, e = .returned (.tuple #[.int .i64 (x : Int), .int .i64 (h : Int)]) ∧ a ≤ x ∧ x < b ∧ Row w' g d R ∧ Mod [] w w' := by
  obtain ⟨l, hl⟩ : ∃ l, l = b - a := ⟨_, rfl⟩
  have hl' : (b : Int) - a = l := by omega
  obtain ⟨q, hq⟩ : ∃ q, q = l / 4 := ⟨_, rfl⟩
  have hq' : (l : Int).tdiv 4 = q := by
    rw [Int.tdiv_eq_ediv_of_nonneg (by omega)]
    omega
  have hq4 : 4 * q ≤ l ∧ l < 4 * q + 4 := by omega
  have hlb : a + l = b := by omega
  clear hq hl
  have hwl : IntKind.i64.wrap (l : Int) = l := IntWalk.i64_in _ (by omega)
  have hwq : IntKind.i64.wrap (q : Int) = q := IntWalk.i64_in _ (by omega)
  obtain ⟨i, hi⟩ : ∃ i, i = a + q := ⟨_, rfl⟩
  obtain ⟨j, hj⟩ : ∃ i, i = a + 2 * q := ⟨_, rfl⟩
  obtain ⟨k, hk⟩ : ∃ i, i = a + 3 * q := ⟨_, rfl⟩
  have hi' : (a : Int) + q = i := by omega
  have hj' : (a : Int) + q * 2 = j := by omega
  have hk' : (a : Int) + q * 3 = k := by omega
  have Hi := hide hi
  have Hj := hide hj
  have Hk := hide hk
  clear hi hj hk
  have hr0 : Row (w.alloc (.cells #[.int .i64 0] 3)) g d R := Blk.alloc hr _
  have hc0 : Blk (w.alloc (.cells #[.int .i64 0] 3)) w.heap.size 3 #[.int .i64 ((0 : Nat) : Int)] := Blk.new w _ _
  have hm0 : Mod [] w (w.alloc (.cells #[.int .i64 0] 3)) := (Mod.refl _ _).alloc _
  have hil : Hid (a < i ∧ i + 2 < b ∧ a < j ∧ j + 2 < b ∧ a < k ∧ k + 2 < b) := hide (by have := Hi.out; have := Hj.out; have := Hk.out; omega)
  go_enter Try.func58, Try.ntmps58
  by_cases h50 : 50 ≤ l
  · have h50' : (50 : Int) ≤ l := by omega
    go_wp2_with fail
    refine (medAdj_u64 _ g cap i w.heap.size 0 d R hr0 hc0 (by have := hil.out; omega) (by have := hil.out; omega) (by omega) hsz len hlen).mono ?_
    rintro e wa ⟨xi, na, rfl, hxi, hna, hca, hra, hma⟩
    go_wp2_with fail
    refine (medAdj_u64 _ g cap j w.heap.size na d R hra hca (by have := hil.out; omega) (by have := hil.out; omega) (by omega) hsz len hlen).mono ?_
    rintro e wb ⟨xj, nb, rfl, hxj, hnb, hcb, hrb, hmb⟩
    go_wp2_with fail
    refine (medAdj_u64 _ g cap k w.heap.size nb d R hrb hcb (by have := hil.out; omega) (by have := hil.out; omega) (by omega) hsz len hlen).mono ?_
    rintro e wc ⟨xk, nc, rfl, hxk, hnc, hcc, hrc, hmc⟩
    go_wp2_with fail
    have hmx : Mod [] w wc := ((hm0.trans hma (by simp)).trans hmb (by simp)).trans hmc (by simp)
    refine (median_u64 _ g cap xi xj xk w.heap.size nc d R hrc hcc (by have := hil.out; omega) (by have := hil.out; omega) (by have := hil.out; omega) (by omega) len hlen).mono ?_
    rintro e wf ⟨x, n1, rfl, hx, hn1, hc1, hr1, hm1⟩
    have c1 := hc1.cell 0
    simp at c1
    have hfin : a ≤ x ∧ x < b := by have := hil.out; omega
    by_cases h0 : n1 = 0
    · subst h0
      go_wp2_with fail
      go_ret2
      exact ⟨x, 1, rfl, hfin.1, hfin.2, hr1, hmx.trans hm1 (by simp)⟩
    · have h0' : ((n1 : Int) == 0) = false := by simp; omega
      by_cases h12 : n1 = 12
      · subst h12
        go_wp2_with fail
        go_ret2
        exact ⟨x, 2, rfl, hfin.1, hfin.2, hr1, hmx.trans hm1 (by simp)⟩
      · have h12' : ((n1 : Int) == 12) = false := by simp; omega
        go_wp2_with fail
        go_ret2
        exact ⟨x, 0, rfl, hfin.1, hfin.2, hr1, hmx.trans hm1 (by simp)⟩
  · have h50' : ¬ (50 : Int) ≤ l := by omega
    go_wp2_with fail
    refine (median_u64 _ g cap i j k w.heap.size 0 d R hr0 hc0 (by have := hil.out; omega) (by have := hil.out; omega) (by have := hil.out; omega) (by omega) len hlen).mono ?_
    rintro e wf ⟨x, n1, rfl, hx, hn1, hc1, hr1, hm1⟩
    have c1 := hc1.cell 0
    simp at c1
    have hfin : a ≤ x ∧ x < b := by have := hil.out; omega
    by_cases h0 : n1 = 0
    · subst h0
      go_wp2_with fail
      go_ret2
      exact ⟨x, 1, rfl, hfin.1, hfin.2, hr1, hm0.trans hm1 (by simp)⟩
    · have h0' : ((n1 : Int) == 0) = false := by simp; omega
      by_cases h12 : n1 = 12
      · subst h12
        go_wp2_with fail
        go_ret2
        exact ⟨x, 2, rfl, hfin.1, hfin.2, hr1, hm0.trans hm1 (by simp)⟩
      · have h12' : ((n1 : Int) == 12) = false := by simp; omega
        go_wp2_with fail
        go_ret2
        exact ⟨x, 0, rfl, hfin.1, hfin.2, hr1, hm0.trans hm1 (by simp)⟩
end Go.Proofs.Ytampdiplodhkbaa
