/-
  the document's fits, May.
-/
import Derived.Test.YtkbpndohpkcikaaDoorJsRf1
namespace Go.Proofs.YtkbpndohpkcikaaDoor
open Go.RowKit Js Go.Sort
set_option linter.unusedVariables false
set_option linter.unusedSimpArgs false
theorem jmay_no {d : Nat} {k i : Int} {t : ByteArray} {l : List JV} {ks : List ByteArray} (h : k < 0 ∨ 6 < k ∨ (k ≠ 3 ∧ i ≠ 0) ∨ (k ≠ 4 ∧ t.size ≠ 0) ∨ (k < 5 ∧ l ≠ []) ∨ (k ≠ 6 ∧ ks ≠ []) ∨ (k = 6 ∧ ks.length ≠ l.length)) : jmay d (.mk k i t l ks) = false := by
  cases hb : jmay d (.mk k i t l ks) with
  | false => rfl
  | true =>
    exfalso
    rw [jmay] at hb
    simp only [Bool.and_eq_true, Bool.or_eq_true, decide_eq_true_eq] at hb
    obtain ⟨⟨⟨⟨⟨⟨h1, h2⟩, h3⟩, h4⟩, h5⟩, h6⟩, h7⟩ := hb
    rcases h with h | h | ⟨ha, h⟩ | ⟨ha, h⟩ | ⟨ha, h⟩ | ⟨ha, h⟩ | ⟨ha, h⟩
    · omega
    · omega
    · rcases h3 with h3 | h3 <;> contradiction
    · rcases h4 with h4 | h4 <;> contradiction
    · rcases h5 with (h5 | h5) | h5
      · omega
      · omega
      · exact h (by simpa using h5)
    · rw [if_neg ha] at h6; exact h (by simpa using h6)
    · rw [if_pos ha] at h6; exact h (by simpa using h6)
theorem jmay_yes {d : Nat} {k i : Int} {t : ByteArray} {l : List JV} {ks : List ByteArray} (h0 : 0 ≤ k) (h6 : k ≤ 6) (h1 : k = 3 ∨ i = 0) (h2 : k = 4 ∨ t.size = 0) (h3 : 5 ≤ k ∨ l = []) (h4 : k = 6 ∨ ks = []) (h5 : k = 6 → ks.length = l.length) : jmay (d + 1) (.mk k i t l ks) = jmays d l := by
  rw [jmay]
  have e1 : decide (0 < d + 1) = true := decide_eq_true (by omega)
  have e2 : (decide (k = 0) || decide (k = 1) || decide (k = 2) || decide (k = 3) || decide (k = 4) || decide (k = 5) || decide (k = 6)) = true := by
    simp only [Bool.or_eq_true, decide_eq_true_eq]; omega
  have e3 : (decide (k = 3) || decide (i = 0)) = true := by simpa using h1
  have e4 : (decide (k = 4) || decide (t.size = 0)) = true := by simpa using h2
  have e5 : (decide (k = 5) || decide (k = 6) || l.isEmpty) = true := by
    simp only [Bool.or_eq_true, decide_eq_true_eq]
    rcases h3 with h3 | h3
    · left; omega
    · right; rw [h3]; rfl
  have e6 : (if k = 6 then decide (ks.length = l.length) else ks.isEmpty) = true := by
    by_cases hk : k = 6
    · rw [if_pos hk]; exact decide_eq_true (h5 hk)
    · rw [if_neg hk]
      rcases h4 with h4 | h4
      · exact absurd h4 hk
      · rw [h4]; rfl
  rw [e1, e2, e3, e4, e5, e6]
  rfl
def RFitOk (d : Nat) : Prop := ∀ (w : World) (x : JN), JIn w x →
  Calls Tryd.prog 27 #[.agg x.cells, .int .i64 (9 - (d : Int))] w fun e w' => e = .returned (.bool (jmay d x.v)) ∧ Mod [] w w'
theorem rfit_zero : RFitOk 0 := by
  intro w x hx
  obtain ⟨xk, xi, xt, xA, xc, xl, xB, xd, xs⟩ := x
  have hr := hide (show jmay 0 (JN.mk xk xi xt xA xc xl xB xd xs).v = false by rw [JN.v, jmay]; simp)
  rw [hr.out, show (9 : Int) - ((0 : Nat) : Int) = 9 from rfl]
  simp only [JN.cells]
  clear hx
  go_enter Tryd.func27, Tryd.ntmps27
  go_wp2_with fail
  go_ret
  exact ⟨rfl, (Mod.refl [] w).alloc _⟩
set_option maxRecDepth 100000 in
set_option maxHeartbeats 16000000 in
theorem rfit_step (d : Nat) (hd : d + 1 ≤ 8) (hW : RFitOk d) : RFitOk (d + 1) := by
  intro w x hx
  obtain ⟨xk, xi, xt, xA, xc, xl, xB, xd, xs⟩ := x
  rw [JIn] at hx
  obtain ⟨⟨hx1, hx2⟩, hx3, hx4, hx5⟩ := hx
  rw [show (9 : Int) - ((d + 1 : Nat) : Int) = 8 - d by omega]
  obtain ⟨n, hn⟩ : ∃ n, xl.length = n := ⟨_, rfl⟩
  obtain ⟨m, hm⟩ : ∃ m, xs.length = m := ⟨_, rfl⟩
  obtain ⟨q, hq⟩ : ∃ q : Int, q = 8 - (d : Int) := ⟨_, rfl⟩
  have q1 : decide (8 < q) = false := decide_eq_false (by omega)
  have HQ : Hid (IntKind.i64.wrap (q + 1) = 9 - (d : Int)) := hide (by rw [IntWalk.i64_in _ (by omega)]; omega)
  rw [← hq]
  simp only [JN.cells]
  rw [hn, hm, JN.v]
  unfold jmax at hx1 hx2
  have HN := hide hn
  have HMm := hide hm
  have HW := hide hW
  have HR := hide hx4
  have HI := hide hx5
  rw [hn] at hx1
  rw [hm] at hx2
  have HM1 := hide (fun k => (Mod.refl [] w).alloc (.cells #[.int .i64 (k), .int .i64 xi, .string xt, .slice xA n xc, .slice xB m xd] 25))
  have HB1 := hide (fun k => Blk.new w 25 #[.int .i64 (k), .int .i64 xi, .string xt, .slice xA n xc, .slice xB m xd])
  have hvl : (JN.vs xl).length = n := by rw [JN.vs_len, hn]
  have HVl := hide hvl
  have HNo := hide (fun (h : xk < 0 ∨ 6 < xk ∨ (xk ≠ 3 ∧ xi ≠ 0) ∨ (xk ≠ 4 ∧ xt.size ≠ 0) ∨ (xk < 5 ∧ n ≠ 0) ∨ (xk ≠ 6 ∧ m ≠ 0) ∨ (xk = 6 ∧ m ≠ n)) => jmay_no (d := d + 1) (k := xk) (i := xi) (t := xt) (l := JN.vs xl) (ks := xs) (by
    rcases h with h | h | h | h | ⟨h, h'⟩ | ⟨h, h'⟩ | ⟨h, h'⟩
    · exact .inl h
    · exact .inr (.inl h)
    · exact .inr (.inr (.inl h))
    · exact .inr (.inr (.inr (.inl h)))
    · exact .inr (.inr (.inr (.inr (.inl ⟨h, fun e => h' (by rw [← hvl, e]; rfl)⟩))))
    · exact .inr (.inr (.inr (.inr (.inr (.inl ⟨h, fun e => h' (by rw [← hm, e]; rfl)⟩)))))
    · exact .inr (.inr (.inr (.inr (.inr (.inr ⟨h, by omega⟩)))))))
  have HYes := hide (fun (h0 : 0 ≤ xk) (h6 : xk ≤ 6) (h1 : xk = 3 ∨ xi = 0) (h2 : xk = 4 ∨ xt.size = 0) (h3 : 5 ≤ xk ∨ n = 0) (h4 : xk = 6 ∨ m = 0) (h5 : xk = 6 → m = n) => jmay_yes (d := d) (k := xk) (i := xi) (t := xt) (l := JN.vs xl) (ks := xs) h0 h6 h1 h2 (by
      rcases h3 with h3 | h3
      · exact .inl h3
      · exact .inr (List.eq_nil_of_length_eq_zero (by omega))) (by
      rcases h4 with h4 | h4
      · exact .inl h4
      · exact .inr (List.eq_nil_of_length_eq_zero (by omega))) (fun h => by rw [hm, hvl]; exact h5 h))
  obtain ⟨B, hB⟩ : ∃ B, jmay (d + 1) (.mk xk xi xt (JN.vs xl) xs) = B := ⟨_, rfl⟩
  rw [hB] at HNo HYes ⊢
  clear hx3 hx4 hx5 hn hm hW hq hvl hB
  by_cases c1 : xk < 0
  · have hBf : B = false := HNo.out (by omega)
    subst hBf
    clear HNo HYes
    go_enter Tryd.func27, Tryd.ntmps27
    go_wp2_with fail
    go_ret
    exact ⟨rfl, HM1.out _⟩
  by_cases c2 : 6 < xk
  · have c1b : decide (xk < 0) = false := decide_eq_false c1
    have hBf : B = false := HNo.out (by omega)
    subst hBf
    clear HNo HYes
    go_enter Tryd.func27, Tryd.ntmps27
    go_wp2_with fail
    go_ret
    exact ⟨rfl, HM1.out _⟩
  have hk : xk = 0 ∨ xk = 1 ∨ xk = 2 ∨ xk = 3 ∨ xk = 4 ∨ xk = 5 ∨ xk = 6 := by omega
  clear c1 c2
  rcases hk with rfl | rfl | rfl | rfl | rfl | rfl | rfl
  · by_cases ci : xi = 0
    · have ci2 : (xi != 0) = false := by simp [ci]
      replace ci : xi ≤ 0 ∧ 0 ≤ xi := by omega
      by_cases ct : xt.size = 0
      · have ct2 : decide ((0 : Int) < (xt.size : Int)) = false := decide_eq_false (by omega)
        have ct3 : decide (0 < xt.size) = false := decide_eq_false (by omega)
        replace ct : xt.size ≤ 0 ∧ 0 ≤ xt.size := by omega
        by_cases cn : n = 0
        · have cn2 : decide ((0 : Int) < (n : Int)) = false := decide_eq_false (by omega)
          have cn3 : decide (0 < n) = false := decide_eq_false (by omega)
          replace cn : n ≤ 0 ∧ 0 ≤ n := by omega
          by_cases cm : m = 0
          · have cm2 : decide ((0 : Int) < (m : Int)) = false := decide_eq_false (by omega)
            have cm3 : decide (0 < m) = false := decide_eq_false (by omega)
            replace cm : m ≤ 0 ∧ 0 ≤ m := by omega
            have HJ := hide (HYes.out (by omega) (by omega) (by omega) (by omega) (by omega) (by omega) (by omega))
            clear HNo HYes
            go_enter Tryd.func27, Tryd.ntmps27
            go_wp2_with fail
            go_loopw [5] (fun iv wr => ∃ j : Nat, j ≤ n ∧ iv = .int .i64 (j : Int) ∧ Hid (∀ (j' : Nat) (x : JN), j' < j → xl[j']? = some x → jmay d x.v = true) ∧ Hid (Mod [] w wr) ∧ Hid (Blk wr w.heap.size 25 #[.int .i64 (0), .int .i64 xi, .string xt, .slice xA n xc, .slice xB m xd])) (fun iv _ => n - (intOf iv).toNat)
            case atStart => exact ⟨0, by omega, rfl, hide (fun j x h => absurd h (Nat.not_lt_zero _)), hide (HM1.out _), hide (HB1.out _)⟩
            case round =>
              obtain ⟨j, hj, rfl, htk, hmi, hbi⟩ := hrel
              have c3 : wr.cell? ⟨w.heap.size, 3, none⟩ = some (.slice xA n xc) := hbi.out.cell 3
              by_cases h2 : j < n
              · exact absurd h2 (by omega)
              · have hin : j = n := by omega
                subst hin
                have HE : Hid (B = true) := hide (by rw [HJ.out]; exact jmays_all (fun j' x hj => htk.out j' x (by have := (List.getElem?_eq_some_iff.1 hj).1; have := HN.out; omega) hj))
                clear htk h2
                go_wp2_with fail
                go_ret
                exact ⟨by rw [HE.out]; rfl, hmi.out⟩
          · have cm2 : decide ((0 : Int) < (m : Int)) = true := decide_eq_true (by omega)
            have cm3 : decide (0 < m) = true := decide_eq_true (by omega)
            have hBf : B = false := HNo.out (by omega)
            subst hBf
            clear HNo HYes
            go_enter Tryd.func27, Tryd.ntmps27
            go_wp2_with fail
            go_ret
            exact ⟨rfl, HM1.out _⟩
        · have cn2 : decide ((0 : Int) < (n : Int)) = true := decide_eq_true (by omega)
          have cn3 : decide (0 < n) = true := decide_eq_true (by omega)
          have hBf : B = false := HNo.out (by omega)
          subst hBf
          clear HNo HYes
          go_enter Tryd.func27, Tryd.ntmps27
          go_wp2_with fail
          go_ret
          exact ⟨rfl, HM1.out _⟩
      · have ct2 : decide ((0 : Int) < (xt.size : Int)) = true := decide_eq_true (by omega)
        have ct3 : decide (0 < xt.size) = true := decide_eq_true (by omega)
        have hBf : B = false := HNo.out (by omega)
        subst hBf
        clear HNo HYes
        go_enter Tryd.func27, Tryd.ntmps27
        go_wp2_with fail
        go_ret
        exact ⟨rfl, HM1.out _⟩
    · have ci2 : (xi != 0) = true := by simp [ci]
      have hBf : B = false := HNo.out (by omega)
      subst hBf
      clear HNo HYes
      go_enter Tryd.func27, Tryd.ntmps27
      go_wp2_with fail
      go_ret
      exact ⟨rfl, HM1.out _⟩
  · by_cases ci : xi = 0
    · have ci2 : (xi != 0) = false := by simp [ci]
      replace ci : xi ≤ 0 ∧ 0 ≤ xi := by omega
      by_cases ct : xt.size = 0
      · have ct2 : decide ((0 : Int) < (xt.size : Int)) = false := decide_eq_false (by omega)
        have ct3 : decide (0 < xt.size) = false := decide_eq_false (by omega)
        replace ct : xt.size ≤ 0 ∧ 0 ≤ xt.size := by omega
        by_cases cn : n = 0
        · have cn2 : decide ((0 : Int) < (n : Int)) = false := decide_eq_false (by omega)
          have cn3 : decide (0 < n) = false := decide_eq_false (by omega)
          replace cn : n ≤ 0 ∧ 0 ≤ n := by omega
          by_cases cm : m = 0
          · have cm2 : decide ((0 : Int) < (m : Int)) = false := decide_eq_false (by omega)
            have cm3 : decide (0 < m) = false := decide_eq_false (by omega)
            replace cm : m ≤ 0 ∧ 0 ≤ m := by omega
            have HJ := hide (HYes.out (by omega) (by omega) (by omega) (by omega) (by omega) (by omega) (by omega))
            clear HNo HYes
            go_enter Tryd.func27, Tryd.ntmps27
            go_wp2_with fail
            go_loopw [5] (fun iv wr => ∃ j : Nat, j ≤ n ∧ iv = .int .i64 (j : Int) ∧ Hid (∀ (j' : Nat) (x : JN), j' < j → xl[j']? = some x → jmay d x.v = true) ∧ Hid (Mod [] w wr) ∧ Hid (Blk wr w.heap.size 25 #[.int .i64 (1), .int .i64 xi, .string xt, .slice xA n xc, .slice xB m xd])) (fun iv _ => n - (intOf iv).toNat)
            case atStart => exact ⟨0, by omega, rfl, hide (fun j x h => absurd h (Nat.not_lt_zero _)), hide (HM1.out _), hide (HB1.out _)⟩
            case round =>
              obtain ⟨j, hj, rfl, htk, hmi, hbi⟩ := hrel
              have c3 : wr.cell? ⟨w.heap.size, 3, none⟩ = some (.slice xA n xc) := hbi.out.cell 3
              by_cases h2 : j < n
              · exact absurd h2 (by omega)
              · have hin : j = n := by omega
                subst hin
                have HE : Hid (B = true) := hide (by rw [HJ.out]; exact jmays_all (fun j' x hj => htk.out j' x (by have := (List.getElem?_eq_some_iff.1 hj).1; have := HN.out; omega) hj))
                clear htk h2
                go_wp2_with fail
                go_ret
                exact ⟨by rw [HE.out]; rfl, hmi.out⟩
          · have cm2 : decide ((0 : Int) < (m : Int)) = true := decide_eq_true (by omega)
            have cm3 : decide (0 < m) = true := decide_eq_true (by omega)
            have hBf : B = false := HNo.out (by omega)
            subst hBf
            clear HNo HYes
            go_enter Tryd.func27, Tryd.ntmps27
            go_wp2_with fail
            go_ret
            exact ⟨rfl, HM1.out _⟩
        · have cn2 : decide ((0 : Int) < (n : Int)) = true := decide_eq_true (by omega)
          have cn3 : decide (0 < n) = true := decide_eq_true (by omega)
          have hBf : B = false := HNo.out (by omega)
          subst hBf
          clear HNo HYes
          go_enter Tryd.func27, Tryd.ntmps27
          go_wp2_with fail
          go_ret
          exact ⟨rfl, HM1.out _⟩
      · have ct2 : decide ((0 : Int) < (xt.size : Int)) = true := decide_eq_true (by omega)
        have ct3 : decide (0 < xt.size) = true := decide_eq_true (by omega)
        have hBf : B = false := HNo.out (by omega)
        subst hBf
        clear HNo HYes
        go_enter Tryd.func27, Tryd.ntmps27
        go_wp2_with fail
        go_ret
        exact ⟨rfl, HM1.out _⟩
    · have ci2 : (xi != 0) = true := by simp [ci]
      have hBf : B = false := HNo.out (by omega)
      subst hBf
      clear HNo HYes
      go_enter Tryd.func27, Tryd.ntmps27
      go_wp2_with fail
      go_ret
      exact ⟨rfl, HM1.out _⟩
  · by_cases ci : xi = 0
    · have ci2 : (xi != 0) = false := by simp [ci]
      replace ci : xi ≤ 0 ∧ 0 ≤ xi := by omega
      by_cases ct : xt.size = 0
      · have ct2 : decide ((0 : Int) < (xt.size : Int)) = false := decide_eq_false (by omega)
        have ct3 : decide (0 < xt.size) = false := decide_eq_false (by omega)
        replace ct : xt.size ≤ 0 ∧ 0 ≤ xt.size := by omega
        by_cases cn : n = 0
        · have cn2 : decide ((0 : Int) < (n : Int)) = false := decide_eq_false (by omega)
          have cn3 : decide (0 < n) = false := decide_eq_false (by omega)
          replace cn : n ≤ 0 ∧ 0 ≤ n := by omega
          by_cases cm : m = 0
          · have cm2 : decide ((0 : Int) < (m : Int)) = false := decide_eq_false (by omega)
            have cm3 : decide (0 < m) = false := decide_eq_false (by omega)
            replace cm : m ≤ 0 ∧ 0 ≤ m := by omega
            have HJ := hide (HYes.out (by omega) (by omega) (by omega) (by omega) (by omega) (by omega) (by omega))
            clear HNo HYes
            go_enter Tryd.func27, Tryd.ntmps27
            go_wp2_with fail
            go_loopw [5] (fun iv wr => ∃ j : Nat, j ≤ n ∧ iv = .int .i64 (j : Int) ∧ Hid (∀ (j' : Nat) (x : JN), j' < j → xl[j']? = some x → jmay d x.v = true) ∧ Hid (Mod [] w wr) ∧ Hid (Blk wr w.heap.size 25 #[.int .i64 (2), .int .i64 xi, .string xt, .slice xA n xc, .slice xB m xd])) (fun iv _ => n - (intOf iv).toNat)
            case atStart => exact ⟨0, by omega, rfl, hide (fun j x h => absurd h (Nat.not_lt_zero _)), hide (HM1.out _), hide (HB1.out _)⟩
            case round =>
              obtain ⟨j, hj, rfl, htk, hmi, hbi⟩ := hrel
              have c3 : wr.cell? ⟨w.heap.size, 3, none⟩ = some (.slice xA n xc) := hbi.out.cell 3
              by_cases h2 : j < n
              · exact absurd h2 (by omega)
              · have hin : j = n := by omega
                subst hin
                have HE : Hid (B = true) := hide (by rw [HJ.out]; exact jmays_all (fun j' x hj => htk.out j' x (by have := (List.getElem?_eq_some_iff.1 hj).1; have := HN.out; omega) hj))
                clear htk h2
                go_wp2_with fail
                go_ret
                exact ⟨by rw [HE.out]; rfl, hmi.out⟩
          · have cm2 : decide ((0 : Int) < (m : Int)) = true := decide_eq_true (by omega)
            have cm3 : decide (0 < m) = true := decide_eq_true (by omega)
            have hBf : B = false := HNo.out (by omega)
            subst hBf
            clear HNo HYes
            go_enter Tryd.func27, Tryd.ntmps27
            go_wp2_with fail
            go_ret
            exact ⟨rfl, HM1.out _⟩
        · have cn2 : decide ((0 : Int) < (n : Int)) = true := decide_eq_true (by omega)
          have cn3 : decide (0 < n) = true := decide_eq_true (by omega)
          have hBf : B = false := HNo.out (by omega)
          subst hBf
          clear HNo HYes
          go_enter Tryd.func27, Tryd.ntmps27
          go_wp2_with fail
          go_ret
          exact ⟨rfl, HM1.out _⟩
      · have ct2 : decide ((0 : Int) < (xt.size : Int)) = true := decide_eq_true (by omega)
        have ct3 : decide (0 < xt.size) = true := decide_eq_true (by omega)
        have hBf : B = false := HNo.out (by omega)
        subst hBf
        clear HNo HYes
        go_enter Tryd.func27, Tryd.ntmps27
        go_wp2_with fail
        go_ret
        exact ⟨rfl, HM1.out _⟩
    · have ci2 : (xi != 0) = true := by simp [ci]
      have hBf : B = false := HNo.out (by omega)
      subst hBf
      clear HNo HYes
      go_enter Tryd.func27, Tryd.ntmps27
      go_wp2_with fail
      go_ret
      exact ⟨rfl, HM1.out _⟩
  · by_cases ct : xt.size = 0
    · have ct2 : decide ((0 : Int) < (xt.size : Int)) = false := decide_eq_false (by omega)
      have ct3 : decide (0 < xt.size) = false := decide_eq_false (by omega)
      replace ct : xt.size ≤ 0 ∧ 0 ≤ xt.size := by omega
      by_cases cn : n = 0
      · have cn2 : decide ((0 : Int) < (n : Int)) = false := decide_eq_false (by omega)
        have cn3 : decide (0 < n) = false := decide_eq_false (by omega)
        replace cn : n ≤ 0 ∧ 0 ≤ n := by omega
        by_cases cm : m = 0
        · have cm2 : decide ((0 : Int) < (m : Int)) = false := decide_eq_false (by omega)
          have cm3 : decide (0 < m) = false := decide_eq_false (by omega)
          replace cm : m ≤ 0 ∧ 0 ≤ m := by omega
          have HJ := hide (HYes.out (by omega) (by omega) (by omega) (by omega) (by omega) (by omega) (by omega))
          clear HNo HYes
          go_enter Tryd.func27, Tryd.ntmps27
          go_wp2_with fail
          go_loopw [5] (fun iv wr => ∃ j : Nat, j ≤ n ∧ iv = .int .i64 (j : Int) ∧ Hid (∀ (j' : Nat) (x : JN), j' < j → xl[j']? = some x → jmay d x.v = true) ∧ Hid (Mod [] w wr) ∧ Hid (Blk wr w.heap.size 25 #[.int .i64 (3), .int .i64 xi, .string xt, .slice xA n xc, .slice xB m xd])) (fun iv _ => n - (intOf iv).toNat)
          case atStart => exact ⟨0, by omega, rfl, hide (fun j x h => absurd h (Nat.not_lt_zero _)), hide (HM1.out _), hide (HB1.out _)⟩
          case round =>
            obtain ⟨j, hj, rfl, htk, hmi, hbi⟩ := hrel
            have c3 : wr.cell? ⟨w.heap.size, 3, none⟩ = some (.slice xA n xc) := hbi.out.cell 3
            by_cases h2 : j < n
            · exact absurd h2 (by omega)
            · have hin : j = n := by omega
              subst hin
              have HE : Hid (B = true) := hide (by rw [HJ.out]; exact jmays_all (fun j' x hj => htk.out j' x (by have := (List.getElem?_eq_some_iff.1 hj).1; have := HN.out; omega) hj))
              clear htk h2
              go_wp2_with fail
              go_ret
              exact ⟨by rw [HE.out]; rfl, hmi.out⟩
        · have cm2 : decide ((0 : Int) < (m : Int)) = true := decide_eq_true (by omega)
          have cm3 : decide (0 < m) = true := decide_eq_true (by omega)
          have hBf : B = false := HNo.out (by omega)
          subst hBf
          clear HNo HYes
          go_enter Tryd.func27, Tryd.ntmps27
          go_wp2_with fail
          go_ret
          exact ⟨rfl, HM1.out _⟩
      · have cn2 : decide ((0 : Int) < (n : Int)) = true := decide_eq_true (by omega)
        have cn3 : decide (0 < n) = true := decide_eq_true (by omega)
        have hBf : B = false := HNo.out (by omega)
        subst hBf
        clear HNo HYes
        go_enter Tryd.func27, Tryd.ntmps27
        go_wp2_with fail
        go_ret
        exact ⟨rfl, HM1.out _⟩
    · have ct2 : decide ((0 : Int) < (xt.size : Int)) = true := decide_eq_true (by omega)
      have ct3 : decide (0 < xt.size) = true := decide_eq_true (by omega)
      have hBf : B = false := HNo.out (by omega)
      subst hBf
      clear HNo HYes
      go_enter Tryd.func27, Tryd.ntmps27
      go_wp2_with fail
      go_ret
      exact ⟨rfl, HM1.out _⟩
  · by_cases ci : xi = 0
    · have ci2 : (xi != 0) = false := by simp [ci]
      replace ci : xi ≤ 0 ∧ 0 ≤ xi := by omega
      by_cases cn : n = 0
      · have cn2 : decide ((0 : Int) < (n : Int)) = false := decide_eq_false (by omega)
        have cn3 : decide (0 < n) = false := decide_eq_false (by omega)
        replace cn : n ≤ 0 ∧ 0 ≤ n := by omega
        by_cases cm : m = 0
        · have cm2 : decide ((0 : Int) < (m : Int)) = false := decide_eq_false (by omega)
          have cm3 : decide (0 < m) = false := decide_eq_false (by omega)
          replace cm : m ≤ 0 ∧ 0 ≤ m := by omega
          have HJ := hide (HYes.out (by omega) (by omega) (by omega) (by omega) (by omega) (by omega) (by omega))
          clear HNo HYes
          go_enter Tryd.func27, Tryd.ntmps27
          go_wp2_with fail
          go_loopw [5] (fun iv wr => ∃ j : Nat, j ≤ n ∧ iv = .int .i64 (j : Int) ∧ Hid (∀ (j' : Nat) (x : JN), j' < j → xl[j']? = some x → jmay d x.v = true) ∧ Hid (Mod [] w wr) ∧ Hid (Blk wr w.heap.size 25 #[.int .i64 (4), .int .i64 xi, .string xt, .slice xA n xc, .slice xB m xd])) (fun iv _ => n - (intOf iv).toNat)
          case atStart => exact ⟨0, by omega, rfl, hide (fun j x h => absurd h (Nat.not_lt_zero _)), hide (HM1.out _), hide (HB1.out _)⟩
          case round =>
            obtain ⟨j, hj, rfl, htk, hmi, hbi⟩ := hrel
            have c3 : wr.cell? ⟨w.heap.size, 3, none⟩ = some (.slice xA n xc) := hbi.out.cell 3
            by_cases h2 : j < n
            · exact absurd h2 (by omega)
            · have hin : j = n := by omega
              subst hin
              have HE : Hid (B = true) := hide (by rw [HJ.out]; exact jmays_all (fun j' x hj => htk.out j' x (by have := (List.getElem?_eq_some_iff.1 hj).1; have := HN.out; omega) hj))
              clear htk h2
              go_wp2_with fail
              go_ret
              exact ⟨by rw [HE.out]; rfl, hmi.out⟩
        · have cm2 : decide ((0 : Int) < (m : Int)) = true := decide_eq_true (by omega)
          have cm3 : decide (0 < m) = true := decide_eq_true (by omega)
          have hBf : B = false := HNo.out (by omega)
          subst hBf
          clear HNo HYes
          go_enter Tryd.func27, Tryd.ntmps27
          go_wp2_with fail
          go_ret
          exact ⟨rfl, HM1.out _⟩
      · have cn2 : decide ((0 : Int) < (n : Int)) = true := decide_eq_true (by omega)
        have cn3 : decide (0 < n) = true := decide_eq_true (by omega)
        have hBf : B = false := HNo.out (by omega)
        subst hBf
        clear HNo HYes
        go_enter Tryd.func27, Tryd.ntmps27
        go_wp2_with fail
        go_ret
        exact ⟨rfl, HM1.out _⟩
    · have ci2 : (xi != 0) = true := by simp [ci]
      have hBf : B = false := HNo.out (by omega)
      subst hBf
      clear HNo HYes
      go_enter Tryd.func27, Tryd.ntmps27
      go_wp2_with fail
      go_ret
      exact ⟨rfl, HM1.out _⟩
  · by_cases ci : xi = 0
    · have ci2 : (xi != 0) = false := by simp [ci]
      replace ci : xi ≤ 0 ∧ 0 ≤ xi := by omega
      by_cases ct : xt.size = 0
      · have ct2 : decide ((0 : Int) < (xt.size : Int)) = false := decide_eq_false (by omega)
        have ct3 : decide (0 < xt.size) = false := decide_eq_false (by omega)
        replace ct : xt.size ≤ 0 ∧ 0 ≤ xt.size := by omega
        by_cases cm : m = 0
        · have cm2 : decide ((0 : Int) < (m : Int)) = false := decide_eq_false (by omega)
          have cm3 : decide (0 < m) = false := decide_eq_false (by omega)
          replace cm : m ≤ 0 ∧ 0 ≤ m := by omega
          have HJ := hide (HYes.out (by omega) (by omega) (by omega) (by omega) (by omega) (by omega) (by omega))
          clear HNo HYes
          go_enter Tryd.func27, Tryd.ntmps27
          go_wp2_with fail
          go_loopw [5] (fun iv wr => ∃ j : Nat, j ≤ n ∧ iv = .int .i64 (j : Int) ∧ Hid (∀ (j' : Nat) (x : JN), j' < j → xl[j']? = some x → jmay d x.v = true) ∧ Hid (Mod [] w wr) ∧ Hid (Blk wr w.heap.size 25 #[.int .i64 (5), .int .i64 xi, .string xt, .slice xA n xc, .slice xB m xd])) (fun iv _ => n - (intOf iv).toNat)
          case atStart => exact ⟨0, by omega, rfl, hide (fun j x h => absurd h (Nat.not_lt_zero _)), hide (HM1.out _), hide (HB1.out _)⟩
          case round =>
            obtain ⟨j, hj, rfl, htk, hmi, hbi⟩ := hrel
            have c3 : wr.cell? ⟨w.heap.size, 3, none⟩ = some (.slice xA n xc) := hbi.out.cell 3
            by_cases h2 : j < n
            · obtain ⟨u, hu⟩ : ∃ u, xl[j]? = some u := ⟨_, List.getElem?_eq_getElem (by have := HN.out; omega)⟩
              obtain ⟨g, o, rfl, hg, hc⟩ := (HR.out.new hmi.out).at_ hu
              have hii : (j : Int) < (n : Int) := by omega
              have a1 : IntKind.i64.wrap ((j : Int) + 1) = (j : Int) + 1 := IntWalk.i64_in _ (by omega)
              have a2 := HQ.out
              obtain ⟨b, hb⟩ : ∃ b, jmay d u.v = b := ⟨_, rfl⟩
              have HS1 := hide (HW.out wr u ((HI.out.at_ hu).new hmi.out))
              rw [hb] at HS1
              have HT : Hid (b = true → ∀ (j' : Nat) (x : JN), j' < j + 1 → xl[j']? = some x → jmay d x.v = true) := hide (fun hbt j' x hj hx => by
                by_cases e : j' = j
                · subst e; rw [hu] at hx; cases hx; rw [hb, hbt]
                · exact htk.out j' x (by omega) hx)
              have HE : Hid (b = false → B = false) := hide (fun hbf => by rw [HJ.out]; exact jmays_bad hu (by rw [hb, hbf]))
              obtain ⟨uA, uc, un, uB, ud, um, hcu, -, -⟩ := u.open5
              generalize u.v.k = uk at hcu
              generalize u.v.i = ui at hcu
              generalize u.v.t = ut at hcu
              rw [hcu] at hc HS1
              have y0 : wr.cell? ⟨g, o + j * 5, none⟩ = some (.int .i64 uk) := hc 0 _ rfl
              have y1 : wr.cell? ⟨g, o + j * 5 + 1, none⟩ = some (.int .i64 ui) := hc 1 _ rfl
              have y2 : wr.cell? ⟨g, o + j * 5 + 2, none⟩ = some (.string ut) := hc 2 _ rfl
              have y3 : wr.cell? ⟨g, o + j * 5 + 3, none⟩ = some (.slice uA un uc) := hc 3 _ rfl
              have y4 : wr.cell? ⟨g, o + j * 5 + 4, none⟩ = some (.slice uB um ud) := hc 4 _ rfl
              clear hu hc htk hb hcu h2
              go_wp2_with fail
              refine HS1.out.mono ?_
              rintro e w2 ⟨rfl, m2⟩
              have HM2 := hide (hmi.out.trans m2 (by simp))
              have HB2 := hide (m2.blk hbi.out (by simp))
              clear m2 a2 y0 y1 y2 y3 y4
              cases b with
              | true =>
                have HT2 := hide (HT.out rfl)
                go_wp2_with fail
                refine ⟨?rel, ?measure⟩
                case rel => exact ⟨j + 1, by omega, by go_num, HT2, HM2, HB2⟩
                case measure => simp [intOf]; omega
              | false =>
                have HE2 := hide (HE.out rfl)
                go_wp2_with fail
                go_ret
                exact ⟨by rw [HE2.out]; rfl, HM2.out⟩
            · have hin : j = n := by omega
              subst hin
              have HE : Hid (B = true) := hide (by rw [HJ.out]; exact jmays_all (fun j' x hj => htk.out j' x (by have := (List.getElem?_eq_some_iff.1 hj).1; have := HN.out; omega) hj))
              clear htk h2
              go_wp2_with fail
              go_ret
              exact ⟨by rw [HE.out]; rfl, hmi.out⟩
        · have cm2 : decide ((0 : Int) < (m : Int)) = true := decide_eq_true (by omega)
          have cm3 : decide (0 < m) = true := decide_eq_true (by omega)
          have hBf : B = false := HNo.out (by omega)
          subst hBf
          clear HNo HYes
          go_enter Tryd.func27, Tryd.ntmps27
          go_wp2_with fail
          go_ret
          exact ⟨rfl, HM1.out _⟩
      · have ct2 : decide ((0 : Int) < (xt.size : Int)) = true := decide_eq_true (by omega)
        have ct3 : decide (0 < xt.size) = true := decide_eq_true (by omega)
        have hBf : B = false := HNo.out (by omega)
        subst hBf
        clear HNo HYes
        go_enter Tryd.func27, Tryd.ntmps27
        go_wp2_with fail
        go_ret
        exact ⟨rfl, HM1.out _⟩
    · have ci2 : (xi != 0) = true := by simp [ci]
      have hBf : B = false := HNo.out (by omega)
      subst hBf
      clear HNo HYes
      go_enter Tryd.func27, Tryd.ntmps27
      go_wp2_with fail
      go_ret
      exact ⟨rfl, HM1.out _⟩
  · by_cases ci : xi = 0
    · have ci2 : (xi != 0) = false := by simp [ci]
      replace ci : xi ≤ 0 ∧ 0 ≤ xi := by omega
      by_cases ct : xt.size = 0
      · have ct2 : decide ((0 : Int) < (xt.size : Int)) = false := decide_eq_false (by omega)
        have ct3 : decide (0 < xt.size) = false := decide_eq_false (by omega)
        replace ct : xt.size ≤ 0 ∧ 0 ≤ xt.size := by omega
        by_cases ce : m = n
        · have ce2 : ((m : Int) != (n : Int)) = false := by simp [ce]
          replace ce : m ≤ n ∧ n ≤ m := by omega
          have HJ := hide (HYes.out (by omega) (by omega) (by omega) (by omega) (by omega) (by omega) (by omega))
          clear HNo HYes
          go_enter Tryd.func27, Tryd.ntmps27
          go_wp2_with fail
          go_loopw [5] (fun iv wr => ∃ j : Nat, j ≤ n ∧ iv = .int .i64 (j : Int) ∧ Hid (∀ (j' : Nat) (x : JN), j' < j → xl[j']? = some x → jmay d x.v = true) ∧ Hid (Mod [] w wr) ∧ Hid (Blk wr w.heap.size 25 #[.int .i64 (6), .int .i64 xi, .string xt, .slice xA n xc, .slice xB m xd])) (fun iv _ => n - (intOf iv).toNat)
          case atStart => exact ⟨0, by omega, rfl, hide (fun j x h => absurd h (Nat.not_lt_zero _)), hide (HM1.out _), hide (HB1.out _)⟩
          case round =>
            obtain ⟨j, hj, rfl, htk, hmi, hbi⟩ := hrel
            have c3 : wr.cell? ⟨w.heap.size, 3, none⟩ = some (.slice xA n xc) := hbi.out.cell 3
            by_cases h2 : j < n
            · obtain ⟨u, hu⟩ : ∃ u, xl[j]? = some u := ⟨_, List.getElem?_eq_getElem (by have := HN.out; omega)⟩
              obtain ⟨g, o, rfl, hg, hc⟩ := (HR.out.new hmi.out).at_ hu
              have hii : (j : Int) < (n : Int) := by omega
              have a1 : IntKind.i64.wrap ((j : Int) + 1) = (j : Int) + 1 := IntWalk.i64_in _ (by omega)
              have a2 := HQ.out
              obtain ⟨b, hb⟩ : ∃ b, jmay d u.v = b := ⟨_, rfl⟩
              have HS1 := hide (HW.out wr u ((HI.out.at_ hu).new hmi.out))
              rw [hb] at HS1
              have HT : Hid (b = true → ∀ (j' : Nat) (x : JN), j' < j + 1 → xl[j']? = some x → jmay d x.v = true) := hide (fun hbt j' x hj hx => by
                by_cases e : j' = j
                · subst e; rw [hu] at hx; cases hx; rw [hb, hbt]
                · exact htk.out j' x (by omega) hx)
              have HE : Hid (b = false → B = false) := hide (fun hbf => by rw [HJ.out]; exact jmays_bad hu (by rw [hb, hbf]))
              obtain ⟨uA, uc, un, uB, ud, um, hcu, -, -⟩ := u.open5
              generalize u.v.k = uk at hcu
              generalize u.v.i = ui at hcu
              generalize u.v.t = ut at hcu
              rw [hcu] at hc HS1
              have y0 : wr.cell? ⟨g, o + j * 5, none⟩ = some (.int .i64 uk) := hc 0 _ rfl
              have y1 : wr.cell? ⟨g, o + j * 5 + 1, none⟩ = some (.int .i64 ui) := hc 1 _ rfl
              have y2 : wr.cell? ⟨g, o + j * 5 + 2, none⟩ = some (.string ut) := hc 2 _ rfl
              have y3 : wr.cell? ⟨g, o + j * 5 + 3, none⟩ = some (.slice uA un uc) := hc 3 _ rfl
              have y4 : wr.cell? ⟨g, o + j * 5 + 4, none⟩ = some (.slice uB um ud) := hc 4 _ rfl
              clear hu hc htk hb hcu h2
              go_wp2_with fail
              refine HS1.out.mono ?_
              rintro e w2 ⟨rfl, m2⟩
              have HM2 := hide (hmi.out.trans m2 (by simp))
              have HB2 := hide (m2.blk hbi.out (by simp))
              clear m2 a2 y0 y1 y2 y3 y4
              cases b with
              | true =>
                have HT2 := hide (HT.out rfl)
                go_wp2_with fail
                refine ⟨?rel, ?measure⟩
                case rel => exact ⟨j + 1, by omega, by go_num, HT2, HM2, HB2⟩
                case measure => simp [intOf]; omega
              | false =>
                have HE2 := hide (HE.out rfl)
                go_wp2_with fail
                go_ret
                exact ⟨by rw [HE2.out]; rfl, HM2.out⟩
            · have hin : j = n := by omega
              subst hin
              have HE : Hid (B = true) := hide (by rw [HJ.out]; exact jmays_all (fun j' x hj => htk.out j' x (by have := (List.getElem?_eq_some_iff.1 hj).1; have := HN.out; omega) hj))
              clear htk h2
              go_wp2_with fail
              go_ret
              exact ⟨by rw [HE.out]; rfl, hmi.out⟩
        · have ce2 : ((m : Int) != (n : Int)) = true := by rw [bne_iff_ne]; omega
          have hBf : B = false := HNo.out (by omega)
          subst hBf
          clear HNo HYes
          go_enter Tryd.func27, Tryd.ntmps27
          go_wp2_with fail
          go_ret
          exact ⟨rfl, HM1.out _⟩
      · have ct2 : decide ((0 : Int) < (xt.size : Int)) = true := decide_eq_true (by omega)
        have ct3 : decide (0 < xt.size) = true := decide_eq_true (by omega)
        have hBf : B = false := HNo.out (by omega)
        subst hBf
        clear HNo HYes
        go_enter Tryd.func27, Tryd.ntmps27
        go_wp2_with fail
        go_ret
        exact ⟨rfl, HM1.out _⟩
    · have ci2 : (xi != 0) = true := by simp [ci]
      have hBf : B = false := HNo.out (by omega)
      subst hBf
      clear HNo HYes
      go_enter Tryd.func27, Tryd.ntmps27
      go_wp2_with fail
      go_ret
      exact ⟨rfl, HM1.out _⟩
theorem rfit_all : ∀ d, d ≤ 8 → RFitOk d
  | 0, _ => rfit_zero
  | d + 1, h => rfit_step d h (rfit_all d (by omega))
set_option maxHeartbeats 8000000 in
theorem rmay_any (w : World) (x : JN) (hx : JIn w x) (b : Bool) (hb : jmay 8 x.v = b) :
    Calls Tryd.prog 16 #[.agg x.cells] w fun e w' => e = .returned (.bool b) ∧ Mod [] w w' := by
  subst hb
  have H := hide (fun w' (m : Mod [] w w') => rfit_all 8 (Nat.le_refl _) w' x (hx.new m))
  obtain ⟨xA, xc, xn, xB, xd, xm, hcx, -, -⟩ := x.open5
  rw [hcx] at H ⊢
  have HM := hide ((Mod.refl [] w).alloc (.cells #[.int .i64 x.v.k, .int .i64 x.v.i, .string x.v.t, .slice xA xn xc, .slice xB xm xd] 25))
  clear hx hcx
  go_enter Tryd.func16, Tryd.ntmps16
  go_wp2_with fail
  refine (H.out _ HM.out).mono ?_
  rintro e w3 ⟨rfl, m3⟩
  have HM3 := hide (HM.out.trans m3 (by simp))
  clear m3
  go_wp2_with fail
  go_ret
  exact ⟨rfl, HM3.out⟩
end Go.Proofs.YtkbpndohpkcikaaDoor
