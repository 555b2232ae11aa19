/-
  JsonPlace: the walk.
-/
import Derived.Test.YtkbpndohpkcikaaDoorJsAw
namespace Go.Proofs.YtkbpndohpkcikaaDoor
open Go.RowKit Js
set_option linter.unusedVariables false
set_option linter.unusedSimpArgs false
/-- Read, as a law calls it: the value's cells apart -/
theorem readL (w : World) (s : ByteArray) (hs : s.size ≤ 1000000) (B : Nat) (hB : B ≤ w.heap.size) (hj : JVars B w) {v : JV} {a e : Int} (hr : jread s.data.toList = (v, a, e)) :
    Calls Tryd.prog 19 #[.string s] w fun en w' => ∃ (x : JN) (k i : Int) (t : ByteArray) (A : Option Addr) (n c : Nat) (D : Option Addr) (m d : Nat), x.cells = #[.int .i64 k, .int .i64 i, .string t, .slice A n c, .slice D m d] ∧ en = .returned (.tuple #[.agg #[.int .i64 k, .int .i64 i, .string t, .slice A n c, .slice D m d], .int .i64 a, .int .i64 e]) ∧ x.v = v ∧ JIn w' x ∧ Mod [] w w' := by
  refine (read_any w s hs B hB hj).mono ?_
  rintro en w' ⟨x, rfl, h1, h2, h3⟩
  rw [hr] at h1
  obtain ⟨A, c, n, D, d, m, hc, _, _⟩ := x.open5
  refine ⟨x, _, _, _, _, _, _, _, _, _, hc, ?_, h1, h2, h3⟩
  rw [hr, hc]
set_option maxRecDepth 100000 in
set_option maxHeartbeats 8000000 in
theorem walkJsonPlace (s : ByteArray) (_hs : s.size ≤ maxLen) (z : ByteArray) (_hz : z.size ≤ maxLen) (W : World) (hj : JVars W.heap.size W) :
    Calls Tryd.prog 6 #[.string s, .string z] W fun e w' => e = .returned (.bool true) ∧ Below W.heap.size W w' := by
  have HRd := hide (fun (w' : World) (m : Mod [] W w') (s : ByteArray) (hs : s.size ≤ 1000000) (v : JV) (a e : Int) (hr : jread s.data.toList = (v, a, e)) => readL w' s hs W.heap.size m.size (hj.mod m (Nat.le_refl _) (by simp)) hr)
  have HAw := hide (awake_any W W.heap.size (Nat.le_refl _) hj)
  obtain ⟨D, hD⟩ : ∃ D, s.data.toList = D := ⟨_, rfl⟩
  have hDl : D.length = s.size := by rw [← hD]; exact bytes_len s
  obtain ⟨v, a, e, hjr⟩ : ∃ v a e, jread D = (v, a, e) := ⟨_, _, _, rfl⟩
  have HD := hide hD
  have HDl := hide hDl
  have HJr := hide hjr
  clear hj hD hDl hjr
  go_enter Tryd.func6, Tryd.ntmps6
  go_wp2_with fail
  refine HAw.out.mono ?_
  rintro en w1 ⟨rfl, m1⟩
  have HM1 := hide m1
  clear m1 HAw
  by_cases hs1 : 2048 < s.size
  · have f1 : (2048 : Int) < (s.size : Int) := by omega
    clear hs1
    go_wp2_with fail
    go_ret
    exact ⟨rfl, HM1.out.below (Nat.le_refl _) (by simp)⟩
  have f1 : decide ((2048 : Int) < (s.size : Int)) = false := decide_eq_false (by omega)
  have f1n : decide (2048 < s.size) = false := decide_eq_false (by omega)
  by_cases hz1 : 2048 < z.size
  · have f2 : (2048 : Int) < (z.size : Int) := by omega
    clear hz1
    go_wp2_with fail
    go_ret
    exact ⟨rfl, HM1.out.below (Nat.le_refl _) (by simp)⟩
  have f2 : decide ((2048 : Int) < (z.size : Int)) = false := decide_eq_false (by omega)
  have f2n : decide (2048 < z.size) = false := decide_eq_false (by omega)
  have HR1 := hide (HRd.out w1 HM1.out s (by omega) v a e (by rw [HD.out]; exact HJr.out))
  have HS1 := hide hs1
  have HZ1 := hide hz1
  clear hs1 hz1
  go_wp2_with fail
  refine HR1.out.mono ?_
  rintro en w2 ⟨x, xk, xi, xt, xA, xn, xc, xB, xm, xd, hxc, rfl, hxv, hxi, m2⟩
  have HM2 := hide ((HM1.out.trans m2 (by simp)).alloc (.cells #[.int .i64 xk, .int .i64 xi, .string xt, .slice xA xn xc, .slice xB xm xd] 25))
  clear hxc hxv hxi m2 HR1
  by_cases he : e = 0
  · subst he
    obtain ⟨_, _, ha⟩ := jread_may HJr.out
    subst ha
    clear HRd
    go_wp2_with fail
    go_ret
    exact ⟨rfl, HM2.out.below (Nat.le_refl _) (by simp)⟩
  obtain ⟨hv0, he2, ha0, hal⟩ := jread_bad HJr.out he
  subst hv0 he2
  obtain ⟨k, rfl⟩ := Int.eq_ofNat_of_zero_le ha0
  have hk1 : k ≤ s.size := by have := HDl.out; omega
  clear he ha0 hal
  by_cases hk : s.size ≤ k
  · have f3 : (s.size : Int) ≤ (k : Int) := by omega
    clear hk HRd
    go_wp2_with fail
    go_ret
    exact ⟨rfl, HM2.out.below (Nat.le_refl _) (by simp)⟩
  have f3 : decide ((s.size : Int) ≤ (k : Int)) = false := decide_eq_false (by omega)
  have f3n : decide (s.size ≤ k) = false := decide_eq_false (by omega)
  have hks : k < s.size := by omega
  have hki : (k : Int) < (s.size : Int) := by omega
  clear hk
  by_cases h45 : s[k].toNat = 45
  · have g1 : ((s[k].toNat : Int) == 45) = true := by rw [h45]; rfl
    clear h45 HRd
    go_wp2_with fail
    go_ret
    exact ⟨rfl, HM2.out.below (Nat.le_refl _) (by simp)⟩
  have g1 : ((s[k].toNat : Int) == 45) = false := by rw [beq_eq_false_iff_ne]; omega
  by_cases h48 : 48 ≤ s[k].toNat
  · have g2 : (48 : Int) ≤ (s[k].toNat : Int) := by omega
    by_cases h57 : s[k].toNat ≤ 57
    · have g3 : (s[k].toNat : Int) ≤ 57 := by omega
      clear h45 h48 h57 HRd
      go_wp2_with fail
      go_ret
      exact ⟨rfl, HM2.out.below (Nat.le_refl _) (by simp)⟩
    · have g3 : decide ((s[k].toNat : Int) ≤ 57) = false := decide_eq_false (by omega)
      have g3n : decide (s[k].toNat ≤ 57) = false := decide_eq_false (by omega)
      have hdig : s[k].toNat < 48 ∨ 57 < s[k].toNat := .inr (by omega)
      obtain ⟨k1, hk1e⟩ : ∃ k1, k1 = k + 1 := ⟨_, rfl⟩
      have a1 : wrap64 ((k : Int) + 1) = (k1 : Int) := by
        have : IntKind.i64.wrap ((k : Int) + 1) = (k : Int) + 1 := IntWalk.i64_in _ (by have := HS1.out; omega)
        have h2 : wrap64 ((k : Int) + 1) = (k : Int) + 1 := IntWalk.wrap64_in _ (by have := HS1.out; omega)
        rw [h2]; omega
      have hk1s : (k1 : Int) ≤ (s.size : Int) := by omega
      have hk1n : k1 ≤ s.size := by omega
      have hk1z : ¬ 9223372036854775807 < k1 + z.size := by have := HS1.out; have := HZ1.out; omega
      have hkn : (k : Int) ≤ (s.size : Int) := by omega
      have hnum : (D[k]?).any numc = false := by
        have hb : D[k]? = some s[k] := by
          rw [← HD.out]
          simp [hks]
          rfl
        rw [hb]
        show numc s[k] = false
        unfold numc isDi
        have q1 : (s[k] == 45) = false := by
          rw [beq_eq_false_iff_ne]
          intro e
          rw [e] at h45
          exact h45 rfl
        rw [q1, Bool.false_or, Bool.and_eq_false_iff]
        rcases hdig with h | h
        · left
          exact decide_eq_false (by rw [UInt8.le_iff_toNat_le]; show ¬ 48 ≤ _; omega)
        · right
          exact decide_eq_false (by rw [UInt8.le_iff_toNat_le]; show ¬ _ ≤ 57; omega)
      obtain ⟨⟨v1, hp1⟩, hp2⟩ := jread_place (b := z.data.toList) HJr.out (by have := HDl.out; omega) hnum
      have e1 : (s.extract 0 k1 ++ z).data.toList = D.take (k + 1) ++ z.data.toList := by rw [← HD.out, hk1e]; simp
      have e2 : (s.extract 0 k).data.toList = D.take k := by rw [← HD.out]; simp
      have HR2 := hide (HRd.out _ HM2.out (s.extract 0 k1 ++ z) (by have := HS1.out; have := HZ1.out; simp; omega) v1 k 2 (by rw [e1]; exact hp1))
      have HP2 : Hid (∃ v2 a2 e2, jread (s.extract 0 k).data.toList = (v2, a2, e2) ∧ ((e2 = 0 ∧ a2 = 0) ∨ (e2 = 2 ∧ a2 = (k : Int)))) := hide (by
        rw [e2]
        rcases hp2 with ⟨v2, h⟩ | ⟨v2, h⟩
        · exact ⟨v2, _, _, h, .inl ⟨rfl, rfl⟩⟩
        · exact ⟨v2, _, _, h, .inr ⟨rfl, rfl⟩⟩)
      clear hnum hp1 hp2 e1 e2 h45 hk1e hdig h48 h57
      go_wp2_with fail
      refine HR2.out.mono ?_
      rintro en w3 ⟨y, yk, yi, yt, yA, yn, yc, yB, ym, yd, hyc, rfl, hyv, hyi, m3⟩
      have HM3 := hide ((HM2.out.trans m3 (by simp)).alloc (.cells #[.int .i64 yk, .int .i64 yi, .string yt, .slice yA yn yc, .slice yB ym yd] 25))
      obtain ⟨v2, a2, e2, hp2, hcs⟩ := HP2.out
      have HR3 := hide (HRd.out _ HM3.out (s.extract 0 k) (by have := HS1.out; simp; omega) v2 a2 e2 hp2)
      clear hyc hyv hyi m3 HR2 HRd hp2
      go_wp2_with fail
      refine HR3.out.mono ?_
      rintro en w4 ⟨u, uk, ui, ut, uA, un, uc, uB, um, ud, huc, rfl, huv, hui, m4⟩
      have HM4 := hide ((HM3.out.trans m4 (by simp)).alloc (.cells #[.int .i64 uk, .int .i64 ui, .string ut, .slice uA un uc, .slice uB um ud] 25))
      clear huc huv hui m4 HR3
      rcases hcs with ⟨rfl, rfl⟩ | ⟨rfl, rfl⟩
      · go_wp2_with fail
        go_ret
        exact ⟨rfl, HM4.out.below (Nat.le_refl _) (by simp)⟩
      · have kk : ((k : Int) == (k : Int)) = true := by simp
        go_wp2_with fail
        go_ret
        exact ⟨rfl, HM4.out.below (Nat.le_refl _) (by simp)⟩
  · have g2 : decide ((48 : Int) ≤ (s[k].toNat : Int)) = false := decide_eq_false (by omega)
    have g2n : decide (48 ≤ s[k].toNat) = false := decide_eq_false (by omega)
    have hdig : s[k].toNat < 48 ∨ 57 < s[k].toNat := .inl (by omega)
    obtain ⟨k1, hk1e⟩ : ∃ k1, k1 = k + 1 := ⟨_, rfl⟩
    have a1 : wrap64 ((k : Int) + 1) = (k1 : Int) := by
      have : IntKind.i64.wrap ((k : Int) + 1) = (k : Int) + 1 := IntWalk.i64_in _ (by have := HS1.out; omega)
      have h2 : wrap64 ((k : Int) + 1) = (k : Int) + 1 := IntWalk.wrap64_in _ (by have := HS1.out; omega)
      rw [h2]; omega
    have hk1s : (k1 : Int) ≤ (s.size : Int) := by omega
    have hk1n : k1 ≤ s.size := by omega
    have hk1z : ¬ 9223372036854775807 < k1 + z.size := by have := HS1.out; have := HZ1.out; omega
    have hkn : (k : Int) ≤ (s.size : Int) := by omega
    have hnum : (D[k]?).any numc = false := by
      have hb : D[k]? = some s[k] := by
        rw [← HD.out]
        simp [hks]
        rfl
      rw [hb]
      show numc s[k] = false
      unfold numc isDi
      have q1 : (s[k] == 45) = false := by
        rw [beq_eq_false_iff_ne]
        intro e
        rw [e] at h45
        exact h45 rfl
      rw [q1, Bool.false_or, Bool.and_eq_false_iff]
      rcases hdig with h | h
      · left
        exact decide_eq_false (by rw [UInt8.le_iff_toNat_le]; show ¬ 48 ≤ _; omega)
      · right
        exact decide_eq_false (by rw [UInt8.le_iff_toNat_le]; show ¬ _ ≤ 57; omega)
    obtain ⟨⟨v1, hp1⟩, hp2⟩ := jread_place (b := z.data.toList) HJr.out (by have := HDl.out; omega) hnum
    have e1 : (s.extract 0 k1 ++ z).data.toList = D.take (k + 1) ++ z.data.toList := by rw [← HD.out, hk1e]; simp
    have e2 : (s.extract 0 k).data.toList = D.take k := by rw [← HD.out]; simp
    have HR2 := hide (HRd.out _ HM2.out (s.extract 0 k1 ++ z) (by have := HS1.out; have := HZ1.out; simp; omega) v1 k 2 (by rw [e1]; exact hp1))
    have HP2 : Hid (∃ v2 a2 e2, jread (s.extract 0 k).data.toList = (v2, a2, e2) ∧ ((e2 = 0 ∧ a2 = 0) ∨ (e2 = 2 ∧ a2 = (k : Int)))) := hide (by
      rw [e2]
      rcases hp2 with ⟨v2, h⟩ | ⟨v2, h⟩
      · exact ⟨v2, _, _, h, .inl ⟨rfl, rfl⟩⟩
      · exact ⟨v2, _, _, h, .inr ⟨rfl, rfl⟩⟩)
    clear hnum hp1 hp2 e1 e2 h45 hk1e hdig h48
    go_wp2_with fail
    refine HR2.out.mono ?_
    rintro en w3 ⟨y, yk, yi, yt, yA, yn, yc, yB, ym, yd, hyc, rfl, hyv, hyi, m3⟩
    have HM3 := hide ((HM2.out.trans m3 (by simp)).alloc (.cells #[.int .i64 yk, .int .i64 yi, .string yt, .slice yA yn yc, .slice yB ym yd] 25))
    obtain ⟨v2, a2, e2, hp2, hcs⟩ := HP2.out
    have HR3 := hide (HRd.out _ HM3.out (s.extract 0 k) (by have := HS1.out; simp; omega) v2 a2 e2 hp2)
    clear hyc hyv hyi m3 HR2 HRd hp2
    go_wp2_with fail
    refine HR3.out.mono ?_
    rintro en w4 ⟨u, uk, ui, ut, uA, un, uc, uB, um, ud, huc, rfl, huv, hui, m4⟩
    have HM4 := hide ((HM3.out.trans m4 (by simp)).alloc (.cells #[.int .i64 uk, .int .i64 ui, .string ut, .slice uA un uc, .slice uB um ud] 25))
    clear huc huv hui m4 HR3
    rcases hcs with ⟨rfl, rfl⟩ | ⟨rfl, rfl⟩
    · go_wp2_with fail
      go_ret
      exact ⟨rfl, HM4.out.below (Nat.le_refl _) (by simp)⟩
    · have kk : ((k : Int) == (k : Int)) = true := by simp
      go_wp2_with fail
      go_ret
      exact ⟨rfl, HM4.out.below (Nat.le_refl _) (by simp)⟩
end Go.Proofs.YtkbpndohpkcikaaDoor
