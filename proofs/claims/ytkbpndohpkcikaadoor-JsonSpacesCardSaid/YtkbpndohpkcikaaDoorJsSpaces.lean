/-
  JsonSpaces: the walk.
-/
import Derived.Test.YtkbpndohpkcikaaDoorJsAw
import Derived.Test.YtkbpndohpkcikaaDoorJsPlace
import Derived.Test.YtkbpndohpkcikaaDoorJsP3
namespace Go.Proofs.YtkbpndohpkcikaaDoor
open Go.RowKit Js
set_option linter.unusedVariables false
set_option linter.unusedSimpArgs false
set_option maxRecDepth 100000 in
set_option maxHeartbeats 8000000 in
theorem some_any (w : World) (n : Nat) (hn : n ≤ 255) :
    Calls Tryd.prog 20 #[.int .u8 (n : Int)] w fun e w' => ∃ p : ByteArray, e = .returned (.string p) ∧ p.data.toList.all isSp = true ∧ p.size = n % 9 ∧ Mod [] w w' := by
  go_enter Tryd.func20, Tryd.ntmps20
  go_wp2_with fail
  go_loopw [3, 4] (fun ov iv wr => ∃ (i : Nat) (p : ByteArray), i ≤ n % 9 ∧ ov = .string p ∧ iv = .int .i64 (i : Int) ∧ Hid (p.data.toList.all isSp = true ∧ p.size = i) ∧ Hid (Mod [] w wr)) (fun _ iv _ => 9 - (intOf iv).toNat)
  case atStart => exact ⟨0, ⟨#[]⟩, by omega, rfl, rfl, hide ⟨rfl, rfl⟩, hide (Mod.refl _ _)⟩
  case round =>
    obtain ⟨i, p, hi, rfl, rfl, hp, hm⟩ := hrel
    by_cases h2 : i < n % 9
    · have hii : (i : Int) < (n : Int) % 9 := by omega
      have a1 : IntKind.i64.wrap ((i : Int) + 1) = (i : Int) + 1 := IntWalk.i64_in _ (by omega)
      obtain ⟨ch, hsp, hl⟩ : ∃ ch : UInt8, isSp ch = true ∧ ([Value.string ⟨#[32]⟩, Value.string ⟨#[10]⟩, Value.string ⟨#[9]⟩, Value.string ⟨#[13]⟩] : List Value)[i % 4]? = some (.string ⟨#[ch]⟩) := by
        have h4 : i % 4 < 4 := Nat.mod_lt _ (by omega)
        generalize i % 4 = q at h4
        match q, h4 with
        | 0, _ => exact ⟨32, rfl, rfl⟩
        | 1, _ => exact ⟨10, rfl, rfl⟩
        | 2, _ => exact ⟨9, rfl, rfl⟩
        | 3, _ => exact ⟨13, rfl, rfl⟩
      have hcell : (wr.alloc (.cells #[.string ⟨#[32]⟩, .string ⟨#[10]⟩, .string ⟨#[9]⟩, .string ⟨#[13]⟩] 9)).cell? ⟨wr.heap.size, i % 4, none⟩ = some (.string ⟨#[ch]⟩) := by
        rw [(Blk.new wr 9 #[.string ⟨#[32]⟩, .string ⟨#[10]⟩, .string ⟨#[9]⟩, .string ⟨#[13]⟩]).cell]
        simpa using hl
      have hsz : ¬ 9223372036854775807 < p.size + 1 := by have := hp.out.2; omega
      have HN : Hid ((p ++ ⟨#[ch]⟩).data.toList.all isSp = true ∧ (p ++ ⟨#[ch]⟩).size = i + 1) := hide (by
        have h1 := hp.out.1
        have h3 := hp.out.2
        refine ⟨?_, by simp [h3]; rfl⟩
        simp at h1 ⊢
        exact ⟨h1, hsp⟩)
      have HM := hide (hm.out.alloc (.cells #[.string ⟨#[32]⟩, .string ⟨#[10]⟩, .string ⟨#[9]⟩, .string ⟨#[13]⟩] 9))
      clear hsp
      go_wp2_with fail
      refine ⟨?rel, ?measure⟩
      case rel => exact ⟨i + 1, _, by omega, rfl, by go_num, HN, HM⟩
      case measure => simp [intOf]; omega
    · have hii : decide ((i : Int) < (n : Int) % 9) = false := decide_eq_false (by omega)
      have hin : i = n % 9 := by omega
      have HP : Hid (p.data.toList.all isSp = true ∧ p.size = n % 9) := hide (by rw [← hin]; exact hp.out)
      clear h2 hin
      go_wp2_with fail
      go_ret
      exact ⟨p, rfl, HP.out.1, HP.out.2, hm.out⟩
theorem sp_app (p s z : ByteArray) : (p ++ s ++ z).data.toList = p.data.toList ++ s.data.toList ++ z.data.toList := by simp
set_option maxRecDepth 100000 in
set_option maxHeartbeats 8000000 in
theorem walkJsonSpaces (s : ByteArray) (_hs : s.size ≤ maxLen) (n : Nat) (hn : n ≤ 255) (m : Nat) (hm : m ≤ 255) (W : World) (hj : JVars W.heap.size W) :
    Calls Tryd.prog 5 #[.string s, .int .u8 (n : Int), .int .u8 (m : Int)] W fun e w' => e = .returned (.bool true) ∧ Below W.heap.size W w' := by
  have HRd := hide (fun (w' : World) (m : Mod [] W w') (s : ByteArray) (hs : s.size ≤ 1000000) (v : JV) (a e : Int) (hr : jread s.data.toList = (v, a, e)) => readL w' s hs W.heap.size m.size (hj.mod m (Nat.le_refl _) (by simp)) hr)
  have HAw := hide (awake_any W W.heap.size (Nat.le_refl _) hj)
  obtain ⟨D, hD⟩ : ∃ D, s.data.toList = D := ⟨_, rfl⟩
  have hDl : D.length = s.size := by rw [← hD]; exact bytes_len s
  obtain ⟨v, a, e, hjr⟩ : ∃ v a e, jread D = (v, a, e) := ⟨_, _, _, rfl⟩
  have HD := hide hD
  have HDl := hide hDl
  have HJr := hide hjr
  clear hj hD hDl hjr
  go_enter Tryd.func5, Tryd.ntmps5
  go_wp2_with fail
  refine HAw.out.mono ?_
  rintro en w1 ⟨rfl, m1⟩
  have HM1 := hide m1
  clear m1 HAw
  by_cases hs1 : 2048 < s.size
  · have f1 : (2048 : Int) < (s.size : Int) := by omega
    clear hs1
    go_wp2_with fail
    go_ret
    exact ⟨rfl, HM1.out.below (Nat.le_refl _) (by simp)⟩
  have f1 : decide ((2048 : Int) < (s.size : Int)) = false := decide_eq_false (by omega)
  have f1n : decide (2048 < s.size) = false := decide_eq_false (by omega)
  have HR1 := hide (HRd.out w1 HM1.out s (by omega) v a e (by rw [HD.out]; exact HJr.out))
  have HS1 := hide hs1
  clear hs1
  go_wp2_with fail
  refine HR1.out.mono ?_
  rintro en w2 ⟨x, xk, xi, xt, xA, xn, xc, xB, xm, xd, hxc, rfl, hxv, hxi, m2⟩
  have HM2 := hide ((HM1.out.trans m2 (by simp)).alloc (.cells #[.int .i64 xk, .int .i64 xi, .string xt, .slice xA xn xc, .slice xB xm xd] 25))
  have HX2 := hide (Blk.new w2 25 #[.int .i64 xk, .int .i64 xi, .string xt, .slice xA xn xc, .slice xB xm xd])
  have HXi2 := hide (JIn.new ((Mod.refl [] w2).alloc (.cells #[.int .i64 xk, .int .i64 xi, .string xt, .slice xA xn xc, .slice xB xm xd] 25)) hxi)
  have HXc := hide hxc
  have HXv := hide hxv
  clear hxc hxv hxi m2 HR1
  have HSo := hide (some_any (w2.alloc (.cells #[.int .i64 xk, .int .i64 xi, .string xt, .slice xA xn xc, .slice xB xm xd] 25)) n hn)
  obtain ⟨xb, hxb⟩ : ∃ xb, w2.heap.size = xb := ⟨_, rfl⟩
  rw [hxb] at HX2
  go_wp2_with fail
  refine HSo.out.mono ?_
  rintro en w3 ⟨p, rfl, hp1, hp2, m3⟩
  have HM3 := hide (HM2.out.trans m3 (by simp))
  have HX3 := hide (m3.blk HX2.out (by simp))
  have HXi3 := hide (HXi2.out.new m3)
  have HP := hide (And.intro hp1 hp2)
  have hpsz : ¬ 9223372036854775807 < p.size + s.size := by have := HS1.out; omega
  have HSo2 := hide (some_any w3 m hm)
  clear hp1 hp2 m3 HSo
  go_wp2_with fail
  refine HSo2.out.mono ?_
  rintro en w4 ⟨z, rfl, hz1, hz2, m4⟩
  have HM4 := hide (HM3.out.trans m4 (by simp))
  have HX4 := hide (m4.blk HX3.out (by simp))
  have HXi4 := hide (HXi3.out.new m4)
  have HZ := hide (And.intro hz1 hz2)
  have hpsz2 : ¬ 9223372036854775807 < p.size + s.size + z.size := by have := HS1.out; have := HP.out.2; omega
  have hsp := jread_spaces HP.out.1 HZ.out.1 HJr.out
  rw [← HD.out, ← sp_app, HD.out] at hsp
  have hpl : p.data.toList.length = n % 9 := by rw [bytes_len]; exact HP.out.2
  rw [hpl] at hsp
  have hsz4 : (p ++ s ++ z).size ≤ 1000000 := by
    have := HS1.out; have := HP.out.2
    simp
    omega
  clear hz1 hz2 m4 HSo2
  by_cases he : e = 0
  · subst he
    have HR5 := hide (HRd.out w4 HM4.out (p ++ s ++ z) hsz4 v 0 0 (hsp.1 rfl))
    clear hsp HRd
    go_wp2_with fail
    refine HR5.out.mono ?_
    rintro en w5 ⟨y, yk, yi, yt, yA, yn, yc, yB, ym, yd, hyc, rfl, hyv, hyi, m5⟩
    have HM5 := hide ((HM4.out.trans m5 (by simp)).alloc (.cells #[.int .i64 yk, .int .i64 yi, .string yt, .slice yA yn yc, .slice yB ym yd] 25))
    have HX5 := (m5.blk HX4.out (by simp)).alloc (.cells #[.int .i64 yk, .int .i64 yi, .string yt, .slice yA yn yc, .slice yB ym yd] 25)
    have hsm := same_any (w5.alloc (.cells #[.int .i64 yk, .int .i64 yi, .string yt, .slice yA yn yc, .slice yB ym yd] 25)) x y ((HXi4.out.new m5).new ((Mod.refl [] w5).alloc _)) (hyi.new ((Mod.refl [] w5).alloc _)) true (by rw [HXv.out, hyv]; exact (jsame_iff _ _).2 rfl)
    rw [HXc.out, hyc] at hsm
    have HSm := hide hsm
    have q0 : (w5.alloc (.cells #[.int .i64 yk, .int .i64 yi, .string yt, .slice yA yn yc, .slice yB ym yd] 25)).cell? ⟨xb, 0, none⟩ = some (.int .i64 xk) := HX5.cell 0
    have q1 : (w5.alloc (.cells #[.int .i64 yk, .int .i64 yi, .string yt, .slice yA yn yc, .slice yB ym yd] 25)).cell? ⟨xb, 1, none⟩ = some (.int .i64 xi) := HX5.cell 1
    have q2 : (w5.alloc (.cells #[.int .i64 yk, .int .i64 yi, .string yt, .slice yA yn yc, .slice yB ym yd] 25)).cell? ⟨xb, 2, none⟩ = some (.string xt) := HX5.cell 2
    have q3 : (w5.alloc (.cells #[.int .i64 yk, .int .i64 yi, .string yt, .slice yA yn yc, .slice yB ym yd] 25)).cell? ⟨xb, 3, none⟩ = some (.slice xA xn xc) := HX5.cell 3
    have q4 : (w5.alloc (.cells #[.int .i64 yk, .int .i64 yi, .string yt, .slice yA yn yc, .slice yB ym yd] 25)).cell? ⟨xb, 4, none⟩ = some (.slice xB xm xd) := HX5.cell 4
    clear hsm hyc hyv hyi m5 HX5 HR5
    go_wp2_with fail
    refine HSm.out.mono ?_
    rintro en w6 ⟨rfl, m6⟩
    have HM6 := hide (HM5.out.trans m6 (by simp))
    clear m6 HSm q0 q1 q2 q3 q4
    go_wp2_with fail
    go_ret
    exact ⟨rfl, HM6.out.below (Nat.le_refl _) (by simp)⟩
  · obtain ⟨hv0, he2, ha0, hal⟩ := jread_bad HJr.out he
    obtain ⟨k, hk, hor⟩ := hsp.2 he
    subst hv0 he2
    obtain ⟨a', rfl⟩ := Int.eq_ofNat_of_zero_le ha0
    have hal2 : a' ≤ 2048 := by have := HDl.out; have := HS1.out; omega
    have HR5 := hide (HRd.out w4 HM4.out (p ++ s ++ z) hsz4 jv0 k 2 hk)
    have HOr : Hid (k = (a' : Int) + ((n % 9 : Nat) : Int) ∨ (a' : Int) = (s.size : Int)) := hide (by rw [← HDl.out]; exact hor)
    obtain ⟨q, hq⟩ : ∃ q : Int, q = (a' : Int) + (n : Int) % 9 := ⟨_, rfl⟩
    have a1 : IntKind.i64.wrap ((a' : Int) + (n : Int) % 9) = q := by rw [hq]; exact IntWalk.i64_in _ (by omega)
    have a2 : wrap64 ((a' : Int) + (n : Int) % 9) = q := by rw [hq]; exact IntWalk.wrap64_in _ (by omega)
    have HOq : Hid (k = q ∨ (a' : Int) = (s.size : Int)) := hide (by rw [hq]; rcases HOr.out with h | h; exact .inl (by rw [h]; omega); exact .inr h)
    clear hq HOr
    clear hsp HRd hk hor he ha0 hal
    go_wp2_with fail
    refine HR5.out.mono ?_
    rintro en w5 ⟨y, yk, yi, yt, yA, yn, yc, yB, ym, yd, hyc, rfl, hyv, hyi, m5⟩
    have HM5 := hide ((HM4.out.trans m5 (by simp)).alloc (.cells #[.int .i64 yk, .int .i64 yi, .string yt, .slice yA yn yc, .slice yB ym yd] 25))
    clear hyc hyv hyi m5 HR5
    obtain ⟨b1, hb1⟩ : ∃ b1, (k == q) = b1 := ⟨_, rfl⟩
    obtain ⟨b2, hb2⟩ : ∃ b2, ((a' : Int) == (s.size : Int)) = b2 := ⟨_, rfl⟩
    have hbb : b1 = true ∨ b2 = true := by
      rcases HOq.out with h | h
      · left; rw [← hb1, h]; simp
      · right; rw [← hb2, h]; simp
    have HBB := hide hbb
    clear hbb hal2 hsz4 hpsz hpsz2
    cases b1 with
    | true =>
      go_wp2_with fail
      go_ret
      exact ⟨rfl, HM5.out.below (Nat.le_refl _) (by simp)⟩
    | false =>
      obtain rfl : b2 = true := by rcases HBB.out with h | h; cases h; exact h
      go_wp2_with fail
      go_ret
      exact ⟨rfl, HM5.out.below (Nat.le_refl _) (by simp)⟩
end Go.Proofs.YtkbpndohpkcikaaDoor
