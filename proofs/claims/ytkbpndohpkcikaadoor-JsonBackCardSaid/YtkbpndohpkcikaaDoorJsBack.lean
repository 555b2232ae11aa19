/-
  JsonBack: the walk.
-/
import Derived.Test.YtkbpndohpkcikaaDoorJsLaw
namespace Go.Proofs.YtkbpndohpkcikaaDoor
open Go.RowKit Js Go.Sort
set_option linter.unusedVariables false
set_option linter.unusedSimpArgs false
set_option maxRecDepth 100000 in
set_option maxHeartbeats 8000000 in
theorem walkJsonBack (x : JN) {W : World} (hx : JIn W x) (hr : jrng x.v = true) (s : ByteArray) (_hs : s.size ≤ maxLen) (hj : JVars W.heap.size W) :
    Calls Tryd.prog 4 #[.agg x.cells, .string s] W fun e w' => e = .returned (.bool true) ∧ Below W.heap.size W w' := by
  have HAw := hide (fun (w' : World) (m : Mod [] W w') => awake_any w' W.heap.size m.size (hj.mod m (Nat.le_refl _) (by simp)))
  have HRd := hide (fun (w' : World) (m : Mod [] W w') (s : ByteArray) (hs : s.size ≤ 1000000) (v : JV) (a e : Int) (hr : jread s.data.toList = (v, a, e)) => readL w' s hs W.heap.size m.size (hj.mod m (Nat.le_refl _) (by simp)) hr)
  have HWr := hide (fun (w' : World) (m : Mod [] W w') (u : JN) (hu : JIn w' u) (hr : jrng u.v = true) (hl : (jwr u.v).length ≤ 1099511627776) (hb : jmay 8 u.v = true) => writeL w' u hu hr hl W.heap.size m.size (hj.mod m (Nat.le_refl _) (by simp)) hb)
  have HWn := hide (fun (w' : World) (m : Mod [] W w') (u : JN) (hu : JIn w' u) (hr : jrng u.v = true) (hl : (jwr u.v).length ≤ 1099511627776) (hb : jmay 8 u.v = false) => writeN w' u hu hr hl W.heap.size m.size (hj.mod m (Nat.le_refl _) (by simp)) hb)
  obtain ⟨vA, vc, vn, vB, vd, vm, hcv, hvn, hvm⟩ := x.open5
  have hka := JN.keysAt hx hcv
  have hra := fun (j : Nat) (y : JV) (h : x.v.l[j]? = some y) => JN.rows hx hcv h
  obtain ⟨vk, vi, vt, vl, vks, hxv⟩ : ∃ vk vi vt vl vks, x.v = JV.mk vk vi vt vl vks := by
    cases x.v
    exact ⟨_, _, _, _, _, rfl⟩
  simp only [hxv, JV.k, JV.i, JV.t, JV.l, JV.ks] at hcv hvn hvm hka hra
  have HCv := hide hcv
  have HX := hide hx
  have HXv := hide hxv
  have HVn := hide hvn
  have HVm := hide hvm
  have HKa := hide hka
  have HRa := hide hra
  have HR := hide hr
  have HLg := hide (fun (w' : World) (m : Mod [] W w') (b : Bool) (hb : decide (2048 ≤ jwt 21 x.v) = b) => large_any w' x (hx.new m) b hb)
  rw [hcv] at HLg ⊢
  have HM0 := hide ((Mod.refl [] W).alloc (.cells #[.int .i64 vk, .int .i64 vi, .string vt, .slice vA vn vc, .slice vB vm vd] 25))
  have HB0 := hide (Blk.new W 25 #[.int .i64 vk, .int .i64 vi, .string vt, .slice vA vn vc, .slice vB vm vd])
  clear hx hr hj hcv hxv hvn hvm hka hra
  go_enter Tryd.func4, Tryd.ntmps4
  go_wp2_with fail
  refine (HAw.out _ HM0.out).mono ?_
  rintro en w1 ⟨rfl, m1⟩
  have HM1 := hide (HM0.out.trans m1 (by simp))
  have HB1 := hide (m1.blk HB0.out (by simp))
  have q0 : w1.cell? ⟨W.heap.size, 0, none⟩ = some (.int .i64 vk) := HB1.out.cell 0
  have q1 : w1.cell? ⟨W.heap.size, 1, none⟩ = some (.int .i64 vi) := HB1.out.cell 1
  have q2 : w1.cell? ⟨W.heap.size, 2, none⟩ = some (.string vt) := HB1.out.cell 2
  have q3 : w1.cell? ⟨W.heap.size, 3, none⟩ = some (.slice vA vn vc) := HB1.out.cell 3
  have q4 : w1.cell? ⟨W.heap.size, 4, none⟩ = some (.slice vB vm vd) := HB1.out.cell 4
  obtain ⟨b, hb⟩ : ∃ b, decide (2048 ≤ jwt 21 x.v) = b := ⟨_, rfl⟩
  have HL1 := hide (HLg.out w1 HM1.out b hb)
  have HWt := hide hb
  clear hb HLg m1
  go_wp2_with fail
  refine HL1.out.mono ?_
  rintro en w2 ⟨rfl, m2⟩
  have HM2 := hide (HM1.out.trans m2 (by simp))
  have HB2 := hide (m2.blk HB1.out (by simp))
  clear m2 q0 q1 q2 q3 q4
  cases b with
  | true =>
    go_wp2_with fail
    go_ret
    exact ⟨rfl, HM2.out.below (Nat.le_refl _) (by simp)⟩
  | false =>
    have hwt : jwt 21 x.v < 2048 := by have := of_decide_eq_false HWt.out; omega
    have hsh := jwr_short hwt HR.out
    have HSh := hide hsh
    have hwt2 := hwt
    rw [HXv.out] at hwt2
    obtain ⟨_, hpt⟩ := jwt_parts hwt2
    have hln : vl.length ≤ jws (21 - 1) vl := jws_len (by omega)
    have hvn2 : vn < 2048 := by have := HVn.out; omega
    have hvm2 : vm < 2048 := by have := HVm.out; omega
    have HWx := hide hwt
    clear hwt hwt2 hpt hln hsh
    by_cases hs1 : 2048 < s.size
    · have f1 : (2048 : Int) < (s.size : Int) := by omega
      clear hs1
      go_wp2_with fail
      go_ret
      exact ⟨rfl, HM2.out.below (Nat.le_refl _) (by simp)⟩
    have f1 : decide ((2048 : Int) < (s.size : Int)) = false := decide_eq_false (by omega)
    have f1n : decide (2048 < s.size) = false := decide_eq_false (by omega)
    have HS1 := hide hs1
    clear hs1
    have q0 : w2.cell? ⟨W.heap.size, 0, none⟩ = some (.int .i64 vk) := HB2.out.cell 0
    have q1 : w2.cell? ⟨W.heap.size, 1, none⟩ = some (.int .i64 vi) := HB2.out.cell 1
    have q2 : w2.cell? ⟨W.heap.size, 2, none⟩ = some (.string vt) := HB2.out.cell 2
    have q3 : w2.cell? ⟨W.heap.size, 3, none⟩ = some (.slice vA vn vc) := HB2.out.cell 3
    have q4 : w2.cell? ⟨W.heap.size, 4, none⟩ = some (.slice vB vm vd) := HB2.out.cell 4
    obtain ⟨bm, hbm⟩ : ∃ bm, jmay 8 x.v = bm := ⟨_, rfl⟩
    cases bm with
    | true =>
      have HW2 := hide (HWr.out w2 HM2.out x (HX.out.new HM2.out) HR.out (by have := HSh.out; omega) hbm)
      rw [HCv.out] at HW2
      have HBm := hide hbm
      clear hbm
      go_wp2_with fail
      refine HW2.out.mono ?_
      rintro en w3 ⟨P, rfl, hP, m3⟩
      have HM3 := hide (HM2.out.trans m3 (by simp))
      have HB3 := hide (m3.blk HB2.out (by simp))
      have HR3 := hide (HRd.out _ HM3.out P (by rw [← bytes_len, hP]; have := HSh.out; omega) x.v 0 0 (by rw [hP]; exact jread_wr HBm.out HR.out))
      clear hP m3 HW2 q0 q1 q2 q3 q4
      go_wp2_with fail
      refine HR3.out.mono ?_
      rintro en w4 ⟨u, uk, ui, ut, uA, un, uc, uB, um, ud, huc, rfl, huv, hui, m4⟩
      have HM4 := hide ((HM3.out.trans m4 (by simp)).alloc (.cells #[.int .i64 uk, .int .i64 ui, .string ut, .slice uA un uc, .slice uB um ud] 25))
      have HB4 := hide ((m4.blk HB3.out (by simp)).alloc (.cells #[.int .i64 uk, .int .i64 ui, .string ut, .slice uA un uc, .slice uB um ud] 25))
      have HSm := hide (same_any (w4.alloc (.cells #[.int .i64 uk, .int .i64 ui, .string ut, .slice uA un uc, .slice uB um ud] 25)) u x (hui.new ((Mod.refl [] w4).alloc (.cells #[.int .i64 uk, .int .i64 ui, .string ut, .slice uA un uc, .slice uB um ud] 25))) (HX.out.new HM4.out) true (by rw [huv]; exact (jsame_iff _ _).2 rfl))
      rw [huc, HCv.out] at HSm
      have q0 : (w4.alloc (.cells #[.int .i64 uk, .int .i64 ui, .string ut, .slice uA un uc, .slice uB um ud] 25)).cell? ⟨W.heap.size, 0, none⟩ = some (.int .i64 vk) := HB4.out.cell 0
      have q1 : (w4.alloc (.cells #[.int .i64 uk, .int .i64 ui, .string ut, .slice uA un uc, .slice uB um ud] 25)).cell? ⟨W.heap.size, 1, none⟩ = some (.int .i64 vi) := HB4.out.cell 1
      have q2 : (w4.alloc (.cells #[.int .i64 uk, .int .i64 ui, .string ut, .slice uA un uc, .slice uB um ud] 25)).cell? ⟨W.heap.size, 2, none⟩ = some (.string vt) := HB4.out.cell 2
      have q3 : (w4.alloc (.cells #[.int .i64 uk, .int .i64 ui, .string ut, .slice uA un uc, .slice uB um ud] 25)).cell? ⟨W.heap.size, 3, none⟩ = some (.slice vA vn vc) := HB4.out.cell 3
      have q4 : (w4.alloc (.cells #[.int .i64 uk, .int .i64 ui, .string ut, .slice uA un uc, .slice uB um ud] 25)).cell? ⟨W.heap.size, 4, none⟩ = some (.slice vB vm vd) := HB4.out.cell 4
      clear huc huv hui m4 HR3
      go_wp2_with fail
      refine HSm.out.mono ?_
      rintro en w5 ⟨rfl, m5⟩
      have HM5 := hide (HM4.out.trans m5 (by simp))
      clear m5 HSm q0 q1 q2 q3 q4
      obtain ⟨v2, a2, e2, hjr⟩ : ∃ v a e, jread s.data.toList = (v, a, e) := ⟨_, _, _, rfl⟩
      have hss : s.size ≤ 2048 := by have := HS1.out; omega
      have HR6 := hide (HRd.out _ HM5.out s (by omega) v2 a2 e2 hjr)
      have HJr := hide hjr
      have hsl : s.data.toList.length = s.size := bytes_len s
      have HSl := hide hsl
      clear hjr hsl
      by_cases he : e2 = 0
      · subst he
        obtain ⟨hmy, hrg, ha⟩ := jread_may HJr.out
        subst ha
        have hln := jread_len HJr.out
        have HL2 := hide (show (jwr v2).length ≤ 61440 by have := HSl.out; omega)
        have HMy := hide hmy
        have HRg := hide hrg
        clear hmy hrg hln
        go_wp2_with fail
        refine HR6.out.mono ?_
        rintro en w6 ⟨y, yk, yi, yt, yA, yn, yc, yB, ym, yd, hyc, rfl, hyv, hyi, m6⟩
        have HM6 := hide ((HM5.out.trans m6 (by simp)).alloc (.cells #[.int .i64 yk, .int .i64 yi, .string yt, .slice yA yn yc, .slice yB ym yd] 25))
        have HY6 := Blk.new w6 25 #[.int .i64 yk, .int .i64 yi, .string yt, .slice yA yn yc, .slice yB ym yd]
        obtain ⟨yb, hyb⟩ : ∃ yb, w6.heap.size = yb := ⟨_, rfl⟩
        have HYi := hide (hyi.new ((Mod.refl [] w6).alloc (.cells #[.int .i64 yk, .int .i64 yi, .string yt, .slice yA yn yc, .slice yB ym yd] 25)))
        have HW6 := hide (HWr.out _ HM6.out y HYi.out (by rw [hyv]; exact HRg.out) (by rw [hyv]; have := HL2.out; omega) (by rw [hyv]; exact HMy.out))
        rw [hyc] at HW6
        have HCy := hide hyc
        have HYv := hide hyv
        have HYb := hide hyb
        have HY6 := hide HY6
        clear hyc hyv hyi m6 HR6 hyb
        go_wp2_with fail
        refine HW6.out.mono ?_
        rintro en w7 ⟨P2, rfl, hP2, m7⟩
        have HM7 := hide (HM6.out.trans m7 (by simp))
        have HY7 := hide (m7.blk HY6.out (by simp))
        have HYi7 := hide (HYi.out.new m7)
        have hps : P2.size ≤ 61440 := by rw [← bytes_len, hP2, HYv.out]; exact HL2.out
        have HR7 := hide (HRd.out _ HM7.out P2 (by omega) v2 0 0 (by rw [hP2, HYv.out]; exact jread_wr HMy.out HRg.out))
        clear hP2 m7 hps HW6
        go_wp2_with fail
        refine HR7.out.mono ?_
        rintro en w8 ⟨z, zk, zi, zt, zA, zn, zc, zB, zm, zd, hzc, rfl, hzv, hzi, m8⟩
        have HM8 := hide ((HM7.out.trans m8 (by simp)).alloc (.cells #[.int .i64 zk, .int .i64 zi, .string zt, .slice zA zn zc, .slice zB zm zd] 25))
        have HY8 := hide ((m8.blk HY7.out (by simp)).alloc (.cells #[.int .i64 zk, .int .i64 zi, .string zt, .slice zA zn zc, .slice zB zm zd] 25))
        have HYi8 := hide ((HYi7.out.new m8).new ((Mod.refl [] w8).alloc (.cells #[.int .i64 zk, .int .i64 zi, .string zt, .slice zA zn zc, .slice zB zm zd] 25)))
        have HSm := hide (same_any _ y z HYi8.out (hzi.new ((Mod.refl [] w8).alloc (.cells #[.int .i64 zk, .int .i64 zi, .string zt, .slice zA zn zc, .slice zB zm zd] 25))) true (by rw [HYv.out, hzv]; exact (jsame_iff _ _).2 rfl))
        rw [HCy.out, hzc] at HSm
        have hyb := HYb.out
        have r0 : (w8.alloc (.cells #[.int .i64 zk, .int .i64 zi, .string zt, .slice zA zn zc, .slice zB zm zd] 25)).cell? ⟨w6.heap.size, 0, none⟩ = some (.int .i64 yk) := HY8.out.cell 0
        have r1 : (w8.alloc (.cells #[.int .i64 zk, .int .i64 zi, .string zt, .slice zA zn zc, .slice zB zm zd] 25)).cell? ⟨w6.heap.size, 1, none⟩ = some (.int .i64 yi) := HY8.out.cell 1
        have r2 : (w8.alloc (.cells #[.int .i64 zk, .int .i64 zi, .string zt, .slice zA zn zc, .slice zB zm zd] 25)).cell? ⟨w6.heap.size, 2, none⟩ = some (.string yt) := HY8.out.cell 2
        have r3 : (w8.alloc (.cells #[.int .i64 zk, .int .i64 zi, .string zt, .slice zA zn zc, .slice zB zm zd] 25)).cell? ⟨w6.heap.size, 3, none⟩ = some (.slice yA yn yc) := HY8.out.cell 3
        have r4 : (w8.alloc (.cells #[.int .i64 zk, .int .i64 zi, .string zt, .slice zA zn zc, .slice zB zm zd] 25)).cell? ⟨w6.heap.size, 4, none⟩ = some (.slice yB ym yd) := HY8.out.cell 4
        clear hzc hzv hzi m8 HR7 hyb
        go_wp2_with fail
        refine HSm.out.mono ?_
        rintro en w9 ⟨rfl, m9⟩
        have HM9 := hide (HM8.out.trans m9 (by simp))
        have HY9 := hide (m9.blk HY8.out (by simp))
        have HMa := hide (may_any _ y (HYi8.out.new m9) true (by rw [HYv.out]; exact HMy.out))
        rw [HCy.out] at HMa
        have s0 : w9.cell? ⟨w6.heap.size, 0, none⟩ = some (.int .i64 yk) := HY9.out.cell 0
        have s1 : w9.cell? ⟨w6.heap.size, 1, none⟩ = some (.int .i64 yi) := HY9.out.cell 1
        have s2 : w9.cell? ⟨w6.heap.size, 2, none⟩ = some (.string yt) := HY9.out.cell 2
        have s3 : w9.cell? ⟨w6.heap.size, 3, none⟩ = some (.slice yA yn yc) := HY9.out.cell 3
        have s4 : w9.cell? ⟨w6.heap.size, 4, none⟩ = some (.slice yB ym yd) := HY9.out.cell 4
        clear m9 HSm r0 r1 r2 r3 r4
        go_wp2_with fail
        refine HMa.out.mono ?_
        rintro en w10 ⟨rfl, m10⟩
        have HM10 := hide (HM9.out.trans m10 (by simp))
        clear m10 HMa s0 s1 s2 s3 s4
        go_wp2_with fail
        go_ret
        exact ⟨rfl, HM10.out.below (Nat.le_refl _) (by simp)⟩
      · obtain ⟨hv0, he2, ha0, hal⟩ := jread_bad HJr.out he
        subst hv0 he2
        obtain ⟨a', rfl⟩ := Int.eq_ofNat_of_zero_le ha0
        have hal2 : (a' : Int) ≤ (s.size : Int) := by have := HSl.out; omega
        have hal3 : (0 : Int) ≤ (a' : Int) := by omega
        clear he ha0 hal
        go_wp2_with fail
        refine HR6.out.mono ?_
        rintro en w6 ⟨y, yk, yi, yt, yA, yn, yc, yB, ym, yd, hyc, rfl, hyv, hyi, m6⟩
        have HM6 := hide ((HM5.out.trans m6 (by simp)).alloc (.cells #[.int .i64 yk, .int .i64 yi, .string yt, .slice yA yn yc, .slice yB ym yd] 25))
        have HSm := hide (same_any (w6.alloc (.cells #[.int .i64 yk, .int .i64 yi, .string yt, .slice yA yn yc, .slice yB ym yd] 25)) y (JN.mk 0 0 ⟨#[]⟩ none 0 [] none 0 []) (hyi.new ((Mod.refl [] w6).alloc (.cells #[.int .i64 yk, .int .i64 yi, .string yt, .slice yA yn yc, .slice yB ym yd] 25))) (JIn.plain _ _ _ _) true (by rw [hyv]; exact (jsame_iff _ _).2 (by unfold jv0; rw [JN.v, JN.vs])))
        rw [hyc] at HSm
        simp only [JN.cells, List.length_nil] at HSm
        clear hyc hyv hyi m6 HR6
        go_wp2_with fail
        refine HSm.out.mono ?_
        rintro en w7 ⟨rfl, m7⟩
        have HM7 := hide (HM6.out.trans m7 (by simp))
        clear m7 HSm
        go_wp2_with fail
        go_ret
        exact ⟨rfl, HM7.out.below (Nat.le_refl _) (by simp)⟩
    | false =>
      have HW2 := hide (HWn.out w2 HM2.out x (HX.out.new HM2.out) HR.out (by have := HSh.out; omega) hbm)
      rw [HCv.out] at HW2
      have HBm := hide hbm
      clear hbm
      go_wp2_with fail
      refine HW2.out.mono ?_
      rintro en w3 ⟨rfl, m3⟩
      have HM3 := hide (HM2.out.trans m3 (by simp))
      have HB3 := hide (m3.blk HB2.out (by simp))
      have HMa := hide (may_any _ x (HX.out.new HM3.out) false HBm.out)
      rw [HCv.out] at HMa
      clear m3 HW2 q0 q1 q2 q3 q4
      have q0 : w3.cell? ⟨W.heap.size, 0, none⟩ = some (.int .i64 vk) := HB3.out.cell 0
      have q1 : w3.cell? ⟨W.heap.size, 1, none⟩ = some (.int .i64 vi) := HB3.out.cell 1
      have q2 : w3.cell? ⟨W.heap.size, 2, none⟩ = some (.string vt) := HB3.out.cell 2
      have q3 : w3.cell? ⟨W.heap.size, 3, none⟩ = some (.slice vA vn vc) := HB3.out.cell 3
      have q4 : w3.cell? ⟨W.heap.size, 4, none⟩ = some (.slice vB vm vd) := HB3.out.cell 4
      go_wp2_with fail
      refine HMa.out.mono ?_
      rintro en w5 ⟨rfl, m5⟩
      have HM5 := hide (HM3.out.trans m5 (by simp))
      clear m5 HMa q0 q1 q2 q3 q4
      obtain ⟨v2, a2, e2, hjr⟩ : ∃ v a e, jread s.data.toList = (v, a, e) := ⟨_, _, _, rfl⟩
      have hss : s.size ≤ 2048 := by have := HS1.out; omega
      have HR6 := hide (HRd.out _ HM5.out s (by omega) v2 a2 e2 hjr)
      have HJr := hide hjr
      have hsl : s.data.toList.length = s.size := bytes_len s
      have HSl := hide hsl
      clear hjr hsl
      by_cases he : e2 = 0
      · subst he
        obtain ⟨hmy, hrg, ha⟩ := jread_may HJr.out
        subst ha
        have hln := jread_len HJr.out
        have HL2 := hide (show (jwr v2).length ≤ 61440 by have := HSl.out; omega)
        have HMy := hide hmy
        have HRg := hide hrg
        clear hmy hrg hln
        go_wp2_with fail
        refine HR6.out.mono ?_
        rintro en w6 ⟨y, yk, yi, yt, yA, yn, yc, yB, ym, yd, hyc, rfl, hyv, hyi, m6⟩
        have HM6 := hide ((HM5.out.trans m6 (by simp)).alloc (.cells #[.int .i64 yk, .int .i64 yi, .string yt, .slice yA yn yc, .slice yB ym yd] 25))
        have HY6 := Blk.new w6 25 #[.int .i64 yk, .int .i64 yi, .string yt, .slice yA yn yc, .slice yB ym yd]
        obtain ⟨yb, hyb⟩ : ∃ yb, w6.heap.size = yb := ⟨_, rfl⟩
        have HYi := hide (hyi.new ((Mod.refl [] w6).alloc (.cells #[.int .i64 yk, .int .i64 yi, .string yt, .slice yA yn yc, .slice yB ym yd] 25)))
        have HW6 := hide (HWr.out _ HM6.out y HYi.out (by rw [hyv]; exact HRg.out) (by rw [hyv]; have := HL2.out; omega) (by rw [hyv]; exact HMy.out))
        rw [hyc] at HW6
        have HCy := hide hyc
        have HYv := hide hyv
        have HYb := hide hyb
        have HY6 := hide HY6
        clear hyc hyv hyi m6 HR6 hyb
        go_wp2_with fail
        refine HW6.out.mono ?_
        rintro en w7 ⟨P2, rfl, hP2, m7⟩
        have HM7 := hide (HM6.out.trans m7 (by simp))
        have HY7 := hide (m7.blk HY6.out (by simp))
        have HYi7 := hide (HYi.out.new m7)
        have hps : P2.size ≤ 61440 := by rw [← bytes_len, hP2, HYv.out]; exact HL2.out
        have HR7 := hide (HRd.out _ HM7.out P2 (by omega) v2 0 0 (by rw [hP2, HYv.out]; exact jread_wr HMy.out HRg.out))
        clear hP2 m7 hps HW6
        go_wp2_with fail
        refine HR7.out.mono ?_
        rintro en w8 ⟨z, zk, zi, zt, zA, zn, zc, zB, zm, zd, hzc, rfl, hzv, hzi, m8⟩
        have HM8 := hide ((HM7.out.trans m8 (by simp)).alloc (.cells #[.int .i64 zk, .int .i64 zi, .string zt, .slice zA zn zc, .slice zB zm zd] 25))
        have HY8 := hide ((m8.blk HY7.out (by simp)).alloc (.cells #[.int .i64 zk, .int .i64 zi, .string zt, .slice zA zn zc, .slice zB zm zd] 25))
        have HYi8 := hide ((HYi7.out.new m8).new ((Mod.refl [] w8).alloc (.cells #[.int .i64 zk, .int .i64 zi, .string zt, .slice zA zn zc, .slice zB zm zd] 25)))
        have HSm := hide (same_any _ y z HYi8.out (hzi.new ((Mod.refl [] w8).alloc (.cells #[.int .i64 zk, .int .i64 zi, .string zt, .slice zA zn zc, .slice zB zm zd] 25))) true (by rw [HYv.out, hzv]; exact (jsame_iff _ _).2 rfl))
        rw [HCy.out, hzc] at HSm
        have hyb := HYb.out
        have r0 : (w8.alloc (.cells #[.int .i64 zk, .int .i64 zi, .string zt, .slice zA zn zc, .slice zB zm zd] 25)).cell? ⟨w6.heap.size, 0, none⟩ = some (.int .i64 yk) := HY8.out.cell 0
        have r1 : (w8.alloc (.cells #[.int .i64 zk, .int .i64 zi, .string zt, .slice zA zn zc, .slice zB zm zd] 25)).cell? ⟨w6.heap.size, 1, none⟩ = some (.int .i64 yi) := HY8.out.cell 1
        have r2 : (w8.alloc (.cells #[.int .i64 zk, .int .i64 zi, .string zt, .slice zA zn zc, .slice zB zm zd] 25)).cell? ⟨w6.heap.size, 2, none⟩ = some (.string yt) := HY8.out.cell 2
        have r3 : (w8.alloc (.cells #[.int .i64 zk, .int .i64 zi, .string zt, .slice zA zn zc, .slice zB zm zd] 25)).cell? ⟨w6.heap.size, 3, none⟩ = some (.slice yA yn yc) := HY8.out.cell 3
        have r4 : (w8.alloc (.cells #[.int .i64 zk, .int .i64 zi, .string zt, .slice zA zn zc, .slice zB zm zd] 25)).cell? ⟨w6.heap.size, 4, none⟩ = some (.slice yB ym yd) := HY8.out.cell 4
        clear hzc hzv hzi m8 HR7 hyb
        go_wp2_with fail
        refine HSm.out.mono ?_
        rintro en w9 ⟨rfl, m9⟩
        have HM9 := hide (HM8.out.trans m9 (by simp))
        have HY9 := hide (m9.blk HY8.out (by simp))
        have HMa := hide (may_any _ y (HYi8.out.new m9) true (by rw [HYv.out]; exact HMy.out))
        rw [HCy.out] at HMa
        have s0 : w9.cell? ⟨w6.heap.size, 0, none⟩ = some (.int .i64 yk) := HY9.out.cell 0
        have s1 : w9.cell? ⟨w6.heap.size, 1, none⟩ = some (.int .i64 yi) := HY9.out.cell 1
        have s2 : w9.cell? ⟨w6.heap.size, 2, none⟩ = some (.string yt) := HY9.out.cell 2
        have s3 : w9.cell? ⟨w6.heap.size, 3, none⟩ = some (.slice yA yn yc) := HY9.out.cell 3
        have s4 : w9.cell? ⟨w6.heap.size, 4, none⟩ = some (.slice yB ym yd) := HY9.out.cell 4
        clear m9 HSm r0 r1 r2 r3 r4
        go_wp2_with fail
        refine HMa.out.mono ?_
        rintro en w10 ⟨rfl, m10⟩
        have HM10 := hide (HM9.out.trans m10 (by simp))
        clear m10 HMa s0 s1 s2 s3 s4
        go_wp2_with fail
        go_ret
        exact ⟨rfl, HM10.out.below (Nat.le_refl _) (by simp)⟩
      · obtain ⟨hv0, he2, ha0, hal⟩ := jread_bad HJr.out he
        subst hv0 he2
        obtain ⟨a', rfl⟩ := Int.eq_ofNat_of_zero_le ha0
        have hal2 : (a' : Int) ≤ (s.size : Int) := by have := HSl.out; omega
        have hal3 : (0 : Int) ≤ (a' : Int) := by omega
        clear he ha0 hal
        go_wp2_with fail
        refine HR6.out.mono ?_
        rintro en w6 ⟨y, yk, yi, yt, yA, yn, yc, yB, ym, yd, hyc, rfl, hyv, hyi, m6⟩
        have HM6 := hide ((HM5.out.trans m6 (by simp)).alloc (.cells #[.int .i64 yk, .int .i64 yi, .string yt, .slice yA yn yc, .slice yB ym yd] 25))
        have HSm := hide (same_any (w6.alloc (.cells #[.int .i64 yk, .int .i64 yi, .string yt, .slice yA yn yc, .slice yB ym yd] 25)) y (JN.mk 0 0 ⟨#[]⟩ none 0 [] none 0 []) (hyi.new ((Mod.refl [] w6).alloc (.cells #[.int .i64 yk, .int .i64 yi, .string yt, .slice yA yn yc, .slice yB ym yd] 25))) (JIn.plain _ _ _ _) true (by rw [hyv]; exact (jsame_iff _ _).2 (by unfold jv0; rw [JN.v, JN.vs])))
        rw [hyc] at HSm
        simp only [JN.cells, List.length_nil] at HSm
        clear hyc hyv hyi m6 HR6
        go_wp2_with fail
        refine HSm.out.mono ?_
        rintro en w7 ⟨rfl, m7⟩
        have HM7 := hide (HM6.out.trans m7 (by simp))
        clear m7 HSm
        go_wp2_with fail
        go_ret
        exact ⟨rfl, HM7.out.below (Nat.le_refl _) (by simp)⟩
end Go.Proofs.YtkbpndohpkcikaaDoor
