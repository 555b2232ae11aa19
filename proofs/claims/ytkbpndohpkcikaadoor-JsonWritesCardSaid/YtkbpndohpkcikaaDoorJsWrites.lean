/-
  JsonWrites: the walk.
-/
import Derived.Test.YtkbpndohpkcikaaDoorJsRf4
import Derived.Test.YtkbpndohpkcikaaDoorJsRf5
namespace Go.Proofs.YtkbpndohpkcikaaDoor
open Go.RowKit Js Go.Sort
set_option linter.unusedVariables false
set_option linter.unusedSimpArgs false
/-- the document's Get: the value's cells apart -/
theorem rgetL (w : World) (x : JN) (key : ByteArray) (hx : JIn w x) :
    Calls Tryd.prog 14 #[.agg x.cells, .string key] w fun en w' => ∃ (y : JN) (b : Bool) (yk yi : Int) (yt : ByteArray) (yA : Option Addr) (yn yc : Nat) (yB : Option Addr) (ym yd : Nat), y.cells = #[.int .i64 yk, .int .i64 yi, .string yt, .slice yA yn yc, .slice yB ym yd] ∧ en = .returned (.tuple #[.agg #[.int .i64 yk, .int .i64 yi, .string yt, .slice yA yn yc, .slice yB ym yd], .bool b]) ∧ GetP x.v key y.v b ∧ JIn w' y ∧ Mod [] w w' := by
  refine (rget_any w x key hx).mono ?_
  rintro en w' ⟨y, b, rfl, h1, h2, h3⟩
  obtain ⟨A, c, n, B, d, m, hc, _, _⟩ := y.open5
  exact ⟨y, b, _, _, _, _, _, _, _, _, _, hc, by rw [hc], h1, h2, h3⟩
set_option maxRecDepth 100000 in
set_option maxHeartbeats 8000000 in
theorem walkJsonWrites (x : JN) {W : World} (hx : JIn W x) (hr : jrng x.v = true) (key : ByteArray) (_hs : key.size ≤ maxLen) (hj : JVars W.heap.size W) :
    Calls Tryd.prog 3 #[.agg x.cells, .string key] W fun e w' => e = .returned (.bool true) ∧ Below W.heap.size W w' := by
  have HAw := hide (fun (w' : World) (m : Mod [] W w') => awake_any w' W.heap.size m.size (hj.mod m (Nat.le_refl _) (by simp)))
  have HRd := hide (fun (w' : World) (m : Mod [] W w') (s : ByteArray) (hs : s.size ≤ 1000000) (v : JV) (a e : Int) (hr : jread s.data.toList = (v, a, e)) => readL w' s hs W.heap.size m.size (hj.mod m (Nat.le_refl _) (by simp)) hr)
  have HWr := hide (fun (w' : World) (m : Mod [] W w') (u : JN) (hu : JIn w' u) (hr : jrng u.v = true) (hl : (jwr u.v).length ≤ 1099511627776) (hb : jmay 8 u.v = true) => writeL w' u hu hr hl W.heap.size m.size (hj.mod m (Nat.le_refl _) (by simp)) hb)
  have HWn := hide (fun (w' : World) (m : Mod [] W w') (u : JN) (hu : JIn w' u) (hr : jrng u.v = true) (hl : (jwr u.v).length ≤ 1099511627776) (hb : jmay 8 u.v = false) => writeN w' u hu hr hl W.heap.size m.size (hj.mod m (Nat.le_refl _) (by simp)) hb)
  obtain ⟨vA, vc, vn, vB, vd, vm, hcv, hvn, hvm⟩ := x.open5
  have hka := JN.keysAt hx hcv
  have hra := fun (j : Nat) (y : JV) (h : x.v.l[j]? = some y) => JN.rows hx hcv h
  obtain ⟨vk, vi, vt, vl, vks, hxv⟩ : ∃ vk vi vt vl vks, x.v = JV.mk vk vi vt vl vks := by
    cases x.v
    exact ⟨_, _, _, _, _, rfl⟩
  simp only [hxv, JV.k, JV.i, JV.t, JV.l, JV.ks] at hcv hvn hvm hka hra
  have HCv := hide hcv
  have HX := hide hx
  have HXv := hide hxv
  have HVn := hide hvn
  have HVm := hide hvm
  have HKa := hide hka
  have HRa := hide hra
  have HR := hide hr
  have HLg := hide (fun (w' : World) (m : Mod [] W w') (b : Bool) (hb : decide (2048 ≤ jwt 21 x.v) = b) => large_any w' x (hx.new m) b hb)
  rw [hcv] at HLg ⊢
  have HM0 := hide ((Mod.refl [] W).alloc (.cells #[.int .i64 vk, .int .i64 vi, .string vt, .slice vA vn vc, .slice vB vm vd] 25))
  have HB0 := hide (Blk.new W 25 #[.int .i64 vk, .int .i64 vi, .string vt, .slice vA vn vc, .slice vB vm vd])
  clear hx hr hj hcv hxv hvn hvm hka hra
  go_enter Tryd.func3, Tryd.ntmps3
  go_wp2_with fail
  refine (HAw.out _ HM0.out).mono ?_
  rintro en w1 ⟨rfl, m1⟩
  have HM1 := hide (HM0.out.trans m1 (by simp))
  have HB1 := hide (m1.blk HB0.out (by simp))
  have q0 : w1.cell? ⟨W.heap.size, 0, none⟩ = some (.int .i64 vk) := HB1.out.cell 0
  have q1 : w1.cell? ⟨W.heap.size, 1, none⟩ = some (.int .i64 vi) := HB1.out.cell 1
  have q2 : w1.cell? ⟨W.heap.size, 2, none⟩ = some (.string vt) := HB1.out.cell 2
  have q3 : w1.cell? ⟨W.heap.size, 3, none⟩ = some (.slice vA vn vc) := HB1.out.cell 3
  have q4 : w1.cell? ⟨W.heap.size, 4, none⟩ = some (.slice vB vm vd) := HB1.out.cell 4
  obtain ⟨b, hb⟩ : ∃ b, decide (2048 ≤ jwt 21 x.v) = b := ⟨_, rfl⟩
  have HL1 := hide (HLg.out w1 HM1.out b hb)
  have HWt := hide hb
  clear hb HLg m1
  go_wp2_with fail
  refine HL1.out.mono ?_
  rintro en w2 ⟨rfl, m2⟩
  have HM2 := hide (HM1.out.trans m2 (by simp))
  have HB2 := hide (m2.blk HB1.out (by simp))
  clear m2 q0 q1 q2 q3 q4
  cases b with
  | true =>
    go_wp2_with fail
    go_ret
    exact ⟨rfl, HM2.out.below (Nat.le_refl _) (by simp)⟩
  | false =>
    have hwt : jwt 21 x.v < 2048 := by have := of_decide_eq_false HWt.out; omega
    have hsh := jwr_short hwt HR.out
    have HSh := hide hsh
    have hwt2 := hwt
    rw [HXv.out] at hwt2
    obtain ⟨_, hpt⟩ := jwt_parts hwt2
    have hln : vl.length ≤ jws (21 - 1) vl := jws_len (by omega)
    have hvn2 : vn < 2048 := by have := HVn.out; omega
    have hvm2 : vm < 2048 := by have := HVm.out; omega
    have HWx := hide hwt
    clear hwt hwt2 hpt hln hsh
    by_cases hs1 : 2048 < key.size
    · have f1 : (2048 : Int) < (key.size : Int) := by omega
      clear hs1
      go_wp2_with fail
      go_ret
      exact ⟨rfl, HM2.out.below (Nat.le_refl _) (by simp)⟩
    have f1 : decide ((2048 : Int) < (key.size : Int)) = false := decide_eq_false (by omega)
    have f1n : decide (2048 < key.size) = false := decide_eq_false (by omega)
    have HS1 := hide hs1
    clear hs1
    have q0 : w2.cell? ⟨W.heap.size, 0, none⟩ = some (.int .i64 vk) := HB2.out.cell 0
    have q1 : w2.cell? ⟨W.heap.size, 1, none⟩ = some (.int .i64 vi) := HB2.out.cell 1
    have q2 : w2.cell? ⟨W.heap.size, 2, none⟩ = some (.string vt) := HB2.out.cell 2
    have q3 : w2.cell? ⟨W.heap.size, 3, none⟩ = some (.slice vA vn vc) := HB2.out.cell 3
    have q4 : w2.cell? ⟨W.heap.size, 4, none⟩ = some (.slice vB vm vd) := HB2.out.cell 4
    obtain ⟨bm, hbm⟩ : ∃ bm, jmay 8 x.v = bm := ⟨_, rfl⟩
    cases bm with
    | true =>
      have HW2 := hide (HWr.out w2 HM2.out x (HX.out.new HM2.out) HR.out (by have := HSh.out; omega) hbm)
      rw [HCv.out] at HW2
      have HBm := hide hbm
      clear hbm
      go_wp2_with fail
      refine HW2.out.mono ?_
      rintro en w3 ⟨P, rfl, hP, m3⟩
      have HM3 := hide (HM2.out.trans m3 (by simp))
      have HB3 := hide (m3.blk HB2.out (by simp))
      have HP := hide hP
      have HW3 := hide (rwriteL w3 x (HX.out.new HM3.out) HR.out (by have := HSh.out; omega) HBm.out)
      rw [HCv.out] at HW3
      have u0 : w3.cell? ⟨W.heap.size, 0, none⟩ = some (.int .i64 vk) := HB3.out.cell 0
      have u1 : w3.cell? ⟨W.heap.size, 1, none⟩ = some (.int .i64 vi) := HB3.out.cell 1
      have u2 : w3.cell? ⟨W.heap.size, 2, none⟩ = some (.string vt) := HB3.out.cell 2
      have u3 : w3.cell? ⟨W.heap.size, 3, none⟩ = some (.slice vA vn vc) := HB3.out.cell 3
      have u4 : w3.cell? ⟨W.heap.size, 4, none⟩ = some (.slice vB vm vd) := HB3.out.cell 4
      clear m3 hP HW2 q0 q1 q2 q3 q4
      go_wp2_with fail
      refine HW3.out.mono ?_
      rintro en w4 ⟨P', rfl, hP', m4⟩
      have hPP : P = P' := ByteArray.ext (Array.ext' (by rw [HP.out, hP']))
      subst hPP
      have g3 := toList_same P
      have HM4 := hide (HM3.out.trans m4 (by simp))
      have HB4 := hide (m4.blk HB3.out (by simp))
      have HG4 := hide (getL w4 x key (HX.out.new HM4.out))
      rw [HCv.out] at HG4
      have t0 : w4.cell? ⟨W.heap.size, 0, none⟩ = some (.int .i64 vk) := HB4.out.cell 0
      have t1 : w4.cell? ⟨W.heap.size, 1, none⟩ = some (.int .i64 vi) := HB4.out.cell 1
      have t2 : w4.cell? ⟨W.heap.size, 2, none⟩ = some (.string vt) := HB4.out.cell 2
      have t3 : w4.cell? ⟨W.heap.size, 3, none⟩ = some (.slice vA vn vc) := HB4.out.cell 3
      have t4 : w4.cell? ⟨W.heap.size, 4, none⟩ = some (.slice vB vm vd) := HB4.out.cell 4
      clear m4 HW3 u0 u1 u2 u3 u4
      go_wp2_with fail
      refine HG4.out.mono ?_
      rintro en w5 ⟨y, b1, yk, yi, yt, yA, yn, yc, yB, ym, yd, hyc, rfl, hg1, hyi, m5⟩
      have HM5 := hide ((HM4.out.trans m5 (by simp)).alloc (.cells #[.int .i64 yk, .int .i64 yi, .string yt, .slice yA yn yc, .slice yB ym yd] 25))
      have HB5 := hide ((m5.blk HB4.out (by simp)).alloc (.cells #[.int .i64 yk, .int .i64 yi, .string yt, .slice yA yn yc, .slice yB ym yd] 25))
      have HY5 := hide (Blk.new w5 25 #[.int .i64 yk, .int .i64 yi, .string yt, .slice yA yn yc, .slice yB ym yd])
      have HYi := hide (hyi.new ((Mod.refl [] w5).alloc (.cells #[.int .i64 yk, .int .i64 yi, .string yt, .slice yA yn yc, .slice yB ym yd] 25)))
      have HCy := hide hyc
      have HG1 := hide hg1
      obtain ⟨yb, hyb⟩ : ∃ yb, w5.heap.size = yb := ⟨_, rfl⟩
      rw [hyb] at HY5
      have HG5 := hide (rgetL _ x key (HX.out.new HM5.out))
      rw [HCv.out] at HG5
      have q0' : (w5.alloc (.cells #[.int .i64 yk, .int .i64 yi, .string yt, .slice yA yn yc, .slice yB ym yd] 25)).cell? ⟨W.heap.size, 0, none⟩ = some (.int .i64 vk) := HB5.out.cell 0
      have q1' : (w5.alloc (.cells #[.int .i64 yk, .int .i64 yi, .string yt, .slice yA yn yc, .slice yB ym yd] 25)).cell? ⟨W.heap.size, 1, none⟩ = some (.int .i64 vi) := HB5.out.cell 1
      have q2' : (w5.alloc (.cells #[.int .i64 yk, .int .i64 yi, .string yt, .slice yA yn yc, .slice yB ym yd] 25)).cell? ⟨W.heap.size, 2, none⟩ = some (.string vt) := HB5.out.cell 2
      have q3' : (w5.alloc (.cells #[.int .i64 yk, .int .i64 yi, .string yt, .slice yA yn yc, .slice yB ym yd] 25)).cell? ⟨W.heap.size, 3, none⟩ = some (.slice vA vn vc) := HB5.out.cell 3
      have q4' : (w5.alloc (.cells #[.int .i64 yk, .int .i64 yi, .string yt, .slice yA yn yc, .slice yB ym yd] 25)).cell? ⟨W.heap.size, 4, none⟩ = some (.slice vB vm vd) := HB5.out.cell 4
      clear hyc hg1 hyi m5 HG4 t0 t1 t2 t3 t4
      go_wp2_with fail
      refine HG5.out.mono ?_
      rintro en w6 ⟨z, b2, zk, zi, zt, zA, zn, zc, zB, zm, zd, hzc, rfl, hg2, hzi, m6⟩
      obtain ⟨hyz, hb12⟩ := HG1.out.same hg2
      subst hb12
      have HM6 := hide ((HM5.out.trans m6 (by simp)).alloc (.cells #[.int .i64 zk, .int .i64 zi, .string zt, .slice zA zn zc, .slice zB zm zd] 25))
      have HB6 := hide ((m6.blk HB5.out (by simp)).alloc (.cells #[.int .i64 zk, .int .i64 zi, .string zt, .slice zA zn zc, .slice zB zm zd] 25))
      have HY6 := hide ((m6.blk HY5.out (by simp)).alloc (.cells #[.int .i64 zk, .int .i64 zi, .string zt, .slice zA zn zc, .slice zB zm zd] 25))
      have HZ6 := hide (Blk.new w6 25 #[.int .i64 zk, .int .i64 zi, .string zt, .slice zA zn zc, .slice zB zm zd])
      have HYi6 := hide ((HYi.out.new m6).new ((Mod.refl [] w6).alloc (.cells #[.int .i64 zk, .int .i64 zi, .string zt, .slice zA zn zc, .slice zB zm zd] 25)))
      have HZi6 := hide (hzi.new ((Mod.refl [] w6).alloc (.cells #[.int .i64 zk, .int .i64 zi, .string zt, .slice zA zn zc, .slice zB zm zd] 25)))
      obtain ⟨zb, hzb⟩ : ∃ zb, w6.heap.size = zb := ⟨_, rfl⟩
      rw [hzb] at HZ6
      have HCz := hide hzc
      have HYz := hide hyz
      obtain ⟨wz, hwz⟩ : ∃ wz, w6.alloc (.cells #[.int .i64 zk, .int .i64 zi, .string zt, .slice zA zn zc, .slice zB zm zd] 25) = wz := ⟨_, rfl⟩
      rw [hwz] at HM6 HB6 HY6 HZ6 HYi6 HZi6
      have HWz := hide hwz
      clear hzc hg2 hzi hyz m6 HG5 q0' q1' q2' q3' q4'
      go_wp2_with fail
      try rw [hzb]
      try rw [hwz]
      clear hwz hzb hyb
      have mg : ∀ d os, Mod [] wz (grow (redrawn wz d) os) := fun d os => Mod.of_below (below_regrown wz d os)
      have cM : ∀ d os, Calls Tryd.prog 15 #[.agg #[.int .i64 vk, .int .i64 vi, .string vt, .slice vA vn vc, .slice vB vm vd]] (grow (redrawn wz d) os) fun e w'' => e = .returned (.bool true) ∧ ∃ p : Regrown, w'' = grow (redrawn wz p.d) p.os := fun d os => by
        have hs := may_any _ x ((HX.out.new HM6.out).new (mg d os)) true HBm.out
        rw [HCv.out] at hs
        exact Calls.regrown_of (hs.mono fun _ _ h => ⟨h.1, h.2.below (Nat.le_refl _) (by simp)⟩)
      have cR : ∀ d os, Calls Tryd.prog 16 #[.agg #[.int .i64 vk, .int .i64 vi, .string vt, .slice vA vn vc, .slice vB vm vd]] (grow (redrawn wz d) os) fun e w'' => e = .returned (.bool true) ∧ ∃ p : Regrown, w'' = grow (redrawn wz p.d) p.os := fun d os => by
        have hs := rmay_any _ x ((HX.out.new HM6.out).new (mg d os)) true HBm.out
        rw [HCv.out] at hs
        exact Calls.regrown_of (hs.mono fun _ _ h => ⟨h.1, h.2.below (Nat.le_refl _) (by simp)⟩)
      have cS : ∀ d os, Calls Tryd.prog 17 #[.agg #[.int .i64 yk, .int .i64 yi, .string yt, .slice yA yn yc, .slice yB ym yd], .agg #[.int .i64 zk, .int .i64 zi, .string zt, .slice zA zn zc, .slice zB zm zd]] (grow (redrawn wz d) os) fun e w'' => e = .returned (.bool true) ∧ ∃ p : Regrown, w'' = grow (redrawn wz p.d) p.os := fun d os => by
        have hs := rsame_any _ y z HYz.out (HYi6.out.new (mg d os)) (HZi6.out.new (mg d os))
        rw [HCy.out, HCz.out] at hs
        exact Calls.regrown_of (hs.mono fun _ _ h => ⟨h.1, h.2.below (Nat.le_refl _) (by simp)⟩)
      have cJ : ∀ d os, Calls Tryd.prog 18 #[.agg #[.int .i64 vk, .int .i64 vi, .string vt, .slice vA vn vc, .slice vB vm vd], .agg #[.int .i64 vk, .int .i64 vi, .string vt, .slice vA vn vc, .slice vB vm vd]] (grow (redrawn wz d) os) fun e w'' => e = .returned (.bool true) ∧ ∃ p : Regrown, w'' = grow (redrawn wz p.d) p.os := fun d os => by
        have hs := same_any _ x x ((HX.out.new HM6.out).new (mg d os)) ((HX.out.new HM6.out).new (mg d os)) true ((jsame_iff _ _).2 rfl)
        rw [HCv.out] at hs
        exact Calls.regrown_of (hs.mono fun _ _ h => ⟨h.1, h.2.below (Nat.le_refl _) (by simp)⟩)
      have CM := hide cM
      have CR := hide cR
      have CS := hide cS
      have CJ := hide cJ
      have a0 : ∀ d os, (grow (redrawn wz d) os).cell? ⟨W.heap.size, 0, none⟩ = some (.int .i64 vk) := cell_regrown (HB6.out.cell 0)
      have a1 : ∀ d os, (grow (redrawn wz d) os).cell? ⟨W.heap.size, 1, none⟩ = some (.int .i64 vi) := cell_regrown (HB6.out.cell 1)
      have a2 : ∀ d os, (grow (redrawn wz d) os).cell? ⟨W.heap.size, 2, none⟩ = some (.string vt) := cell_regrown (HB6.out.cell 2)
      have a3 : ∀ d os, (grow (redrawn wz d) os).cell? ⟨W.heap.size, 3, none⟩ = some (.slice vA vn vc) := cell_regrown (HB6.out.cell 3)
      have a4 : ∀ d os, (grow (redrawn wz d) os).cell? ⟨W.heap.size, 4, none⟩ = some (.slice vB vm vd) := cell_regrown (HB6.out.cell 4)
      have b0 : ∀ d os, (grow (redrawn wz d) os).cell? ⟨yb, 0, none⟩ = some (.int .i64 yk) := cell_regrown (HY6.out.cell 0)
      have b1 : ∀ d os, (grow (redrawn wz d) os).cell? ⟨yb, 1, none⟩ = some (.int .i64 yi) := cell_regrown (HY6.out.cell 1)
      have b2 : ∀ d os, (grow (redrawn wz d) os).cell? ⟨yb, 2, none⟩ = some (.string yt) := cell_regrown (HY6.out.cell 2)
      have b3 : ∀ d os, (grow (redrawn wz d) os).cell? ⟨yb, 3, none⟩ = some (.slice yA yn yc) := cell_regrown (HY6.out.cell 3)
      have b4 : ∀ d os, (grow (redrawn wz d) os).cell? ⟨yb, 4, none⟩ = some (.slice yB ym yd) := cell_regrown (HY6.out.cell 4)
      have c0 : ∀ d os, (grow (redrawn wz d) os).cell? ⟨zb, 0, none⟩ = some (.int .i64 zk) := cell_regrown (HZ6.out.cell 0)
      have c1 : ∀ d os, (grow (redrawn wz d) os).cell? ⟨zb, 1, none⟩ = some (.int .i64 zi) := cell_regrown (HZ6.out.cell 1)
      have c2 : ∀ d os, (grow (redrawn wz d) os).cell? ⟨zb, 2, none⟩ = some (.string zt) := cell_regrown (HZ6.out.cell 2)
      have c3 : ∀ d os, (grow (redrawn wz d) os).cell? ⟨zb, 3, none⟩ = some (.slice zA zn zc) := cell_regrown (HZ6.out.cell 3)
      have c4 : ∀ d os, (grow (redrawn wz d) os).cell? ⟨zb, 4, none⟩ = some (.slice zB zm zd) := cell_regrown (HZ6.out.cell 4)
      clear mg cM cR cS cJ
      refine wp_region_below (by kernel_rfl) (by kernel_rfl) (by kernel_rfl) ?_
      repeat (go_big_quiet_step (first | with_reducible exact CM.out _ _ | with_reducible exact CR.out _ _ | with_reducible exact CS.out _ _ | with_reducible exact CJ.out _ _))
      refine wpQuiet_nil ?_
      intro _ hw'
      obtain ⟨⟨dq, osq⟩, hw''⟩ := hw'
      subst hw''
      have HM7 := hide (HM6.out.trans (Mod.of_below (F := []) (below_regrown wz dq osq)) (by simp))
      go_wp2_with fail
      go_ret
      exact ⟨rfl, HM7.out.below (Nat.le_refl _) (by simp)⟩
    | false =>
      have HW2 := hide (HWn.out w2 HM2.out x (HX.out.new HM2.out) HR.out (by have := HSh.out; omega) hbm)
      rw [HCv.out] at HW2
      have HBm := hide hbm
      clear hbm
      go_wp2_with fail
      refine HW2.out.mono ?_
      rintro en w3 ⟨rfl, m3⟩
      have HM3 := hide (HM2.out.trans m3 (by simp))
      have HB3 := hide (m3.blk HB2.out (by simp))
      have HW3 := hide (rwriteN w3 x (HX.out.new HM3.out) HBm.out)
      rw [HCv.out] at HW3
      have u0 : w3.cell? ⟨W.heap.size, 0, none⟩ = some (.int .i64 vk) := HB3.out.cell 0
      have u1 : w3.cell? ⟨W.heap.size, 1, none⟩ = some (.int .i64 vi) := HB3.out.cell 1
      have u2 : w3.cell? ⟨W.heap.size, 2, none⟩ = some (.string vt) := HB3.out.cell 2
      have u3 : w3.cell? ⟨W.heap.size, 3, none⟩ = some (.slice vA vn vc) := HB3.out.cell 3
      have u4 : w3.cell? ⟨W.heap.size, 4, none⟩ = some (.slice vB vm vd) := HB3.out.cell 4
      clear m3 HW2 q0 q1 q2 q3 q4
      go_wp2_with fail
      refine HW3.out.mono ?_
      rintro en w4 ⟨rfl, m4⟩
      have HM4 := hide (HM3.out.trans m4 (by simp))
      have HB4 := hide (m4.blk HB3.out (by simp))
      have HG4 := hide (getL w4 x key (HX.out.new HM4.out))
      rw [HCv.out] at HG4
      have t0 : w4.cell? ⟨W.heap.size, 0, none⟩ = some (.int .i64 vk) := HB4.out.cell 0
      have t1 : w4.cell? ⟨W.heap.size, 1, none⟩ = some (.int .i64 vi) := HB4.out.cell 1
      have t2 : w4.cell? ⟨W.heap.size, 2, none⟩ = some (.string vt) := HB4.out.cell 2
      have t3 : w4.cell? ⟨W.heap.size, 3, none⟩ = some (.slice vA vn vc) := HB4.out.cell 3
      have t4 : w4.cell? ⟨W.heap.size, 4, none⟩ = some (.slice vB vm vd) := HB4.out.cell 4
      clear m4 HW3 u0 u1 u2 u3 u4
      go_wp2_with fail
      refine HG4.out.mono ?_
      rintro en w5 ⟨y, b1, yk, yi, yt, yA, yn, yc, yB, ym, yd, hyc, rfl, hg1, hyi, m5⟩
      have HM5 := hide ((HM4.out.trans m5 (by simp)).alloc (.cells #[.int .i64 yk, .int .i64 yi, .string yt, .slice yA yn yc, .slice yB ym yd] 25))
      have HB5 := hide ((m5.blk HB4.out (by simp)).alloc (.cells #[.int .i64 yk, .int .i64 yi, .string yt, .slice yA yn yc, .slice yB ym yd] 25))
      have HY5 := hide (Blk.new w5 25 #[.int .i64 yk, .int .i64 yi, .string yt, .slice yA yn yc, .slice yB ym yd])
      have HYi := hide (hyi.new ((Mod.refl [] w5).alloc (.cells #[.int .i64 yk, .int .i64 yi, .string yt, .slice yA yn yc, .slice yB ym yd] 25)))
      have HCy := hide hyc
      have HG1 := hide hg1
      obtain ⟨yb, hyb⟩ : ∃ yb, w5.heap.size = yb := ⟨_, rfl⟩
      rw [hyb] at HY5
      have HG5 := hide (rgetL _ x key (HX.out.new HM5.out))
      rw [HCv.out] at HG5
      have q0' : (w5.alloc (.cells #[.int .i64 yk, .int .i64 yi, .string yt, .slice yA yn yc, .slice yB ym yd] 25)).cell? ⟨W.heap.size, 0, none⟩ = some (.int .i64 vk) := HB5.out.cell 0
      have q1' : (w5.alloc (.cells #[.int .i64 yk, .int .i64 yi, .string yt, .slice yA yn yc, .slice yB ym yd] 25)).cell? ⟨W.heap.size, 1, none⟩ = some (.int .i64 vi) := HB5.out.cell 1
      have q2' : (w5.alloc (.cells #[.int .i64 yk, .int .i64 yi, .string yt, .slice yA yn yc, .slice yB ym yd] 25)).cell? ⟨W.heap.size, 2, none⟩ = some (.string vt) := HB5.out.cell 2
      have q3' : (w5.alloc (.cells #[.int .i64 yk, .int .i64 yi, .string yt, .slice yA yn yc, .slice yB ym yd] 25)).cell? ⟨W.heap.size, 3, none⟩ = some (.slice vA vn vc) := HB5.out.cell 3
      have q4' : (w5.alloc (.cells #[.int .i64 yk, .int .i64 yi, .string yt, .slice yA yn yc, .slice yB ym yd] 25)).cell? ⟨W.heap.size, 4, none⟩ = some (.slice vB vm vd) := HB5.out.cell 4
      clear hyc hg1 hyi m5 HG4 t0 t1 t2 t3 t4
      go_wp2_with fail
      refine HG5.out.mono ?_
      rintro en w6 ⟨z, b2, zk, zi, zt, zA, zn, zc, zB, zm, zd, hzc, rfl, hg2, hzi, m6⟩
      obtain ⟨hyz, hb12⟩ := HG1.out.same hg2
      subst hb12
      have HM6 := hide ((HM5.out.trans m6 (by simp)).alloc (.cells #[.int .i64 zk, .int .i64 zi, .string zt, .slice zA zn zc, .slice zB zm zd] 25))
      have HB6 := hide ((m6.blk HB5.out (by simp)).alloc (.cells #[.int .i64 zk, .int .i64 zi, .string zt, .slice zA zn zc, .slice zB zm zd] 25))
      have HY6 := hide ((m6.blk HY5.out (by simp)).alloc (.cells #[.int .i64 zk, .int .i64 zi, .string zt, .slice zA zn zc, .slice zB zm zd] 25))
      have HZ6 := hide (Blk.new w6 25 #[.int .i64 zk, .int .i64 zi, .string zt, .slice zA zn zc, .slice zB zm zd])
      have HYi6 := hide ((HYi.out.new m6).new ((Mod.refl [] w6).alloc (.cells #[.int .i64 zk, .int .i64 zi, .string zt, .slice zA zn zc, .slice zB zm zd] 25)))
      have HZi6 := hide (hzi.new ((Mod.refl [] w6).alloc (.cells #[.int .i64 zk, .int .i64 zi, .string zt, .slice zA zn zc, .slice zB zm zd] 25)))
      obtain ⟨zb, hzb⟩ : ∃ zb, w6.heap.size = zb := ⟨_, rfl⟩
      rw [hzb] at HZ6
      have HCz := hide hzc
      have HYz := hide hyz
      obtain ⟨wz, hwz⟩ : ∃ wz, w6.alloc (.cells #[.int .i64 zk, .int .i64 zi, .string zt, .slice zA zn zc, .slice zB zm zd] 25) = wz := ⟨_, rfl⟩
      rw [hwz] at HM6 HB6 HY6 HZ6 HYi6 HZi6
      have HWz := hide hwz
      clear hzc hg2 hzi hyz m6 HG5 q0' q1' q2' q3' q4'
      go_wp2_with fail
      try rw [hzb]
      try rw [hwz]
      clear hwz hzb hyb
      have mg : ∀ d os, Mod [] wz (grow (redrawn wz d) os) := fun d os => Mod.of_below (below_regrown wz d os)
      have cM : ∀ d os, Calls Tryd.prog 15 #[.agg #[.int .i64 vk, .int .i64 vi, .string vt, .slice vA vn vc, .slice vB vm vd]] (grow (redrawn wz d) os) fun e w'' => e = .returned (.bool false) ∧ ∃ p : Regrown, w'' = grow (redrawn wz p.d) p.os := fun d os => by
        have hs := may_any _ x ((HX.out.new HM6.out).new (mg d os)) false HBm.out
        rw [HCv.out] at hs
        exact Calls.regrown_of (hs.mono fun _ _ h => ⟨h.1, h.2.below (Nat.le_refl _) (by simp)⟩)
      have cR : ∀ d os, Calls Tryd.prog 16 #[.agg #[.int .i64 vk, .int .i64 vi, .string vt, .slice vA vn vc, .slice vB vm vd]] (grow (redrawn wz d) os) fun e w'' => e = .returned (.bool false) ∧ ∃ p : Regrown, w'' = grow (redrawn wz p.d) p.os := fun d os => by
        have hs := rmay_any _ x ((HX.out.new HM6.out).new (mg d os)) false HBm.out
        rw [HCv.out] at hs
        exact Calls.regrown_of (hs.mono fun _ _ h => ⟨h.1, h.2.below (Nat.le_refl _) (by simp)⟩)
      have cS : ∀ d os, Calls Tryd.prog 17 #[.agg #[.int .i64 yk, .int .i64 yi, .string yt, .slice yA yn yc, .slice yB ym yd], .agg #[.int .i64 zk, .int .i64 zi, .string zt, .slice zA zn zc, .slice zB zm zd]] (grow (redrawn wz d) os) fun e w'' => e = .returned (.bool true) ∧ ∃ p : Regrown, w'' = grow (redrawn wz p.d) p.os := fun d os => by
        have hs := rsame_any _ y z HYz.out (HYi6.out.new (mg d os)) (HZi6.out.new (mg d os))
        rw [HCy.out, HCz.out] at hs
        exact Calls.regrown_of (hs.mono fun _ _ h => ⟨h.1, h.2.below (Nat.le_refl _) (by simp)⟩)
      have cJ : ∀ d os, Calls Tryd.prog 18 #[.agg #[.int .i64 vk, .int .i64 vi, .string vt, .slice vA vn vc, .slice vB vm vd], .agg #[.int .i64 vk, .int .i64 vi, .string vt, .slice vA vn vc, .slice vB vm vd]] (grow (redrawn wz d) os) fun e w'' => e = .returned (.bool true) ∧ ∃ p : Regrown, w'' = grow (redrawn wz p.d) p.os := fun d os => by
        have hs := same_any _ x x ((HX.out.new HM6.out).new (mg d os)) ((HX.out.new HM6.out).new (mg d os)) true ((jsame_iff _ _).2 rfl)
        rw [HCv.out] at hs
        exact Calls.regrown_of (hs.mono fun _ _ h => ⟨h.1, h.2.below (Nat.le_refl _) (by simp)⟩)
      have CM := hide cM
      have CR := hide cR
      have CS := hide cS
      have CJ := hide cJ
      have a0 : ∀ d os, (grow (redrawn wz d) os).cell? ⟨W.heap.size, 0, none⟩ = some (.int .i64 vk) := cell_regrown (HB6.out.cell 0)
      have a1 : ∀ d os, (grow (redrawn wz d) os).cell? ⟨W.heap.size, 1, none⟩ = some (.int .i64 vi) := cell_regrown (HB6.out.cell 1)
      have a2 : ∀ d os, (grow (redrawn wz d) os).cell? ⟨W.heap.size, 2, none⟩ = some (.string vt) := cell_regrown (HB6.out.cell 2)
      have a3 : ∀ d os, (grow (redrawn wz d) os).cell? ⟨W.heap.size, 3, none⟩ = some (.slice vA vn vc) := cell_regrown (HB6.out.cell 3)
      have a4 : ∀ d os, (grow (redrawn wz d) os).cell? ⟨W.heap.size, 4, none⟩ = some (.slice vB vm vd) := cell_regrown (HB6.out.cell 4)
      have b0 : ∀ d os, (grow (redrawn wz d) os).cell? ⟨yb, 0, none⟩ = some (.int .i64 yk) := cell_regrown (HY6.out.cell 0)
      have b1 : ∀ d os, (grow (redrawn wz d) os).cell? ⟨yb, 1, none⟩ = some (.int .i64 yi) := cell_regrown (HY6.out.cell 1)
      have b2 : ∀ d os, (grow (redrawn wz d) os).cell? ⟨yb, 2, none⟩ = some (.string yt) := cell_regrown (HY6.out.cell 2)
      have b3 : ∀ d os, (grow (redrawn wz d) os).cell? ⟨yb, 3, none⟩ = some (.slice yA yn yc) := cell_regrown (HY6.out.cell 3)
      have b4 : ∀ d os, (grow (redrawn wz d) os).cell? ⟨yb, 4, none⟩ = some (.slice yB ym yd) := cell_regrown (HY6.out.cell 4)
      have c0 : ∀ d os, (grow (redrawn wz d) os).cell? ⟨zb, 0, none⟩ = some (.int .i64 zk) := cell_regrown (HZ6.out.cell 0)
      have c1 : ∀ d os, (grow (redrawn wz d) os).cell? ⟨zb, 1, none⟩ = some (.int .i64 zi) := cell_regrown (HZ6.out.cell 1)
      have c2 : ∀ d os, (grow (redrawn wz d) os).cell? ⟨zb, 2, none⟩ = some (.string zt) := cell_regrown (HZ6.out.cell 2)
      have c3 : ∀ d os, (grow (redrawn wz d) os).cell? ⟨zb, 3, none⟩ = some (.slice zA zn zc) := cell_regrown (HZ6.out.cell 3)
      have c4 : ∀ d os, (grow (redrawn wz d) os).cell? ⟨zb, 4, none⟩ = some (.slice zB zm zd) := cell_regrown (HZ6.out.cell 4)
      clear mg cM cR cS cJ
      refine wp_region_below (by kernel_rfl) (by kernel_rfl) (by kernel_rfl) ?_
      repeat (go_big_quiet_step (first | with_reducible exact CM.out _ _ | with_reducible exact CR.out _ _ | with_reducible exact CS.out _ _ | with_reducible exact CJ.out _ _))
      refine wpQuiet_nil ?_
      intro _ hw'
      obtain ⟨⟨dq, osq⟩, hw''⟩ := hw'
      subst hw''
      have HM7 := hide (HM6.out.trans (Mod.of_below (F := []) (below_regrown wz dq osq)) (by simp))
      go_wp2_with fail
      go_ret
      exact ⟨rfl, HM7.out.below (Nat.le_refl _) (by simp)⟩
end Go.Proofs.YtkbpndohpkcikaaDoor
