/-
  JsonKeys: the walk.
-/
import Derived.Test.YtkbpndohpkcikaaDoorJsLaw
namespace Go.Proofs.YtkbpndohpkcikaaDoor
open Go.RowKit Js Go.Sort
set_option linter.unusedVariables false
set_option linter.unusedSimpArgs false
set_option maxRecDepth 100000 in
set_option maxHeartbeats 8000000 in
theorem walkJsonKeys (x : JN) {W : World} (hx : JIn W x) (hr : jrng x.v = true) (key : ByteArray) (_hs : key.size ≤ maxLen) (hj : JVars W.heap.size W) :
    Calls Tryd.prog 7 #[.agg x.cells, .string key] W fun e w' => e = .returned (.bool true) ∧ Below W.heap.size W w' := by
  have HAw := hide (fun (w' : World) (m : Mod [] W w') => awake_any w' W.heap.size m.size (hj.mod m (Nat.le_refl _) (by simp)))
  have HRd := hide (fun (w' : World) (m : Mod [] W w') (s : ByteArray) (hs : s.size ≤ 1000000) (v : JV) (a e : Int) (hr : jread s.data.toList = (v, a, e)) => readL w' s hs W.heap.size m.size (hj.mod m (Nat.le_refl _) (by simp)) hr)
  have HWr := hide (fun (w' : World) (m : Mod [] W w') (u : JN) (hu : JIn w' u) (hr : jrng u.v = true) (hl : (jwr u.v).length ≤ 1099511627776) (hb : jmay 8 u.v = true) => writeL w' u hu hr hl W.heap.size m.size (hj.mod m (Nat.le_refl _) (by simp)) hb)
  have HWn := hide (fun (w' : World) (m : Mod [] W w') (u : JN) (hu : JIn w' u) (hr : jrng u.v = true) (hl : (jwr u.v).length ≤ 1099511627776) (hb : jmay 8 u.v = false) => writeN w' u hu hr hl W.heap.size m.size (hj.mod m (Nat.le_refl _) (by simp)) hb)
  obtain ⟨vA, vc, vn, vB, vd, vm, hcv, hvn, hvm⟩ := x.open5
  have hka := JN.keysAt hx hcv
  have hra := fun (j : Nat) (y : JV) (h : x.v.l[j]? = some y) => JN.rows hx hcv h
  obtain ⟨vk, vi, vt, vl, vks, hxv⟩ : ∃ vk vi vt vl vks, x.v = JV.mk vk vi vt vl vks := by
    cases x.v
    exact ⟨_, _, _, _, _, rfl⟩
  simp only [hxv, JV.k, JV.i, JV.t, JV.l, JV.ks] at hcv hvn hvm hka hra
  have HCv := hide hcv
  have HX := hide hx
  have HXv := hide hxv
  have HVn := hide hvn
  have HVm := hide hvm
  have HKa := hide hka
  have HRa := hide hra
  have HR := hide hr
  have HLg := hide (fun (w' : World) (m : Mod [] W w') (b : Bool) (hb : decide (2048 ≤ jwt 21 x.v) = b) => large_any w' x (hx.new m) b hb)
  rw [hcv] at HLg ⊢
  have HM0 := hide ((Mod.refl [] W).alloc (.cells #[.int .i64 vk, .int .i64 vi, .string vt, .slice vA vn vc, .slice vB vm vd] 25))
  have HB0 := hide (Blk.new W 25 #[.int .i64 vk, .int .i64 vi, .string vt, .slice vA vn vc, .slice vB vm vd])
  clear hx hr hj hcv hxv hvn hvm hka hra
  go_enter Tryd.func7, Tryd.ntmps7
  go_wp2_with fail
  refine (HAw.out _ HM0.out).mono ?_
  rintro en w1 ⟨rfl, m1⟩
  have HM1 := hide (HM0.out.trans m1 (by simp))
  have HB1 := hide (m1.blk HB0.out (by simp))
  have q0 : w1.cell? ⟨W.heap.size, 0, none⟩ = some (.int .i64 vk) := HB1.out.cell 0
  have q1 : w1.cell? ⟨W.heap.size, 1, none⟩ = some (.int .i64 vi) := HB1.out.cell 1
  have q2 : w1.cell? ⟨W.heap.size, 2, none⟩ = some (.string vt) := HB1.out.cell 2
  have q3 : w1.cell? ⟨W.heap.size, 3, none⟩ = some (.slice vA vn vc) := HB1.out.cell 3
  have q4 : w1.cell? ⟨W.heap.size, 4, none⟩ = some (.slice vB vm vd) := HB1.out.cell 4
  obtain ⟨b, hb⟩ : ∃ b, decide (2048 ≤ jwt 21 x.v) = b := ⟨_, rfl⟩
  have HL1 := hide (HLg.out w1 HM1.out b hb)
  have HWt := hide hb
  clear hb HLg m1
  go_wp2_with fail
  refine HL1.out.mono ?_
  rintro en w2 ⟨rfl, m2⟩
  have HM2 := hide (HM1.out.trans m2 (by simp))
  have HB2 := hide (m2.blk HB1.out (by simp))
  clear m2 q0 q1 q2 q3 q4
  cases b with
  | true =>
    go_wp2_with fail
    go_ret
    exact ⟨rfl, HM2.out.below (Nat.le_refl _) (by simp)⟩
  | false =>
    have hwt : jwt 21 x.v < 2048 := by have := of_decide_eq_false HWt.out; omega
    have hsh := jwr_short hwt HR.out
    have HSh := hide hsh
    have hwt2 := hwt
    rw [HXv.out] at hwt2
    obtain ⟨_, hpt⟩ := jwt_parts hwt2
    have hln : vl.length ≤ jws (21 - 1) vl := jws_len (by omega)
    have hvn2 : vn < 2048 := by have := HVn.out; omega
    have hvm2 : vm < 2048 := by have := HVm.out; omega
    have HWx := hide hwt
    clear hwt hwt2 hpt hln hsh
    by_cases hs1 : 2048 < key.size
    · have f1 : (2048 : Int) < (key.size : Int) := by omega
      clear hs1
      go_wp2_with fail
      go_ret
      exact ⟨rfl, HM2.out.below (Nat.le_refl _) (by simp)⟩
    have f1 : decide ((2048 : Int) < (key.size : Int)) = false := decide_eq_false (by omega)
    have f1n : decide (2048 < key.size) = false := decide_eq_false (by omega)
    have HS1 := hide hs1
    clear hs1
    have q0 : w2.cell? ⟨W.heap.size, 0, none⟩ = some (.int .i64 vk) := HB2.out.cell 0
    have q1 : w2.cell? ⟨W.heap.size, 1, none⟩ = some (.int .i64 vi) := HB2.out.cell 1
    have q2 : w2.cell? ⟨W.heap.size, 2, none⟩ = some (.string vt) := HB2.out.cell 2
    have q3 : w2.cell? ⟨W.heap.size, 3, none⟩ = some (.slice vA vn vc) := HB2.out.cell 3
    have q4 : w2.cell? ⟨W.heap.size, 4, none⟩ = some (.slice vB vm vd) := HB2.out.cell 4
    have HGt := hide (getL w2 x key (HX.out.new HM2.out))
    rw [HCv.out, HXv.out] at HGt
    go_wp2_with fail
    refine HGt.out.mono ?_
    rintro en w3 ⟨y, b', yk, yi, yt, yA, yn, yc, yB, ym, yd, hyc, rfl, hg, hyi, m3⟩
    have HM3 := hide ((HM2.out.trans m3 (by simp)).alloc (.cells #[.int .i64 yk, .int .i64 yi, .string yt, .slice yA yn yc, .slice yB ym yd] 25))
    have HB3 := hide ((m3.blk HB2.out (by simp)).alloc (.cells #[.int .i64 yk, .int .i64 yi, .string yt, .slice yA yn yc, .slice yB ym yd] 25))
    have HY3 := hide (Blk.new w3 25 #[.int .i64 yk, .int .i64 yi, .string yt, .slice yA yn yc, .slice yB ym yd])
    have HYi := hide (hyi.new ((Mod.refl [] w3).alloc (.cells #[.int .i64 yk, .int .i64 yi, .string yt, .slice yA yn yc, .slice yB ym yd] 25)))
    obtain ⟨yb, hyb⟩ : ∃ yb, w3.heap.size = yb := ⟨_, rfl⟩
    rw [hyb] at HY3
    have HCy := hide hyc
    have HG := hide hg
    clear hyc hg hyi m3 HGt q0 q1 q2 q3 q4
    have q0 : (w3.alloc (.cells #[.int .i64 yk, .int .i64 yi, .string yt, .slice yA yn yc, .slice yB ym yd] 25)).cell? ⟨W.heap.size, 0, none⟩ = some (.int .i64 vk) := HB3.out.cell 0
    have q1 : (w3.alloc (.cells #[.int .i64 yk, .int .i64 yi, .string yt, .slice yA yn yc, .slice yB ym yd] 25)).cell? ⟨W.heap.size, 1, none⟩ = some (.int .i64 vi) := HB3.out.cell 1
    have q2 : (w3.alloc (.cells #[.int .i64 yk, .int .i64 yi, .string yt, .slice yA yn yc, .slice yB ym yd] 25)).cell? ⟨W.heap.size, 2, none⟩ = some (.string vt) := HB3.out.cell 2
    have q3 : (w3.alloc (.cells #[.int .i64 yk, .int .i64 yi, .string yt, .slice yA yn yc, .slice yB ym yd] 25)).cell? ⟨W.heap.size, 3, none⟩ = some (.slice vA vn vc) := HB3.out.cell 3
    have q4 : (w3.alloc (.cells #[.int .i64 yk, .int .i64 yi, .string yt, .slice yA yn yc, .slice yB ym yd] 25)).cell? ⟨W.heap.size, 4, none⟩ = some (.slice vB vm vd) := HB3.out.cell 4
    by_cases h6 : vk = 6
    · subst h6
      have f6 : ((6 : Int) != 6) = false := by simp
      obtain ⟨bm, hbm⟩ : ∃ bm, jmay 8 (JV.mk 6 vi vt vl vks) = bm := ⟨_, rfl⟩
      have HMa := hide (may_any _ x (HX.out.new HM3.out) bm (by rw [HXv.out]; exact hbm))
      rw [HCv.out] at HMa
      have HBm := hide hbm
      clear hbm
      go_wp2_with fail
      trace "MAY"
      refine HMa.out.mono ?_
      rintro en w4 ⟨rfl, m4⟩
      have HM4 := hide (HM3.out.trans m4 (by simp))
      have HB4 := hide (m4.blk HB3.out (by simp))
      have HY4 := hide (m4.blk HY3.out (by simp))
      have HYi4 := hide (HYi.out.new m4)
      clear m4 HMa q0 q1 q2 q3 q4
      cases bm with
      | false =>
        obtain ⟨hb2, hyv⟩ : b' = false ∧ y.v = jv0 := by
          rcases HG.out with ⟨_, _, h, _⟩ | ⟨h1, h2, _⟩
          · rw [HBm.out] at h; cases h
          · exact ⟨h1, h2⟩
        subst hb2
        have HSm := hide (same_any w4 y (JN.mk 0 0 ⟨#[]⟩ none 0 [] none 0 []) (HYi4.out) (JIn.plain _ _ _ _) true (by rw [hyv]; exact (jsame_iff _ _).2 (by unfold jv0; rw [JN.v, JN.vs])))
        rw [HCy.out] at HSm
        simp only [JN.cells, List.length_nil] at HSm
        have yq0 : w4.cell? ⟨yb, 0, none⟩ = some (.int .i64 yk) := HY4.out.cell 0
        have yq1 : w4.cell? ⟨yb, 1, none⟩ = some (.int .i64 yi) := HY4.out.cell 1
        have yq2 : w4.cell? ⟨yb, 2, none⟩ = some (.string yt) := HY4.out.cell 2
        have yq3 : w4.cell? ⟨yb, 3, none⟩ = some (.slice yA yn yc) := HY4.out.cell 3
        have yq4 : w4.cell? ⟨yb, 4, none⟩ = some (.slice yB ym yd) := HY4.out.cell 4

        clear hyv
        go_wp2_with fail
        refine HSm.out.mono ?_
        rintro en w5 ⟨rfl, m5⟩
        have HM5 := hide (HM4.out.trans m5 (by simp))
        clear m5
        go_wp2_with fail
        go_ret
        exact ⟨rfl, HM5.out.below (Nat.le_refl _) (by simp)⟩
      | true =>
        have v4 : w4.cell? ⟨W.heap.size, 4, none⟩ = some (.slice vB vm vd) := HB4.out.cell 4
        have hpl := jmay_len HBm.out rfl
        have hvl : vn = vm := by have := HVn.out; have := HVm.out; omega
        have HPl := hide hpl
        clear hpl
        go_wp2_with fail
        go_loopw [7, 41] (fun s7 iv wr => ∃ i : Nat, i ≤ vm ∧ iv = .int .i64 (i : Int) ∧ Hid (∀ j : Nat, j < i → vks[j]? ≠ some key) ∧ Hid (wr = w4)) (fun _ iv _ => vm - (intOf iv).toNat)
        case atStart => exact ⟨0, by omega, rfl, hide (fun j h => absurd h (Nat.not_lt_zero _)), hide rfl⟩
        case round =>
          obtain ⟨i, hi, rfl, htk, hwr⟩ := hrel
          by_cases h2 : i < vm
          · obtain ⟨u, hu⟩ : ∃ u, vks[i]? = some u := ⟨_, List.getElem?_eq_getElem (by have := HVm.out; omega)⟩
            obtain ⟨g, o, rfl, hg, hc0⟩ := (HKa.out.new HM4.out).at_ hu
            have hc : wr.cell? ⟨g, o + i, none⟩ = some (.string u) := by rw [hwr.out]; exact hc0
            have v4r : wr.cell? ⟨W.heap.size, 4, none⟩ = some (.slice (some ⟨g, o, none⟩) vm vd) := by rw [hwr.out]; exact HB4.out.cell 4
            have hii : (i : Int) < (vm : Int) := by omega
            have a1 : IntKind.i64.wrap ((i : Int) + 1) = (i : Int) + 1 := IntWalk.i64_in _ (by omega)
            by_cases huk : u = key
            · subst huk
              have g3 := toList_same u
              obtain ⟨hb2, hyl⟩ : b' = true ∧ vl[i]? = some y.v := by
                rcases HG.out with ⟨h1, _, _, j, hj, hjn, hjl⟩ | ⟨_, _, h⟩
                · refine ⟨h1, ?_⟩
                  have : j = i := by
                    rcases Nat.lt_trichotomy j i with h | h | h
                    · exact absurd hj (htk.out j h)
                    · exact h
                    · exact absurd hu (hjn i h)
                  rw [← this]; exact hjl
                · rcases h with h | h | h
                  · exact absurd rfl h
                  · rw [HBm.out] at h; cases h
                  · exact absurd (List.mem_iff_getElem?.2 ⟨i, hu⟩) h
              subst hb2
              obtain ⟨z, g', o', rfl, hg', hzv, hzi, hzc⟩ := HRa.out i _ hyl
              obtain ⟨zA, zc, zn, zB, zd, zm, hcz, -, -⟩ := z.open5
              generalize z.v.k = zk at hcz
              generalize z.v.i = zi at hcz
              generalize z.v.t = zt at hcz
              have mw : Mod [] W wr := by rw [hwr.out]; exact HM4.out
              have cS : ∀ d os, Calls Tryd.prog 18 #[.agg #[.int .i64 yk, .int .i64 yi, .string yt, .slice yA yn yc, .slice yB ym yd], .agg #[.int .i64 zk, .int .i64 zi, .string zt, .slice zA zn zc, .slice zB zm zd]] (grow (redrawn wr d) os) fun e w'' => e = .returned (.bool true) ∧ ∃ p : Regrown, w'' = grow (redrawn wr p.d) p.os := fun d os => by
                have mg : Mod [] wr (grow (redrawn wr d) os) := Mod.of_below (below_regrown wr d os)
                have hs := same_any _ y z ((show JIn wr y by rw [hwr.out]; exact HYi4.out).new mg) ((hzi.new mw).new mg) true (by rw [hzv]; exact (jsame_iff _ _).2 rfl)
                rw [HCy.out, hcz] at hs
                exact Calls.regrown_of (hs.mono fun _ _ h => ⟨h.1, h.2.below (Nat.le_refl _) (by simp)⟩)
              have CS := hide cS
              rw [hcz] at hzc
              have mcell := fun (k : Nat) (v : Value) (h : W.cell? ⟨g', o' + i * 5 + k, none⟩ = some v) => cell_regrown ((mw.cell (p := ⟨g', o' + i * 5 + k, none⟩) hg' (by simp)).trans h)
              have z0 : ∀ d os, (grow (redrawn wr d) os).cell? ⟨g', o' + i * 5, none⟩ = some (.int .i64 zk) := mcell 0 _ (hzc 0 _ rfl)
              have z1 := mcell 1 _ (hzc 1 _ rfl)
              have z2 := mcell 2 _ (hzc 2 _ rfl)
              have z3 := mcell 3 _ (hzc 3 _ rfl)
              have z4 := mcell 4 _ (hzc 4 _ rfl)
              have v3 := cell_regrown (show wr.cell? ⟨W.heap.size, 3, none⟩ = some (.slice (some ⟨g', o', none⟩) vn vc) by rw [hwr.out]; exact HB4.out.cell 3)
              have y0 := cell_regrown (show wr.cell? ⟨yb, 0, none⟩ = some (.int .i64 yk) by rw [hwr.out]; exact HY4.out.cell 0)
              have y1 := cell_regrown (show wr.cell? ⟨yb, 1, none⟩ = some (.int .i64 yi) by rw [hwr.out]; exact HY4.out.cell 1)
              have y2 := cell_regrown (show wr.cell? ⟨yb, 2, none⟩ = some (.string yt) by rw [hwr.out]; exact HY4.out.cell 2)
              have y3 := cell_regrown (show wr.cell? ⟨yb, 3, none⟩ = some (.slice yA yn yc) by rw [hwr.out]; exact HY4.out.cell 3)
              have y4 := cell_regrown (show wr.cell? ⟨yb, 4, none⟩ = some (.slice yB ym yd) by rw [hwr.out]; exact HY4.out.cell 4)
              have hin : (i : Int) < (vn : Int) := by omega
              have HW := hide hwr.out
              clear hu htk hc0 hyl hzv hzi hcz hzc cS mcell hvl mw hwr hg hg' h2
              go_wp2_with fail
              refine wp_region_below (by kernel_rfl) (by kernel_rfl) (by kernel_rfl) ?_
              repeat (go_big_quiet_step (with_reducible exact CS.out _ _))
              refine wpQuiet_nil ?_
              intro _ hw'
              obtain ⟨⟨dq, osq⟩, hw''⟩ := hw'
              subst hw''
              have HM5 := hide (HM4.out.trans (Mod.of_below (F := []) (below_regrown w4 dq osq)) (by simp))
              rw [← HW.out] at HM5
              go_wp2_with fail
              go_ret
              exact ⟨rfl, HM5.out.below (Nat.le_refl _) (by simp)⟩
            · have g3 := toList_ne huk
              have HT : Hid (∀ j : Nat, j < i + 1 → vks[j]? ≠ some key) := hide (fun j hj => by
                by_cases e : j = i
                · subst e; rw [hu]; intro h; exact huk (Option.some.inj h)
                · exact htk.out j (by omega))
              clear hu htk hc0 huk hvl hg
              go_wp2_with fail
              refine ⟨?rel, ?measure⟩
              case rel => exact ⟨i + 1, by omega, by go_num, HT, hwr⟩
              case measure => simp [intOf]; omega
          · have hii : decide ((i : Int) < (vm : Int)) = false := decide_eq_false (by omega)
            have hiin : decide (i < vm) = false := decide_eq_false (by omega)
            obtain ⟨hb2, hyv⟩ : b' = false ∧ y.v = jv0 := by
              rcases HG.out with ⟨_, _, _, j, hj, _⟩ | ⟨h1, h2, _⟩
              · exact absurd hj (htk.out j (by have h5 : j < vks.length := (List.getElem?_eq_some_iff.1 hj).1; have := HVm.out; omega))
              · exact ⟨h1, h2⟩
            subst hb2
            have HSm := hide (same_any wr y (JN.mk 0 0 ⟨#[]⟩ none 0 [] none 0 []) (show JIn wr y by rw [hwr.out]; exact HYi4.out) (JIn.plain _ _ _ _) true (by rw [hyv]; exact (jsame_iff _ _).2 (by unfold jv0; rw [JN.v, JN.vs])))
            rw [HCy.out] at HSm
            simp only [JN.cells, List.length_nil] at HSm
            have y0 : wr.cell? ⟨yb, 0, none⟩ = some (.int .i64 yk) := by rw [hwr.out]; exact HY4.out.cell 0
            have y1 : wr.cell? ⟨yb, 1, none⟩ = some (.int .i64 yi) := by rw [hwr.out]; exact HY4.out.cell 1
            have y2 : wr.cell? ⟨yb, 2, none⟩ = some (.string yt) := by rw [hwr.out]; exact HY4.out.cell 2
            have y3 : wr.cell? ⟨yb, 3, none⟩ = some (.slice yA yn yc) := by rw [hwr.out]; exact HY4.out.cell 3
            have y4 : wr.cell? ⟨yb, 4, none⟩ = some (.slice yB ym yd) := by rw [hwr.out]; exact HY4.out.cell 4
            clear hyv htk h2 hvl
            go_wp2_with fail
            refine HSm.out.mono ?_
            rintro en w5 ⟨rfl, m5⟩
            have HM5 := hide (HM4.out.trans (hwr.out ▸ m5) (by simp))
            clear m5
            go_wp2_with fail
            go_ret
            exact ⟨rfl, HM5.out.below (Nat.le_refl _) (by simp)⟩
    · have f6 : (vk != 6) = true := by simp [h6]
      obtain ⟨hb2, hyv⟩ : b' = false ∧ y.v = jv0 := by
        rcases HG.out with ⟨_, h, _⟩ | ⟨h1, h2, _⟩
        · exact absurd h h6
        · exact ⟨h1, h2⟩
      subst hb2
      have HSm := hide (same_any _ y (JN.mk 0 0 ⟨#[]⟩ none 0 [] none 0 []) (HYi.out) (JIn.plain _ _ _ _) true (by rw [hyv]; exact (jsame_iff _ _).2 (by unfold jv0; rw [JN.v, JN.vs])))
      rw [HCy.out] at HSm
      simp only [JN.cells, List.length_nil] at HSm

      clear hyv h6
      go_wp2_with fail
      refine HSm.out.mono ?_
      rintro en w5 ⟨rfl, m5⟩
      have HM5 := hide (HM3.out.trans m5 (by simp))
      clear m5
      go_wp2_with fail
      go_ret
      exact ⟨rfl, HM5.out.below (Nat.le_refl _) (by simp)⟩
end Go.Proofs.YtkbpndohpkcikaaDoor
