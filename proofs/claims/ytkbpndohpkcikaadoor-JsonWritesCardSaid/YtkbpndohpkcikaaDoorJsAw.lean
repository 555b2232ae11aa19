/-
  json: awake.
-/
import Derived.Test.YtkbpndohpkcikaaDoorJsAwP
namespace Go.Proofs.YtkbpndohpkcikaaDoor
open Go.RowKit Js
set_option linter.unusedVariables false
set_option linter.unusedSimpArgs false
/-- a value that lies in memory, its five cells apart -/
theorem JN.open5 (x : JN) : ∃ A c n B d m, x.cells = #[.int .i64 x.v.k, .int .i64 x.v.i, .string x.v.t, .slice A n c, .slice B m d] ∧ n = x.v.l.length ∧ m = x.v.ks.length := by
  cases x with
  | mk k i t A c l B d ks => exact ⟨A, c, l.length, B, d, ks.length, by rw [JN.v]; rfl, by rw [JN.v]; exact (JN.vs_len l).symm, by rw [JN.v]; rfl⟩
/-- the values in a list, in memory -/
theorem JN.rows {w : World} {x : JN} {A : Option Addr} {c n : Nat} {B : Option Addr} {d m : Nat} (h : JIn w x) (hc : x.cells = #[.int .i64 x.v.k, .int .i64 x.v.i, .string x.v.t, .slice A n c, .slice B m d]) {j : Nat} {y : JV} (hy : x.v.l[j]? = some y) :
    ∃ (u : JN) (g o : Nat), A = some ⟨g, o, none⟩ ∧ g < w.heap.size ∧ u.v = y ∧ JIn w u ∧ ∀ i v, u.cells[i]? = some v → w.cell? ⟨g, o + j * 5 + i, none⟩ = some v := by
  cases x with
  | mk k i t A' c' l B' d' ks =>
    rw [JN.v] at hy
    change (JN.vs l)[j]? = some y at hy
    rw [JN.vs_at] at hy
    cases hu : l[j]? with
    | none => rw [hu] at hy; cases hy
    | some u =>
      rw [hu] at hy
      cases hy
      have hA : A' = A := by
        have := congrArg (fun a : Array Value => a[3]?) hc
        simp [JN.cells] at this
        exact this.1
      subst hA
      rw [JIn] at h
      obtain ⟨_, _, h4, h5⟩ := h
      obtain ⟨g, o, hA, hg, hcell⟩ := h4.at_ hu
      exact ⟨u, g, o, hA, hg, rfl, h5.at_ hu, hcell⟩
set_option maxRecDepth 100000 in
set_option maxHeartbeats 8000000 in
theorem awake_any (w : World) (B : Nat) (hB : B ≤ w.heap.size) (hv : JVars B w) :
    Calls Tryd.prog 9 #[] w fun e w' => e = .returned (.bool true) ∧ Mod [] w w' := by
  have HRd := hide (fun (w' : World) (m : Mod [] w w') (s : ByteArray) (hs : s.size ≤ 1000000) => read_any w' s hs B (Nat.le_trans hB m.size) (hv.mod m hB (by simp)))
  have HWr := hide (fun (w' : World) (m : Mod [] w w') (x : JN) (hx : JIn w' x) (hr : jrng x.v = true) (hl : (jwr x.v).length ≤ 1099511627776) (b : Bool) (hb : jmay 8 x.v = b) => write_any w' x hx hr hl B (Nat.le_trans hB m.size) (hv.mod m hB (by simp)) b hb)
  clear hv hB
  have hR1 := HRd.out w (Mod.refl [] w) awS (by decide)
  unfold RdP at hR1
  rw [awRead] at hR1
  unfold awS at hR1
  have HR1 := hide hR1
  clear hR1
  go_enter Tryd.func9, Tryd.ntmps9
  go_wp2_with fail
  refine HR1.out.mono ?_
  rintro e w1 ⟨x, rfl, hxv, hxi, m1⟩
  obtain ⟨A, c, n, B4, d, m, hxc, hn, hm⟩ := x.open5
  obtain ⟨u0, g, o, hA, hg, hu0, hui0, hc0⟩ := JN.rows (j := 0) hxi hxc (by rw [hxv]; rfl)
  obtain ⟨A0, ca0, n0, B0, d0, m0, huc0, hn0, hm0⟩ := u0.open5
  obtain ⟨t2, g2, o2, hA2, hg2, ht2, hti2, hct2⟩ := JN.rows (j := 2) hui0 huc0 (by rw [hu0]; rfl)
  obtain ⟨A22, ca22, n22, B22, d22, m22, htc2, -, -⟩ := t2.open5
  rw [hxv] at hxc hn hm
  rw [hu0] at huc0 hn0 hm0
  rw [ht2] at htc2
  change x.cells = #[.int .i64 6, .int .i64 0, .string ⟨#[]⟩, .slice A n c, .slice B4 m d] at hxc
  change n = 2 at hn
  change m = 2 at hm
  change u0.cells = #[.int .i64 5, .int .i64 0, .string ⟨#[]⟩, .slice A0 n0 ca0, .slice B0 m0 d0] at huc0
  change n0 = 3 at hn0
  change t2.cells = #[.int .i64 4, .int .i64 0, .string ⟨#[120, 233]⟩, .slice A22 n22 ca22, .slice B22 m22 d22] at htc2
  subst hA hA2 hn hm hn0
  have e3 : w1.cell? ⟨g, o + 3, none⟩ = some (.slice (some ⟨g2, o2, none⟩) 3 ca0) := by
    have := hc0 3 (.slice (some ⟨g2, o2, none⟩) 3 ca0) (by rw [huc0]; rfl)
    simpa using this
  have e2 : w1.cell? ⟨g2, o2 + 10 + 2, none⟩ = some (.string ⟨#[120, 233]⟩) := by
    have := hct2 2 (.string ⟨#[120, 233]⟩) (by rw [htc2]; rfl)
    simpa using this
  have HXi := hide hxi
  have HXv := hide hxv
  have HXc := hide hxc
  have HE3 := hide e3
  have HE2 := hide e2
  have HG := hide (And.intro hg hg2)
  have HM1 := hide m1
  rw [hxc]
  clear hg hg2 hxi hxv hxc hu0 hui0 hc0 huc0 hm0 ht2 hti2 hct2 htc2 m1 e3 e2 HR1
  have HV1 := hide (Blk.new w1 25 #[.int .i64 6, .int .i64 0, .string ⟨#[]⟩, .slice (some ⟨g, o, none⟩) 2 c, .slice B4 2 d])
  have HM1a := hide (HM1.out.alloc (.cells #[.int .i64 6, .int .i64 0, .string ⟨#[]⟩, .slice (some ⟨g, o, none⟩) 2 c, .slice B4 2 d] 25))
  have HXi1 := hide (JIn.new ((Mod.refl [] w1).alloc (.cells #[.int .i64 6, .int .i64 0, .string ⟨#[]⟩, .slice (some ⟨g, o, none⟩) 2 c, .slice B4 2 d] 25)) HXi.out)
  have hW := HWr.out _ HM1a.out x HXi1.out (by rw [HXv.out]; exact awRng) (by rw [HXv.out, awWr]; decide) true (by rw [HXv.out]; exact awMay)
  rw [HXc.out, HXv.out, awWr] at hW
  unfold str awS at hW
  have HW := hide hW
  clear hW
  go_wp2_with fail
  refine HW.out.mono ?_
  rintro e w2 ⟨rfl, m2⟩
  have HM2 := hide (HM1a.out.trans m2 (by simp))
  have HV2 := hide (m2.blk HV1.out (by simp))
  have HS12 := hide ((Mod.refl [] w1).alloc (.cells #[.int .i64 6, .int .i64 0, .string ⟨#[]⟩, .slice (some ⟨g, o, none⟩) 2 c, .slice B4 2 d] 25) |>.trans m2 (by simp))
  have hR2 := HRd.out w2 HM2.out ⟨#[91, 49, 44, 93]⟩ (by decide)
  unfold RdP at hR2
  rw [show (⟨#[91, 49, 44, 93]⟩ : ByteArray).data.toList = [91, 49, 44, 93] from rfl, awRead2] at hR2
  have HR2 := hide hR2
  obtain ⟨vb, hvb⟩ : ∃ vb, w1.heap.size = vb := ⟨_, rfl⟩
  rw [hvb] at HV1 HV2
  have HVb := hide hvb
  clear m2 hR2 HW
  go_wp2_with fail
  refine HR2.out.mono ?_
  rintro e w3 ⟨y, rfl, -, -, m3⟩
  obtain ⟨yA, yc, yn, yB, yd, ym, hyc, -, -⟩ := y.open5
  obtain ⟨yk, hyk⟩ : ∃ q, y.v.k = q := ⟨_, rfl⟩
  obtain ⟨yi, hyi⟩ : ∃ q, y.v.i = q := ⟨_, rfl⟩
  obtain ⟨yt, hyt⟩ : ∃ q, y.v.t = q := ⟨_, rfl⟩
  rw [hyk, hyi, hyt] at hyc
  rw [hyc]
  have HM3 := hide ((HM2.out.trans m3 (by simp)).alloc (.cells #[.int .i64 yk, .int .i64 yi, .string yt, .slice yA yn yc, .slice yB ym yd] 25))
  have HS13 := hide ((HS12.out.trans m3 (by simp)).alloc (.cells #[.int .i64 yk, .int .i64 yi, .string yt, .slice yA yn yc, .slice yB ym yd] 25))
  have HV3 := hide ((m3.blk HV2.out (by simp)).alloc (.cells #[.int .i64 yk, .int .i64 yi, .string yt, .slice yA yn yc, .slice yB ym yd] 25))
  have hW7 := HWr.out _ HM3.out (JN.mk 7 0 ⟨#[]⟩ none 0 [] none 0 []) (JIn.plain _ _ _ _) (by decide) (by simp [JN.v, JN.vs, jwr, jwrs]) false (by rw [JN.v, JN.vs]; exact awMay7)
  simp only [JN.cells, List.length_nil] at hW7
  unfold str at hW7
  have HW7 := hide hW7
  clear hyc hyk hyi hyt m3 hW7 HR2
  go_wp2_with fail
  refine HW7.out.mono ?_
  rintro e w4 ⟨rfl, m4⟩
  have HM4 := hide (HM3.out.trans m4 (by simp))
  have HS14 := hide (HS13.out.trans m4 (by simp))
  have HV4 := hide (m4.blk HV3.out (by simp))
  have hG := get_any w4 x ⟨#[98]⟩ (HXi.out.new HS14.out)
  rw [HXc.out] at hG
  have HG1 := hide hG
  have q40 : w4.cell? ⟨vb, 0, none⟩ = some (.int .i64 6) := HV4.out.cell 0
  have q41 : w4.cell? ⟨vb, 1, none⟩ = some (.int .i64 0) := HV4.out.cell 1
  have q42 : w4.cell? ⟨vb, 2, none⟩ = some (.string ⟨#[]⟩) := HV4.out.cell 2
  have q43 : w4.cell? ⟨vb, 3, none⟩ = some (.slice (some ⟨g, o, none⟩) 2 c) := HV4.out.cell 3
  have q44 : w4.cell? ⟨vb, 4, none⟩ = some (.slice B4 2 d) := HV4.out.cell 4
  clear hG m4 HW7
  go_wp2_with fail
  refine HG1.out.mono ?_
  rintro e w5 ⟨z, b, rfl, hz, hzi, m5⟩
  have hz2 := hz.eq
  rw [HXv.out, awGet] at hz2
  have hzv : z.v = .mk 0 0 ⟨#[]⟩ [] [] := (congrArg Prod.fst hz2).symm
  have hzb : true = b := congrArg Prod.snd hz2
  subst hzb
  obtain ⟨zA, zc, zn, zB, zd, zm, hzc, -, -⟩ := z.open5
  rw [hzv] at hzc
  change z.cells = #[.int .i64 0, .int .i64 0, .string ⟨#[]⟩, .slice zA zn zc, .slice zB zm zd] at hzc
  rw [hzc]
  have HZc := hide hzc
  have HZv := hide hzv
  have HM5 := hide ((HM4.out.trans m5 (by simp)).alloc (.cells #[.int .i64 0, .int .i64 0, .string ⟨#[]⟩, .slice zA zn zc, .slice zB zm zd] 25))
  have HS15 := hide ((HS14.out.trans m5 (by simp)).alloc (.cells #[.int .i64 0, .int .i64 0, .string ⟨#[]⟩, .slice zA zn zc, .slice zB zm zd] 25))
  have HV5 := hide ((m5.blk HV4.out (by simp)).alloc (.cells #[.int .i64 0, .int .i64 0, .string ⟨#[]⟩, .slice zA zn zc, .slice zB zm zd] 25))
  have HZ5 := hide (Blk.new w5 25 #[.int .i64 0, .int .i64 0, .string ⟨#[]⟩, .slice zA zn zc, .slice zB zm zd])
  have HZi := hide (JIn.new ((Mod.refl [] w5).alloc (.cells #[.int .i64 0, .int .i64 0, .string ⟨#[]⟩, .slice zA zn zc, .slice zB zm zd] 25)) hzi)
  obtain ⟨zb, hzb⟩ : ∃ zb, w5.heap.size = zb := ⟨_, rfl⟩
  rw [hzb] at HZ5
  obtain ⟨w5a, hw5⟩ : ∃ w5a, w5.alloc (.cells #[.int .i64 0, .int .i64 0, .string ⟨#[]⟩, .slice zA zn zc, .slice zB zm zd] 25) = w5a := ⟨_, rfl⟩
  rw [hw5] at HM5 HS15 HV5 HZ5 HZi
  have hG2 := get_any w5a x ⟨#[99]⟩ (HXi.out.new HS15.out)
  rw [HXc.out] at hG2
  have HG2 := hide hG2
  have q5a0 : w5a.cell? ⟨vb, 0, none⟩ = some (.int .i64 6) := HV5.out.cell 0
  have q5a1 : w5a.cell? ⟨vb, 1, none⟩ = some (.int .i64 0) := HV5.out.cell 1
  have q5a2 : w5a.cell? ⟨vb, 2, none⟩ = some (.string ⟨#[]⟩) := HV5.out.cell 2
  have q5a3 : w5a.cell? ⟨vb, 3, none⟩ = some (.slice (some ⟨g, o, none⟩) 2 c) := HV5.out.cell 3
  have q5a4 : w5a.cell? ⟨vb, 4, none⟩ = some (.slice B4 2 d) := HV5.out.cell 4
  clear hG2 hz hzi hz2 hzv hzc m5 HG1 q40 q41 q42 q43 q44
  go_wp2_with fail
  refine HG2.out.mono ?_
  rintro e w6 ⟨y2, b2, rfl, hy2, -, m6⟩
  have hy3 := hy2.eq
  rw [HXv.out, awGet2] at hy3
  have hyb : false = b2 := congrArg Prod.snd hy3
  subst hyb
  obtain ⟨y2A, y2c, y2n, y2B, y2d, y2m, hyc2, -, -⟩ := y2.open5
  obtain ⟨y2k, hyk⟩ : ∃ q, y2.v.k = q := ⟨_, rfl⟩
  obtain ⟨y2i, hyi⟩ : ∃ q, y2.v.i = q := ⟨_, rfl⟩
  obtain ⟨y2t, hyt⟩ : ∃ q, y2.v.t = q := ⟨_, rfl⟩
  rw [hyk, hyi, hyt] at hyc2
  rw [hyc2]
  have HM6 := hide ((HM5.out.trans m6 (by simp)).alloc (.cells #[.int .i64 y2k, .int .i64 y2i, .string y2t, .slice y2A y2n y2c, .slice y2B y2m y2d] 25))
  have HS16 := hide ((HS15.out.trans m6 (by simp)).alloc (.cells #[.int .i64 y2k, .int .i64 y2i, .string y2t, .slice y2A y2n y2c, .slice y2B y2m y2d] 25))
  have HV6 := hide ((m6.blk HV5.out (by simp)).alloc (.cells #[.int .i64 y2k, .int .i64 y2i, .string y2t, .slice y2A y2n y2c, .slice y2B y2m y2d] 25))
  have HZ6 := hide ((m6.blk HZ5.out (by simp)).alloc (.cells #[.int .i64 y2k, .int .i64 y2i, .string y2t, .slice y2A y2n y2c, .slice y2B y2m y2d] 25))
  have HZi6 := hide ((HZi.out.new m6).new ((Mod.refl [] w6).alloc (.cells #[.int .i64 y2k, .int .i64 y2i, .string y2t, .slice y2A y2n y2c, .slice y2B y2m y2d] 25)))
  obtain ⟨w6a, hw6⟩ : ∃ w6a, w6.alloc (.cells #[.int .i64 y2k, .int .i64 y2i, .string y2t, .slice y2A y2n y2c, .slice y2B y2m y2d] 25) = w6a := ⟨_, rfl⟩
  rw [hw6] at HM6 HS16 HV6 HZ6 HZi6
  have HXi6 := hide (HXi.out.new HS16.out)
  have hMy := may_any w6a x HXi6.out true (by rw [HXv.out]; exact awMay)
  rw [HXc.out] at hMy
  have HMy := hide hMy
  have q6a0 : w6a.cell? ⟨vb, 0, none⟩ = some (.int .i64 6) := HV6.out.cell 0
  have q6a1 : w6a.cell? ⟨vb, 1, none⟩ = some (.int .i64 0) := HV6.out.cell 1
  have q6a2 : w6a.cell? ⟨vb, 2, none⟩ = some (.string ⟨#[]⟩) := HV6.out.cell 2
  have q6a3 : w6a.cell? ⟨vb, 3, none⟩ = some (.slice (some ⟨g, o, none⟩) 2 c) := HV6.out.cell 3
  have q6a4 : w6a.cell? ⟨vb, 4, none⟩ = some (.slice B4 2 d) := HV6.out.cell 4
  have e3 : w6a.cell? ⟨g, o + 3, none⟩ = some (.slice (some ⟨g2, o2, none⟩) 3 ca0) := (HS16.out.cell (p := ⟨g, o + 3, none⟩) HG.out.1 (by simp)).trans HE3.out
  have e2 : w6a.cell? ⟨g2, o2 + 10 + 2, none⟩ = some (.string ⟨#[120, 233]⟩) := (HS16.out.cell (p := ⟨g2, o2 + 10 + 2, none⟩) HG.out.2 (by simp)).trans HE2.out
  have z0 : w6a.cell? ⟨zb, 0, none⟩ = some (.int .i64 0) := HZ6.out.cell 0
  clear hMy hy2 hy3 hyc2 hyk hyi hyt m6 HG2 q5a0 q5a1 q5a2 q5a3 q5a4
  go_wp2_with fail
  refine HMy.out.mono ?_
  rintro e w7 ⟨rfl, m7⟩
  have HM7 := hide (HM6.out.trans m7 (by simp))
  have HXi7 := hide (HXi6.out.new m7)
  have HV7 := hide (m7.blk HV6.out (by simp))
  have HZ7 := hide (m7.blk HZ6.out (by simp))
  have HZi7 := hide (HZi6.out.new m7)
  have hSm := same_any w7 x x HXi7.out HXi7.out true (by rw [HXv.out]; exact awSame)
  rw [HXc.out] at hSm
  have HSm := hide hSm
  have q70 : w7.cell? ⟨vb, 0, none⟩ = some (.int .i64 6) := HV7.out.cell 0
  have q71 : w7.cell? ⟨vb, 1, none⟩ = some (.int .i64 0) := HV7.out.cell 1
  have q72 : w7.cell? ⟨vb, 2, none⟩ = some (.string ⟨#[]⟩) := HV7.out.cell 2
  have q73 : w7.cell? ⟨vb, 3, none⟩ = some (.slice (some ⟨g, o, none⟩) 2 c) := HV7.out.cell 3
  have q74 : w7.cell? ⟨vb, 4, none⟩ = some (.slice B4 2 d) := HV7.out.cell 4
  clear hSm m7 HMy q6a0 q6a1 q6a2 q6a3 q6a4 e2 e3 z0
  go_wp2_with fail
  refine HSm.out.mono ?_
  rintro e w8 ⟨rfl, m8⟩
  have HM8 := hide (HM7.out.trans m8 (by simp))
  have HXi8 := hide (HXi7.out.new m8)
  have HV8 := hide (m8.blk HV7.out (by simp))
  have HZ8 := hide (m8.blk HZ7.out (by simp))
  have HZi8 := hide (HZi7.out.new m8)
  have hSz := same_any w8 x z HXi8.out HZi8.out false (by rw [HXv.out, HZv.out]; exact awSame2)
  rw [HXc.out, HZc.out] at hSz
  have HSz := hide hSz
  have q80 : w8.cell? ⟨vb, 0, none⟩ = some (.int .i64 6) := HV8.out.cell 0
  have q81 : w8.cell? ⟨vb, 1, none⟩ = some (.int .i64 0) := HV8.out.cell 1
  have q82 : w8.cell? ⟨vb, 2, none⟩ = some (.string ⟨#[]⟩) := HV8.out.cell 2
  have q83 : w8.cell? ⟨vb, 3, none⟩ = some (.slice (some ⟨g, o, none⟩) 2 c) := HV8.out.cell 3
  have q84 : w8.cell? ⟨vb, 4, none⟩ = some (.slice B4 2 d) := HV8.out.cell 4
  have z0 : w8.cell? ⟨zb, 0, none⟩ = some (.int .i64 0) := HZ8.out.cell 0
  have z1 : w8.cell? ⟨zb, 1, none⟩ = some (.int .i64 0) := HZ8.out.cell 1
  have z2 : w8.cell? ⟨zb, 2, none⟩ = some (.string ⟨#[]⟩) := HZ8.out.cell 2
  have z3 : w8.cell? ⟨zb, 3, none⟩ = some (.slice zA zn zc) := HZ8.out.cell 3
  have z4 : w8.cell? ⟨zb, 4, none⟩ = some (.slice zB zm zd) := HZ8.out.cell 4
  clear hSz m8 HSm q70 q71 q72 q73 q74
  go_wp2_with fail
  refine HSz.out.mono ?_
  rintro e w9 ⟨rfl, m9⟩
  have HM9 := hide (HM8.out.trans m9 (by simp))
  clear m9 HSz q80 q81 q82 q83 q84 z0 z1 z2 z3 z4
  go_wp2_with fail
  go_ret
  exact ⟨rfl, HM9.out⟩
end Go.Proofs.YtkbpndohpkcikaaDoor
