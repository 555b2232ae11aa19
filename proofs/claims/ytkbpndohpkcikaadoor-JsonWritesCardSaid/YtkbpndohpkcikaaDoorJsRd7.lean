/-
  json: the reader: value.
-/
import Derived.Test.YtkbpndohpkcikaaDoorJsRd6T
namespace Go.Proofs.YtkbpndohpkcikaaDoor
open Go.RowKit Js Go.Sort
set_option linter.unusedVariables false
set_option linter.unusedSimpArgs false

theorem not_head {l : List UInt8} {c : UInt8} {b : Nat} (h : ¬ l.head? = some c) (hb : (l.head?.getD 0).toNat = b) (hc : c ≠ 0) : b ≠ c.toNat := by
  rintro rfl
  cases l with
  | nil =>
    simp only [List.head?_nil, Option.getD_none] at hb
    exact hc (UInt8.toNat_inj.1 hb.symm)
  | cons d t =>
    simp only [List.head?_cons, Option.getD_some] at hb h
    exact h (by rw [UInt8.toNat_inj.1 hb])

set_option maxRecDepth 100000 in
set_option maxHeartbeats 16000000 in
theorem value_zero : ValueOk 0 := by
  intro w p k s h hj
  have hpw := h.blk.lt
  have HM1 := hide ((Mod.refl [p] w).alloc (.cells #[.int .i64 0, .int .i64 0, .string ⟨#[]⟩, .slice none 0 0, .slice none 0 0] 25))
  have H1 := hide (h.mod ((Mod.refl [] w).alloc (.cells #[.int .i64 0, .int .i64 0, .string ⟨#[]⟩, .slice none 0 0, .slice none 0 0] 25)) (by simp))
  have HSp := hide (fun w' k' (h' : Rd w' p s k') => space_any w' p k' s h')
  have HNx := hide (fun w' k' (h' : Rd w' p s k') => next_mod w' p k' s h')
  clear h hj hpw
  go_enter Tryd.func31, Tryd.ntmps31
  go_wp2_with fail
  refine (HSp.out _ _ H1.out).mono ?_
  rintro e w2 ⟨rfl, m2, k2, hr2, hq2⟩
  have HM3 := hide ((HM1.out.trans m2 (by simp)).alloc (.cells #[.int .i64 0, .int .i64 0, .string ⟨#[]⟩, .slice none 0 0, .slice none 0 0] 25))
  have H3 := hide (hr2.mod ((Mod.refl [] w2).alloc (.cells #[.int .i64 0, .int .i64 0, .string ⟨#[]⟩, .slice none 0 0, .slice none 0 0] 25)) (by simp))
  have HE : Hid (jvalue 0 (rst s k) = .er (rst s k2)) := hide (by rw [jvalue, hq2])
  clear m2 hr2 hq2
  go_wp2_with fail
  refine (HNx.out _ _ H3.out).mono ?_
  rintro e w4 ⟨rfl, m4, hr4⟩
  have HM4 := hide (HM3.out.trans m4 (by simp))
  have H4 := hide hr4
  clear m4 hr4
  go_wp2_with fail
  refine (fail_any _ p k2 s H4.out).mono ?_
  rintro e w5 ⟨rfl, rfl⟩
  go_wp2_with fail
  rename_i heq
  cases heq
  exact ⟨rfl, RP.er HE.out HM4.out H4.out.le rfl⟩

set_option maxRecDepth 100000 in
set_option maxHeartbeats 32000000 in
theorem value_succ (m : Nat) (hm : m < 8) (hV : ValueOk m) : ValueOk (m + 1) := by
  intro w p k s h hj
  have hpw := h.blk.lt
  have HPw := hide hpw
  obtain ⟨RB, hRB⟩ : ∃ RB, w.heap.size = RB := ⟨_, rfl⟩
  have HRw := hide hRB
  have HRp : Hid (RB ∉ [p]) := hide (by simp; omega)
  have HM1 := hide ((Mod.refl [p] w).alloc (.cells #[.int .i64 0, .int .i64 0, .string ⟨#[]⟩, .slice none 0 0, .slice none 0 0] 25))
  have H1 := hide (h.mod ((Mod.refl [] w).alloc (.cells #[.int .i64 0, .int .i64 0, .string ⟨#[]⟩, .slice none 0 0, .slice none 0 0] 25)) (by simp))
  have HR1 := hide (Blk.new w 25 #[.int .i64 0, .int .i64 0, .string ⟨#[]⟩, .slice none 0 0, .slice none 0 0])
  have HSp := hide (fun w' k' (h' : Rd w' p s k') => space_any w' p k' s h')
  have HNx := hide (fun w' k' (h' : Rd w' p s k') => next_mod w' p k' s h')
  have HJ0 := hide hj
  rw [hRB] at HR1
  have hd9 : (9 : Int) - ((m + 1 : Nat) : Int) = 8 - m := by omega
  rw [hd9]
  have hd8 : ¬ (8 : Int) < 8 - m := by omega
  clear h hj hpw hd9
  go_enter Tryd.func31, Tryd.ntmps31
  go_wp2_with fail
  refine (HSp.out _ _ H1.out).mono ?_
  rintro e w2 ⟨rfl, m2, k2, hr2, hq2⟩
  have HR2 := hide (m2.blk HR1.out HRp.out)
  have HQ2 := hide hq2
  obtain ⟨VB, hVB⟩ : ∃ VB, w2.heap.size = VB := ⟨_, rfl⟩
  have HVB : Hid (RB < VB) := hide (by rw [← hVB]; exact HR2.out.lt)
  have HVp : Hid (VB ∉ [p]) := hide (by have := HVB.out; have := HPw.out; have := HRw.out; simp; omega)
  have HM3 := hide ((HM1.out.trans m2 (by simp)).alloc (.cells #[.int .i64 0, .int .i64 0, .string ⟨#[]⟩, .slice none 0 0, .slice none 0 0] 25))
  have H3 := hide (hr2.mod ((Mod.refl [] w2).alloc (.cells #[.int .i64 0, .int .i64 0, .string ⟨#[]⟩, .slice none 0 0, .slice none 0 0] 25)) (by simp))
  have HR3 := hide (HR2.out.alloc (.cells #[.int .i64 0, .int .i64 0, .string ⟨#[]⟩, .slice none 0 0, .slice none 0 0] 25))
  have HV3 := hide (Blk.new w2 25 #[.int .i64 0, .int .i64 0, .string ⟨#[]⟩, .slice none 0 0, .slice none 0 0])
  rw [hVB] at HV3
  clear m2 hr2 hq2 HM1 H1 HR1 hRB
  go_wp2_with fail
  refine (HNx.out _ _ H3.out).mono ?_
  rintro e w4 ⟨rfl, m4, hr4⟩
  have HM4 := hide (HM3.out.trans m4 (by simp))
  have H4 := hide hr4
  have HR4 := hide (m4.blk HR3.out (by simp))
  have HV4 := hide (m4.blk HV3.out (by simp))
  clear m4 hr4 HM3 H3 HR3 HV3 HR2 hVB
  by_cases hd : (rst s k2).head? = some 110
  · have e0 : ((((some (110 : UInt8)).getD 0).toNat : Nat) : Int) = 110 := rfl
    have HE0 : Hid (jvalue (m + 1) (rst s k) = ((jword [110, 117, 108, 108] (rst s k2)).bind fun _ r => .ok (JV.mk 0 0 ⟨#[]⟩ [] []) r).bind fun v r => .ok v (jsp r)) := hide (by
      rw [jvalue, ← HQ2.out]
      unfold jval1
      simp only [hd]
      rfl)
    have hWl : (⟨#[110, 117, 108, 108]⟩ : ByteArray).data.toList = [110, 117, 108, 108] := rfl
    have hWd := word_any _ p k2 s ⟨#[110, 117, 108, 108]⟩ H4.out (by decide)
    rw [hWl] at hWd
    have HWd := hide hWd
    clear hWd hWl
    rw [hd, e0]
    clear hd
    go_wp2_with fail
    refine HWd.out.mono ?_
    rintro e w5 ⟨m5, hp⟩
    have HM5 := hide (HM4.out.trans m5 (by simp))
    have HR5 := hide (m5.blk HR4.out HRp.out)
    have HV5 := hide (m5.blk HV4.out HVp.out)
    cases hx : jword [110, 117, 108, 108] (rst s k2) with
    | er r =>
      rw [hx] at hp
      obtain ⟨k3, rfl, h1, h2⟩ := hp
      have HE : Hid (jvalue (m + 1) (rst s k) = .er r) := hide (by rw [HE0.out, hx]; rfl)
      clear m5 hx
      go_wp2_with fail
      rename_i heq
      cases heq
      exact ⟨rfl, RP.er HE.out HM5.out h1 h2⟩
    | ok q r =>
      rw [hx] at hp
      obtain ⟨ky, u, rfl, rfl, h1, h2⟩ := hp
      have HEv : Hid (jvalue (m + 1) (rst s k) = .ok (JN.mk 0 0 ⟨#[]⟩ none 0 [] none 0 []).v (jsp (rst s ky))) := hide (by rw [HE0.out, hx, h2]; rfl)
      have H5 := hide h1
      clear m5 hx h1 h2
      obtain ⟨Y, hY⟩ : ∃ Y, w5 = Y := ⟨_, rfl⟩
      subst hY
      have HMY := HM5
      have HY := H5
      have HV := HV5
      have HRY := HR5
      have HXi : Hid (JIn w5 (JN.mk 0 0 ⟨#[]⟩ none 0 [] none 0 [])) := hide (JIn.plain _ _ _ _)
      have HXf : Hid (∀ g ∈ JFoot (JN.mk 0 0 ⟨#[]⟩ none 0 [] none 0 []), VB < g ∧ g < w5.heap.size) := hide (by intro g hg; simp [JFoot, JFoots] at hg)
      go_wp2_with fail
      refine (HSp.out _ _ HY.out).mono ?_
      rintro e Z ⟨rfl, mz, kz, hrz, hqz⟩
      have HMZ := hide (HMY.out.trans mz (by simp))
      have HRZ := hide (mz.blk HRY.out HRp.out)
      have HVZ := hide (mz.blk HV.out HVp.out)
      have HXz := hide (JIn.mod mz (fun g hg => by have := (HXf.out g hg).1; have := HVB.out; have := HPw.out; have := HRw.out; simp; omega) HXi.out)
      have HEz : Hid (jvalue (m + 1) (rst s k) = .ok (JN.mk 0 0 ⟨#[]⟩ none 0 [] none 0 []).v (rst s kz)) := hide (by rw [HEv.out, hqz])
      have HFz : Hid (∀ g ∈ JFoot (JN.mk 0 0 ⟨#[]⟩ none 0 [] none 0 []), w.heap.size ≤ g ∧ g < Z.heap.size) := hide (fun g hg => ⟨by have := (HXf.out g hg).1; have := HVB.out; have := HRw.out; omega, Nat.lt_of_lt_of_le (HXf.out g hg).2 mz.size⟩)
      have HFr : Hid (∀ g ∈ JFoot (JN.mk 0 0 ⟨#[]⟩ none 0 [] none 0 []), g ∉ [RB]) := hide (fun g hg => by have := (HXf.out g hg).1; have := HVB.out; have := HRw.out; simp; omega)
      have HZr := hide hrz
      clear mz hrz hqz
      have z0 : Z.cell? ⟨RB, 0, none⟩ = some (.int .i64 0) := HRZ.out.cell 0
      have zf0 : Z.frozen? ⟨RB, 0, none⟩ = false := HRZ.out.frozen 0
      have z1 : Z.cell? ⟨RB, 1, none⟩ = some (.int .i64 0) := HRZ.out.cell 1
      have zf1 : Z.frozen? ⟨RB, 1, none⟩ = false := HRZ.out.frozen 1
      have z2 : Z.cell? ⟨RB, 2, none⟩ = some (.string ⟨#[]⟩) := HRZ.out.cell 2
      have zf2 : Z.frozen? ⟨RB, 2, none⟩ = false := HRZ.out.frozen 2
      have z3 : Z.cell? ⟨RB, 3, none⟩ = some (.slice none 0 0) := HRZ.out.cell 3
      have zf3 : Z.frozen? ⟨RB, 3, none⟩ = false := HRZ.out.frozen 3
      have z4 : Z.cell? ⟨RB, 4, none⟩ = some (.slice none 0 0) := HRZ.out.cell 4
      have zf4 : Z.frozen? ⟨RB, 4, none⟩ = false := HRZ.out.frozen 4
      have zl := HRZ.out.lt
      have v0 : Z.cell? ⟨VB, 0, none⟩ = some (.int .i64 0) := HVZ.out.cell 0
      have vf0 : Z.frozen? ⟨VB, 0, none⟩ = false := HVZ.out.frozen 0
      have v1 : Z.cell? ⟨VB, 1, none⟩ = some (.int .i64 0) := HVZ.out.cell 1
      have vf1 : Z.frozen? ⟨VB, 1, none⟩ = false := HVZ.out.frozen 1
      have v2 : Z.cell? ⟨VB, 2, none⟩ = some (.string ⟨#[]⟩) := HVZ.out.cell 2
      have vf2 : Z.frozen? ⟨VB, 2, none⟩ = false := HVZ.out.frozen 2
      have v3 : Z.cell? ⟨VB, 3, none⟩ = some (.slice none 0 0) := HVZ.out.cell 3
      have vf3 : Z.frozen? ⟨VB, 3, none⟩ = false := HVZ.out.frozen 3
      have v4 : Z.cell? ⟨VB, 4, none⟩ = some (.slice none 0 0) := HVZ.out.cell 4
      have vf4 : Z.frozen? ⟨VB, 4, none⟩ = false := HVZ.out.frozen 4
      have vl := HVZ.out.lt
      have HW := hide (jsets_blk (JN.mk 0 0 ⟨#[]⟩ none 0 [] none 0 []).cells HRZ.out rfl (JN.mk 0 0 ⟨#[]⟩ none 0 [] none 0 []).cells_size)
      have HWm := hide (jsets_mod Z RB (JN.mk 0 0 ⟨#[]⟩ none 0 [] none 0 []).cells)
      try unfold JN.cells at HW HWm
      go_wp2_with fail
      refine bodyPost_ret (results_cell_row rfl _ _ RB 25 (#[.int .i64 0, .int .i64 0, .string ⟨#[]⟩, .slice none 0 0, .slice none 0 0]) (0, 0) _ rfl ?_ Tryd.underlying25 rfl (by kernel_rfl)) rfl ?_
      · exact HW.out
      exact RP.ok HEz.out (HMZ.out.trans HWm.out (by simp only [List.mem_singleton]; rintro _ rfl; right; have := HRw.out; omega)) ⟨(JN.mk 0 0 ⟨#[]⟩ none 0 [] none 0 []), rfl, rfl, JIn.mod HWm.out HFr.out HXz.out, fun g hg => ⟨(HFz.out g hg).1, Nat.lt_of_lt_of_le (HFz.out g hg).2 HWm.out.size⟩⟩ (HZr.out.mod HWm.out (by have := HRp.out; simp at this ⊢; omega)) rfl
  have hd110 := hd
  clear hd
  by_cases hd : (rst s k2).head? = some 102
  · have e0 : ((((some (102 : UInt8)).getD 0).toNat : Nat) : Int) = 102 := rfl
    have HE0 : Hid (jvalue (m + 1) (rst s k) = ((jword [102, 97, 108, 115, 101] (rst s k2)).bind fun _ r => .ok (JV.mk 1 0 ⟨#[]⟩ [] []) r).bind fun v r => .ok v (jsp r)) := hide (by
      rw [jvalue, ← HQ2.out]
      unfold jval1
      simp only [hd]
      rfl)
    have hWl : (⟨#[102, 97, 108, 115, 101]⟩ : ByteArray).data.toList = [102, 97, 108, 115, 101] := rfl
    have hWd := word_any _ p k2 s ⟨#[102, 97, 108, 115, 101]⟩ H4.out (by decide)
    rw [hWl] at hWd
    have HWd := hide hWd
    clear hWd hWl
    rw [hd, e0]
    clear hd
    go_wp2_with fail
    refine HWd.out.mono ?_
    rintro e w5 ⟨m5, hp⟩
    have HM5 := hide (HM4.out.trans m5 (by simp))
    have HR5 := hide (m5.blk HR4.out HRp.out)
    have HV5 := hide (m5.blk HV4.out HVp.out)
    cases hx : jword [102, 97, 108, 115, 101] (rst s k2) with
    | er r =>
      rw [hx] at hp
      obtain ⟨k3, rfl, h1, h2⟩ := hp
      have HE : Hid (jvalue (m + 1) (rst s k) = .er r) := hide (by rw [HE0.out, hx]; rfl)
      clear m5 hx
      go_wp2_with fail
      rename_i heq
      cases heq
      exact ⟨rfl, RP.er HE.out HM5.out h1 h2⟩
    | ok q r =>
      rw [hx] at hp
      obtain ⟨ky, u, rfl, rfl, h1, h2⟩ := hp
      have HEv : Hid (jvalue (m + 1) (rst s k) = .ok (JN.mk 1 0 ⟨#[]⟩ none 0 [] none 0 []).v (jsp (rst s ky))) := hide (by rw [HE0.out, hx, h2]; rfl)
      have H5 := hide h1
      clear m5 hx h1 h2
      have v0 : w5.cell? ⟨VB, 0, none⟩ = some (.int .i64 0) := HV5.out.cell 0
      have vf0 : w5.frozen? ⟨VB, 0, none⟩ = false := HV5.out.frozen 0
      have v1 : w5.cell? ⟨VB, 1, none⟩ = some (.int .i64 0) := HV5.out.cell 1
      have vf1 : w5.frozen? ⟨VB, 1, none⟩ = false := HV5.out.frozen 1
      have v2 : w5.cell? ⟨VB, 2, none⟩ = some (.string ⟨#[]⟩) := HV5.out.cell 2
      have vf2 : w5.frozen? ⟨VB, 2, none⟩ = false := HV5.out.frozen 2
      have v3 : w5.cell? ⟨VB, 3, none⟩ = some (.slice none 0 0) := HV5.out.cell 3
      have vf3 : w5.frozen? ⟨VB, 3, none⟩ = false := HV5.out.frozen 3
      have v4 : w5.cell? ⟨VB, 4, none⟩ = some (.slice none 0 0) := HV5.out.cell 4
      have vf4 : w5.frozen? ⟨VB, 4, none⟩ = false := HV5.out.frozen 4
      have vl := HV5.out.lt
      go_wp2_with fail
      have m6 : Mod [p] w (w5.setCell ⟨VB, 0, none⟩ (.int .i64 1)) := HM5.out.setCell (p := ⟨VB, 0, none⟩) (.inr (by have := HVB.out; have := HRw.out; show w.heap.size ≤ VB; omega)) _
      have hv6 : Blk (w5.setCell ⟨VB, 0, none⟩ (.int .i64 1)) VB 25 (JN.mk 1 0 ⟨#[]⟩ none 0 [] none 0 []).cells := HV5.out.set_ 0 (.int .i64 1)
      have hr6 : Blk (w5.setCell ⟨VB, 0, none⟩ (.int .i64 1)) RB 25 #[.int .i64 0, .int .i64 0, .string ⟨#[]⟩, .slice none 0 0, .slice none 0 0] := HR5.out.far (p := ⟨VB, 0, none⟩) (by have := HVB.out; show RB ≠ VB; omega) _
      have hy6 : Rd (w5.setCell ⟨VB, 0, none⟩ (.int .i64 1)) p s ky := ⟨H5.out.blk.far (p := ⟨VB, 0, none⟩) (by have := HVB.out; have := HPw.out; have := HRw.out; show p ≠ VB; omega) _, H5.out.le, H5.out.small⟩
      obtain ⟨Y, hY⟩ : ∃ Y, w5.setCell ⟨VB, 0, none⟩ (.int .i64 1) = Y := ⟨_, rfl⟩
      rw [hY] at m6 hv6 hr6 hy6
      rw [hY]
      have HMY := hide m6
      have HY := hide hy6
      have HV := hide hv6
      have HRY := hide hr6
      have HXi : Hid (JIn Y (JN.mk 1 0 ⟨#[]⟩ none 0 [] none 0 [])) := hide (JIn.plain _ _ _ _)
      have HXf : Hid (∀ g ∈ JFoot (JN.mk 1 0 ⟨#[]⟩ none 0 [] none 0 []), VB < g ∧ g < Y.heap.size) := hide (by intro g hg; simp [JFoot, JFoots] at hg)
      clear m6 hv6 hr6 hy6 hY v0 vf0 v1 vf1 v2 vf2 v3 vf3 v4 vf4 vl
      go_wp2_with fail
      refine (HSp.out _ _ HY.out).mono ?_
      rintro e Z ⟨rfl, mz, kz, hrz, hqz⟩
      have HMZ := hide (HMY.out.trans mz (by simp))
      have HRZ := hide (mz.blk HRY.out HRp.out)
      have HVZ := hide (mz.blk HV.out HVp.out)
      have HXz := hide (JIn.mod mz (fun g hg => by have := (HXf.out g hg).1; have := HVB.out; have := HPw.out; have := HRw.out; simp; omega) HXi.out)
      have HEz : Hid (jvalue (m + 1) (rst s k) = .ok (JN.mk 1 0 ⟨#[]⟩ none 0 [] none 0 []).v (rst s kz)) := hide (by rw [HEv.out, hqz])
      have HFz : Hid (∀ g ∈ JFoot (JN.mk 1 0 ⟨#[]⟩ none 0 [] none 0 []), w.heap.size ≤ g ∧ g < Z.heap.size) := hide (fun g hg => ⟨by have := (HXf.out g hg).1; have := HVB.out; have := HRw.out; omega, Nat.lt_of_lt_of_le (HXf.out g hg).2 mz.size⟩)
      have HFr : Hid (∀ g ∈ JFoot (JN.mk 1 0 ⟨#[]⟩ none 0 [] none 0 []), g ∉ [RB]) := hide (fun g hg => by have := (HXf.out g hg).1; have := HVB.out; have := HRw.out; simp; omega)
      have HZr := hide hrz
      clear mz hrz hqz
      have z0 : Z.cell? ⟨RB, 0, none⟩ = some (.int .i64 0) := HRZ.out.cell 0
      have zf0 : Z.frozen? ⟨RB, 0, none⟩ = false := HRZ.out.frozen 0
      have z1 : Z.cell? ⟨RB, 1, none⟩ = some (.int .i64 0) := HRZ.out.cell 1
      have zf1 : Z.frozen? ⟨RB, 1, none⟩ = false := HRZ.out.frozen 1
      have z2 : Z.cell? ⟨RB, 2, none⟩ = some (.string ⟨#[]⟩) := HRZ.out.cell 2
      have zf2 : Z.frozen? ⟨RB, 2, none⟩ = false := HRZ.out.frozen 2
      have z3 : Z.cell? ⟨RB, 3, none⟩ = some (.slice none 0 0) := HRZ.out.cell 3
      have zf3 : Z.frozen? ⟨RB, 3, none⟩ = false := HRZ.out.frozen 3
      have z4 : Z.cell? ⟨RB, 4, none⟩ = some (.slice none 0 0) := HRZ.out.cell 4
      have zf4 : Z.frozen? ⟨RB, 4, none⟩ = false := HRZ.out.frozen 4
      have zl := HRZ.out.lt
      have v0 : Z.cell? ⟨VB, 0, none⟩ = some (.int .i64 1) := HVZ.out.cell 0
      have vf0 : Z.frozen? ⟨VB, 0, none⟩ = false := HVZ.out.frozen 0
      have v1 : Z.cell? ⟨VB, 1, none⟩ = some (.int .i64 0) := HVZ.out.cell 1
      have vf1 : Z.frozen? ⟨VB, 1, none⟩ = false := HVZ.out.frozen 1
      have v2 : Z.cell? ⟨VB, 2, none⟩ = some (.string ⟨#[]⟩) := HVZ.out.cell 2
      have vf2 : Z.frozen? ⟨VB, 2, none⟩ = false := HVZ.out.frozen 2
      have v3 : Z.cell? ⟨VB, 3, none⟩ = some (.slice none 0 0) := HVZ.out.cell 3
      have vf3 : Z.frozen? ⟨VB, 3, none⟩ = false := HVZ.out.frozen 3
      have v4 : Z.cell? ⟨VB, 4, none⟩ = some (.slice none 0 0) := HVZ.out.cell 4
      have vf4 : Z.frozen? ⟨VB, 4, none⟩ = false := HVZ.out.frozen 4
      have vl := HVZ.out.lt
      have HW := hide (jsets_blk (JN.mk 1 0 ⟨#[]⟩ none 0 [] none 0 []).cells HRZ.out rfl (JN.mk 1 0 ⟨#[]⟩ none 0 [] none 0 []).cells_size)
      have HWm := hide (jsets_mod Z RB (JN.mk 1 0 ⟨#[]⟩ none 0 [] none 0 []).cells)
      try unfold JN.cells at HW HWm
      go_wp2_with fail
      refine bodyPost_ret (results_cell_row rfl _ _ RB 25 (#[.int .i64 1, .int .i64 0, .string ⟨#[]⟩, .slice none 0 0, .slice none 0 0]) (0, 0) _ rfl ?_ Tryd.underlying25 rfl (by kernel_rfl)) rfl ?_
      · exact HW.out
      exact RP.ok HEz.out (HMZ.out.trans HWm.out (by simp only [List.mem_singleton]; rintro _ rfl; right; have := HRw.out; omega)) ⟨(JN.mk 1 0 ⟨#[]⟩ none 0 [] none 0 []), rfl, rfl, JIn.mod HWm.out HFr.out HXz.out, fun g hg => ⟨(HFz.out g hg).1, Nat.lt_of_lt_of_le (HFz.out g hg).2 HWm.out.size⟩⟩ (HZr.out.mod HWm.out (by have := HRp.out; simp at this ⊢; omega)) rfl
  have hd102 := hd
  clear hd
  by_cases hd : (rst s k2).head? = some 116
  · have e0 : ((((some (116 : UInt8)).getD 0).toNat : Nat) : Int) = 116 := rfl
    have HE0 : Hid (jvalue (m + 1) (rst s k) = ((jword [116, 114, 117, 101] (rst s k2)).bind fun _ r => .ok (JV.mk 2 0 ⟨#[]⟩ [] []) r).bind fun v r => .ok v (jsp r)) := hide (by
      rw [jvalue, ← HQ2.out]
      unfold jval1
      simp only [hd]
      rfl)
    have hWl : (⟨#[116, 114, 117, 101]⟩ : ByteArray).data.toList = [116, 114, 117, 101] := rfl
    have hWd := word_any _ p k2 s ⟨#[116, 114, 117, 101]⟩ H4.out (by decide)
    rw [hWl] at hWd
    have HWd := hide hWd
    clear hWd hWl
    rw [hd, e0]
    clear hd
    go_wp2_with fail
    refine HWd.out.mono ?_
    rintro e w5 ⟨m5, hp⟩
    have HM5 := hide (HM4.out.trans m5 (by simp))
    have HR5 := hide (m5.blk HR4.out HRp.out)
    have HV5 := hide (m5.blk HV4.out HVp.out)
    cases hx : jword [116, 114, 117, 101] (rst s k2) with
    | er r =>
      rw [hx] at hp
      obtain ⟨k3, rfl, h1, h2⟩ := hp
      have HE : Hid (jvalue (m + 1) (rst s k) = .er r) := hide (by rw [HE0.out, hx]; rfl)
      clear m5 hx
      go_wp2_with fail
      rename_i heq
      cases heq
      exact ⟨rfl, RP.er HE.out HM5.out h1 h2⟩
    | ok q r =>
      rw [hx] at hp
      obtain ⟨ky, u, rfl, rfl, h1, h2⟩ := hp
      have HEv : Hid (jvalue (m + 1) (rst s k) = .ok (JN.mk 2 0 ⟨#[]⟩ none 0 [] none 0 []).v (jsp (rst s ky))) := hide (by rw [HE0.out, hx, h2]; rfl)
      have H5 := hide h1
      clear m5 hx h1 h2
      have v0 : w5.cell? ⟨VB, 0, none⟩ = some (.int .i64 0) := HV5.out.cell 0
      have vf0 : w5.frozen? ⟨VB, 0, none⟩ = false := HV5.out.frozen 0
      have v1 : w5.cell? ⟨VB, 1, none⟩ = some (.int .i64 0) := HV5.out.cell 1
      have vf1 : w5.frozen? ⟨VB, 1, none⟩ = false := HV5.out.frozen 1
      have v2 : w5.cell? ⟨VB, 2, none⟩ = some (.string ⟨#[]⟩) := HV5.out.cell 2
      have vf2 : w5.frozen? ⟨VB, 2, none⟩ = false := HV5.out.frozen 2
      have v3 : w5.cell? ⟨VB, 3, none⟩ = some (.slice none 0 0) := HV5.out.cell 3
      have vf3 : w5.frozen? ⟨VB, 3, none⟩ = false := HV5.out.frozen 3
      have v4 : w5.cell? ⟨VB, 4, none⟩ = some (.slice none 0 0) := HV5.out.cell 4
      have vf4 : w5.frozen? ⟨VB, 4, none⟩ = false := HV5.out.frozen 4
      have vl := HV5.out.lt
      go_wp2_with fail
      have m6 : Mod [p] w (w5.setCell ⟨VB, 0, none⟩ (.int .i64 2)) := HM5.out.setCell (p := ⟨VB, 0, none⟩) (.inr (by have := HVB.out; have := HRw.out; show w.heap.size ≤ VB; omega)) _
      have hv6 : Blk (w5.setCell ⟨VB, 0, none⟩ (.int .i64 2)) VB 25 (JN.mk 2 0 ⟨#[]⟩ none 0 [] none 0 []).cells := HV5.out.set_ 0 (.int .i64 2)
      have hr6 : Blk (w5.setCell ⟨VB, 0, none⟩ (.int .i64 2)) RB 25 #[.int .i64 0, .int .i64 0, .string ⟨#[]⟩, .slice none 0 0, .slice none 0 0] := HR5.out.far (p := ⟨VB, 0, none⟩) (by have := HVB.out; show RB ≠ VB; omega) _
      have hy6 : Rd (w5.setCell ⟨VB, 0, none⟩ (.int .i64 2)) p s ky := ⟨H5.out.blk.far (p := ⟨VB, 0, none⟩) (by have := HVB.out; have := HPw.out; have := HRw.out; show p ≠ VB; omega) _, H5.out.le, H5.out.small⟩
      obtain ⟨Y, hY⟩ : ∃ Y, w5.setCell ⟨VB, 0, none⟩ (.int .i64 2) = Y := ⟨_, rfl⟩
      rw [hY] at m6 hv6 hr6 hy6
      rw [hY]
      have HMY := hide m6
      have HY := hide hy6
      have HV := hide hv6
      have HRY := hide hr6
      have HXi : Hid (JIn Y (JN.mk 2 0 ⟨#[]⟩ none 0 [] none 0 [])) := hide (JIn.plain _ _ _ _)
      have HXf : Hid (∀ g ∈ JFoot (JN.mk 2 0 ⟨#[]⟩ none 0 [] none 0 []), VB < g ∧ g < Y.heap.size) := hide (by intro g hg; simp [JFoot, JFoots] at hg)
      clear m6 hv6 hr6 hy6 hY v0 vf0 v1 vf1 v2 vf2 v3 vf3 v4 vf4 vl
      go_wp2_with fail
      refine (HSp.out _ _ HY.out).mono ?_
      rintro e Z ⟨rfl, mz, kz, hrz, hqz⟩
      have HMZ := hide (HMY.out.trans mz (by simp))
      have HRZ := hide (mz.blk HRY.out HRp.out)
      have HVZ := hide (mz.blk HV.out HVp.out)
      have HXz := hide (JIn.mod mz (fun g hg => by have := (HXf.out g hg).1; have := HVB.out; have := HPw.out; have := HRw.out; simp; omega) HXi.out)
      have HEz : Hid (jvalue (m + 1) (rst s k) = .ok (JN.mk 2 0 ⟨#[]⟩ none 0 [] none 0 []).v (rst s kz)) := hide (by rw [HEv.out, hqz])
      have HFz : Hid (∀ g ∈ JFoot (JN.mk 2 0 ⟨#[]⟩ none 0 [] none 0 []), w.heap.size ≤ g ∧ g < Z.heap.size) := hide (fun g hg => ⟨by have := (HXf.out g hg).1; have := HVB.out; have := HRw.out; omega, Nat.lt_of_lt_of_le (HXf.out g hg).2 mz.size⟩)
      have HFr : Hid (∀ g ∈ JFoot (JN.mk 2 0 ⟨#[]⟩ none 0 [] none 0 []), g ∉ [RB]) := hide (fun g hg => by have := (HXf.out g hg).1; have := HVB.out; have := HRw.out; simp; omega)
      have HZr := hide hrz
      clear mz hrz hqz
      have z0 : Z.cell? ⟨RB, 0, none⟩ = some (.int .i64 0) := HRZ.out.cell 0
      have zf0 : Z.frozen? ⟨RB, 0, none⟩ = false := HRZ.out.frozen 0
      have z1 : Z.cell? ⟨RB, 1, none⟩ = some (.int .i64 0) := HRZ.out.cell 1
      have zf1 : Z.frozen? ⟨RB, 1, none⟩ = false := HRZ.out.frozen 1
      have z2 : Z.cell? ⟨RB, 2, none⟩ = some (.string ⟨#[]⟩) := HRZ.out.cell 2
      have zf2 : Z.frozen? ⟨RB, 2, none⟩ = false := HRZ.out.frozen 2
      have z3 : Z.cell? ⟨RB, 3, none⟩ = some (.slice none 0 0) := HRZ.out.cell 3
      have zf3 : Z.frozen? ⟨RB, 3, none⟩ = false := HRZ.out.frozen 3
      have z4 : Z.cell? ⟨RB, 4, none⟩ = some (.slice none 0 0) := HRZ.out.cell 4
      have zf4 : Z.frozen? ⟨RB, 4, none⟩ = false := HRZ.out.frozen 4
      have zl := HRZ.out.lt
      have v0 : Z.cell? ⟨VB, 0, none⟩ = some (.int .i64 2) := HVZ.out.cell 0
      have vf0 : Z.frozen? ⟨VB, 0, none⟩ = false := HVZ.out.frozen 0
      have v1 : Z.cell? ⟨VB, 1, none⟩ = some (.int .i64 0) := HVZ.out.cell 1
      have vf1 : Z.frozen? ⟨VB, 1, none⟩ = false := HVZ.out.frozen 1
      have v2 : Z.cell? ⟨VB, 2, none⟩ = some (.string ⟨#[]⟩) := HVZ.out.cell 2
      have vf2 : Z.frozen? ⟨VB, 2, none⟩ = false := HVZ.out.frozen 2
      have v3 : Z.cell? ⟨VB, 3, none⟩ = some (.slice none 0 0) := HVZ.out.cell 3
      have vf3 : Z.frozen? ⟨VB, 3, none⟩ = false := HVZ.out.frozen 3
      have v4 : Z.cell? ⟨VB, 4, none⟩ = some (.slice none 0 0) := HVZ.out.cell 4
      have vf4 : Z.frozen? ⟨VB, 4, none⟩ = false := HVZ.out.frozen 4
      have vl := HVZ.out.lt
      have HW := hide (jsets_blk (JN.mk 2 0 ⟨#[]⟩ none 0 [] none 0 []).cells HRZ.out rfl (JN.mk 2 0 ⟨#[]⟩ none 0 [] none 0 []).cells_size)
      have HWm := hide (jsets_mod Z RB (JN.mk 2 0 ⟨#[]⟩ none 0 [] none 0 []).cells)
      try unfold JN.cells at HW HWm
      go_wp2_with fail
      refine bodyPost_ret (results_cell_row rfl _ _ RB 25 (#[.int .i64 2, .int .i64 0, .string ⟨#[]⟩, .slice none 0 0, .slice none 0 0]) (0, 0) _ rfl ?_ Tryd.underlying25 rfl (by kernel_rfl)) rfl ?_
      · exact HW.out
      exact RP.ok HEz.out (HMZ.out.trans HWm.out (by simp only [List.mem_singleton]; rintro _ rfl; right; have := HRw.out; omega)) ⟨(JN.mk 2 0 ⟨#[]⟩ none 0 [] none 0 []), rfl, rfl, JIn.mod HWm.out HFr.out HXz.out, fun g hg => ⟨(HFz.out g hg).1, Nat.lt_of_lt_of_le (HFz.out g hg).2 HWm.out.size⟩⟩ (HZr.out.mod HWm.out (by have := HRp.out; simp at this ⊢; omega)) rfl
  have hd116 := hd
  clear hd
  by_cases hd : (rst s k2).head? = some 34
  · have e0 : ((((some (34 : UInt8)).getD 0).toNat : Nat) : Int) = 34 := rfl
    have HE0 : Hid (jvalue (m + 1) (rst s k) = ((jtext (rst s k2)).bind fun t r => .ok (JV.mk 4 0 (tob t) [] []) r).bind fun v r => .ok v (jsp r)) := hide (by
      rw [jvalue, ← HQ2.out]
      unfold jval1
      simp only [hd]
      rfl)
    have HCl := hide (text_any _ p k2 s H4.out)
    rw [hd, e0]
    clear hd
    go_wp2_with fail
    refine HCl.out.mono ?_
    rintro e w5 ⟨m5, hp⟩
    have HM5 := hide (HM4.out.trans m5 (by simp))
    have HR5 := hide (m5.blk HR4.out HRp.out)
    have HV5 := hide (m5.blk HV4.out HVp.out)
    cases hx : jtext (rst s k2) with
    | er r =>
      rw [hx] at hp
      obtain ⟨k3, rfl, h1, h2⟩ := hp
      have HE : Hid (jvalue (m + 1) (rst s k) = .er r) := hide (by rw [HE0.out, hx]; rfl)
      clear m5 hx
      go_wp2_with fail
      rename_i heq
      cases heq
      exact ⟨rfl, RP.er HE.out HM5.out h1 h2⟩
    | ok q r =>
      rw [hx] at hp
      obtain ⟨ky, u, rfl, rfl, h1, h2⟩ := hp
      have HEv : Hid (jvalue (m + 1) (rst s k) = .ok (JN.mk 4 0 (tob q) none 0 [] none 0 []).v (jsp (rst s ky))) := hide (by rw [HE0.out, hx, h2]; rfl)
      have H5 := hide h1
      clear m5 hx h1 h2
      have v0 : w5.cell? ⟨VB, 0, none⟩ = some (.int .i64 0) := HV5.out.cell 0
      have vf0 : w5.frozen? ⟨VB, 0, none⟩ = false := HV5.out.frozen 0
      have v1 : w5.cell? ⟨VB, 1, none⟩ = some (.int .i64 0) := HV5.out.cell 1
      have vf1 : w5.frozen? ⟨VB, 1, none⟩ = false := HV5.out.frozen 1
      have v2 : w5.cell? ⟨VB, 2, none⟩ = some (.string ⟨#[]⟩) := HV5.out.cell 2
      have vf2 : w5.frozen? ⟨VB, 2, none⟩ = false := HV5.out.frozen 2
      have v3 : w5.cell? ⟨VB, 3, none⟩ = some (.slice none 0 0) := HV5.out.cell 3
      have vf3 : w5.frozen? ⟨VB, 3, none⟩ = false := HV5.out.frozen 3
      have v4 : w5.cell? ⟨VB, 4, none⟩ = some (.slice none 0 0) := HV5.out.cell 4
      have vf4 : w5.frozen? ⟨VB, 4, none⟩ = false := HV5.out.frozen 4
      have vl := HV5.out.lt
      have hm6 := jsets_mod w5 VB (JN.mk 4 0 (tob q) none 0 [] none 0 []).cells
      have hv6 := jsets_blk (JN.mk 4 0 (tob q) none 0 [] none 0 []).cells HV5.out rfl (JN.mk 4 0 (tob q) none 0 [] none 0 []).cells_size
      have hr6 := hm6.blk HR5.out (by have := HVB.out; simp; omega)
      have hy6 := H5.out.mod hm6 (by have := HVB.out; have := HPw.out; have := HRw.out; simp; omega)
      have m6 := HM5.out.trans hm6 (by simp only [List.mem_singleton]; rintro _ rfl; right; have := HVB.out; have := HRw.out; omega)
      unfold str
      go_wp2_with fail
      obtain ⟨Y, hY⟩ : ∃ Y, jsets w5 VB (JN.mk 4 0 (tob q) none 0 [] none 0 []).cells = Y := ⟨_, rfl⟩
      rw [hY] at hv6 hr6 hy6 m6
      change _
      have hY2 := hY
      unfold JN.cells at hY2
      simp only [jsets, show List.range 5 = [0, 1, 2, 3, 4] from rfl, List.foldl_cons, List.foldl_nil] at hY2
      first | rw [hY2] | (simp only [hY2]) | (erw [hY2]) | trace_state
      have HMY := hide m6
      have HY := hide hy6
      have HV := hide hv6
      have HRY := hide hr6
      have HXi : Hid (JIn Y (JN.mk 4 0 (tob q) none 0 [] none 0 [])) := hide (JIn.plain _ _ _ _)
      have HXf : Hid (∀ g ∈ JFoot (JN.mk 4 0 (tob q) none 0 [] none 0 []), VB < g ∧ g < Y.heap.size) := hide (by intro g hg; simp [JFoot, JFoots] at hg)
      clear m6 hv6 hr6 hy6 hY hY2 hm6 v0 vf0 v1 vf1 v2 vf2 v3 vf3 v4 vf4 vl
      go_wp2_with fail
      refine (HSp.out _ _ HY.out).mono ?_
      rintro e Z ⟨rfl, mz, kz, hrz, hqz⟩
      have HMZ := hide (HMY.out.trans mz (by simp))
      have HRZ := hide (mz.blk HRY.out HRp.out)
      have HVZ := hide (mz.blk HV.out HVp.out)
      have HXz := hide (JIn.mod mz (fun g hg => by have := (HXf.out g hg).1; have := HVB.out; have := HPw.out; have := HRw.out; simp; omega) HXi.out)
      have HEz : Hid (jvalue (m + 1) (rst s k) = .ok (JN.mk 4 0 (tob q) none 0 [] none 0 []).v (rst s kz)) := hide (by rw [HEv.out, hqz])
      have HFz : Hid (∀ g ∈ JFoot (JN.mk 4 0 (tob q) none 0 [] none 0 []), w.heap.size ≤ g ∧ g < Z.heap.size) := hide (fun g hg => ⟨by have := (HXf.out g hg).1; have := HVB.out; have := HRw.out; omega, Nat.lt_of_lt_of_le (HXf.out g hg).2 mz.size⟩)
      have HFr : Hid (∀ g ∈ JFoot (JN.mk 4 0 (tob q) none 0 [] none 0 []), g ∉ [RB]) := hide (fun g hg => by have := (HXf.out g hg).1; have := HVB.out; have := HRw.out; simp; omega)
      have HZr := hide hrz
      clear mz hrz hqz
      have z0 : Z.cell? ⟨RB, 0, none⟩ = some (.int .i64 0) := HRZ.out.cell 0
      have zf0 : Z.frozen? ⟨RB, 0, none⟩ = false := HRZ.out.frozen 0
      have z1 : Z.cell? ⟨RB, 1, none⟩ = some (.int .i64 0) := HRZ.out.cell 1
      have zf1 : Z.frozen? ⟨RB, 1, none⟩ = false := HRZ.out.frozen 1
      have z2 : Z.cell? ⟨RB, 2, none⟩ = some (.string ⟨#[]⟩) := HRZ.out.cell 2
      have zf2 : Z.frozen? ⟨RB, 2, none⟩ = false := HRZ.out.frozen 2
      have z3 : Z.cell? ⟨RB, 3, none⟩ = some (.slice none 0 0) := HRZ.out.cell 3
      have zf3 : Z.frozen? ⟨RB, 3, none⟩ = false := HRZ.out.frozen 3
      have z4 : Z.cell? ⟨RB, 4, none⟩ = some (.slice none 0 0) := HRZ.out.cell 4
      have zf4 : Z.frozen? ⟨RB, 4, none⟩ = false := HRZ.out.frozen 4
      have zl := HRZ.out.lt
      have v0 : Z.cell? ⟨VB, 0, none⟩ = some (.int .i64 4) := HVZ.out.cell 0
      have vf0 : Z.frozen? ⟨VB, 0, none⟩ = false := HVZ.out.frozen 0
      have v1 : Z.cell? ⟨VB, 1, none⟩ = some (.int .i64 0) := HVZ.out.cell 1
      have vf1 : Z.frozen? ⟨VB, 1, none⟩ = false := HVZ.out.frozen 1
      have v2 : Z.cell? ⟨VB, 2, none⟩ = some (.string (tob q)) := HVZ.out.cell 2
      have vf2 : Z.frozen? ⟨VB, 2, none⟩ = false := HVZ.out.frozen 2
      have v3 : Z.cell? ⟨VB, 3, none⟩ = some (.slice none 0 0) := HVZ.out.cell 3
      have vf3 : Z.frozen? ⟨VB, 3, none⟩ = false := HVZ.out.frozen 3
      have v4 : Z.cell? ⟨VB, 4, none⟩ = some (.slice none 0 0) := HVZ.out.cell 4
      have vf4 : Z.frozen? ⟨VB, 4, none⟩ = false := HVZ.out.frozen 4
      have vl := HVZ.out.lt
      have HW := hide (jsets_blk (JN.mk 4 0 (tob q) none 0 [] none 0 []).cells HRZ.out rfl (JN.mk 4 0 (tob q) none 0 [] none 0 []).cells_size)
      have HWm := hide (jsets_mod Z RB (JN.mk 4 0 (tob q) none 0 [] none 0 []).cells)
      try unfold JN.cells at HW HWm
      go_wp2_with fail
      refine bodyPost_ret (results_cell_row rfl _ _ RB 25 (#[.int .i64 4, .int .i64 0, .string (tob q), .slice none 0 0, .slice none 0 0]) (0, 0) _ rfl ?_ Tryd.underlying25 rfl (by kernel_rfl)) rfl ?_
      · exact HW.out
      exact RP.ok HEz.out (HMZ.out.trans HWm.out (by simp only [List.mem_singleton]; rintro _ rfl; right; have := HRw.out; omega)) ⟨(JN.mk 4 0 (tob q) none 0 [] none 0 []), rfl, rfl, JIn.mod HWm.out HFr.out HXz.out, fun g hg => ⟨(HFz.out g hg).1, Nat.lt_of_lt_of_le (HFz.out g hg).2 HWm.out.size⟩⟩ (HZr.out.mod HWm.out (by have := HRp.out; simp at this ⊢; omega)) rfl
  have hd34 := hd
  clear hd
  by_cases hd : (rst s k2).head? = some 91
  · have e0 : ((((some (91 : UInt8)).getD 0).toNat : Nat) : Int) = 91 := rfl
    obtain ⟨tt, htt⟩ : ∃ t, rst s k2 = 91 :: t := by
      cases hq : rst s k2 with
      | nil => rw [hq] at hd; cases hd
      | cons c t => rw [hq] at hd; cases hd; exact ⟨t, rfl⟩
    obtain ⟨hk2, -, hkt⟩ := rst_cons htt
    have HE0 : Hid (jvalue (m + 1) (rst s k) = ((jlist (jvalue m) false (rst s (k2 + 1))).bind fun x r => .ok (JV.mk 5 0 ⟨#[]⟩ x.1 (x.2.map tob)) r).bind fun v r => .ok v (jsp r)) := hide (by
      rw [jvalue, ← HQ2.out, hkt]
      unfold jval1
      simp only [hd, htt, List.tail_cons]
      rfl)
    have HK2 := hide hk2
    rw [hd, e0]
    clear hd htt hk2 hkt
    have v0 : w4.cell? ⟨VB, 0, none⟩ = some (.int .i64 0) := HV4.out.cell 0
    have vf0 : w4.frozen? ⟨VB, 0, none⟩ = false := HV4.out.frozen 0
    have v1 : w4.cell? ⟨VB, 1, none⟩ = some (.int .i64 0) := HV4.out.cell 1
    have vf1 : w4.frozen? ⟨VB, 1, none⟩ = false := HV4.out.frozen 1
    have v2 : w4.cell? ⟨VB, 2, none⟩ = some (.string ⟨#[]⟩) := HV4.out.cell 2
    have vf2 : w4.frozen? ⟨VB, 2, none⟩ = false := HV4.out.frozen 2
    have v3 : w4.cell? ⟨VB, 3, none⟩ = some (.slice none 0 0) := HV4.out.cell 3
    have vf3 : w4.frozen? ⟨VB, 3, none⟩ = false := HV4.out.frozen 3
    have v4 : w4.cell? ⟨VB, 4, none⟩ = some (.slice none 0 0) := HV4.out.cell 4
    have vf4 : w4.frozen? ⟨VB, 4, none⟩ = false := HV4.out.frozen 4
    have vl := HV4.out.lt
    go_wp2_with fail
    have hm5 : Mod [p] w (w4.setCell ⟨VB, 0, none⟩ (.int .i64 5)) := HM4.out.setCell (p := ⟨VB, 0, none⟩) (.inr (by have := HVB.out; have := HRw.out; show w.heap.size ≤ VB; omega)) _
    have hv5 : Blk (w4.setCell ⟨VB, 0, none⟩ (.int .i64 5)) VB 25 (JN.mk 5 0 ⟨#[]⟩ none 0 [] none 0 []).cells := HV4.out.set_ 0 (.int .i64 5)
    have hr5 : Blk (w4.setCell ⟨VB, 0, none⟩ (.int .i64 5)) RB 25 #[.int .i64 0, .int .i64 0, .string ⟨#[]⟩, .slice none 0 0, .slice none 0 0] := HR4.out.far (p := ⟨VB, 0, none⟩) (by have := HVB.out; show RB ≠ VB; omega) _
    have hy5 : Rd (w4.setCell ⟨VB, 0, none⟩ (.int .i64 5)) p s k2 := ⟨H4.out.blk.far (p := ⟨VB, 0, none⟩) (by have := HVB.out; have := HPw.out; have := HRw.out; show p ≠ VB; omega) _, H4.out.le, H4.out.small⟩
    obtain ⟨w5, hw5⟩ : ∃ Y, w4.setCell ⟨VB, 0, none⟩ (.int .i64 5) = Y := ⟨_, rfl⟩
    rw [hw5] at hm5 hv5 hr5 hy5
    rw [hw5]
    have hj5 : JVars p w5 := HJ0.out.mod hm5 (by have := HPw.out; omega) (by simp)
    have hpvb : p < VB := by have := HVB.out; have := HPw.out; have := HRw.out; omega
    have HMn := hide (many_false m (by omega) hV w5 p k2 VB s hy5 HK2.out hv5 hpvb hj5)
    have HM5 := hide hm5
    have HR5 := hide hr5
    have HV5 := hide hv5
    clear hm5 hv5 hr5 hy5 hj5 hpvb hw5 v0 vf0 v1 vf1 v2 vf2 v3 vf3 v4 vf4 vl
    go_wp2_with fail
    refine HMn.out.mono ?_
    rintro e w6 ⟨m6, hp⟩
    have HMY := hide (HM5.out.trans m6 (by simp only [List.mem_cons, List.mem_nil_iff, or_false]; rintro y (rfl | rfl); exact .inl rfl; right; have := HVB.out; have := HRw.out; omega))
    have HRY := hide (m6.blk HR5.out (by have h1 := HRp.out; have h2 := HVB.out; simp at h1 ⊢; omega))
    cases hx : jlist (jvalue m) false (rst s (k2 + 1)) with
    | er r =>
      rw [hx] at hp
      obtain ⟨k3, rfl, h1, h2⟩ := hp
      have HE : Hid (jvalue (m + 1) (rst s k) = .er r) := hide (by rw [HE0.out, hx]; rfl)
      clear m6 hx
      go_wp2_with fail
      rename_i heq
      cases heq
      exact ⟨rfl, RP.er HE.out HMY.out h1 h2⟩
    | ok q r =>
      rw [hx] at hp
      obtain ⟨ky, rfl, h1, h2, A, c, l, B, d, ks, hvb, hvs, hks, hji, hjf⟩ := hp
      have HEv : Hid (jvalue (m + 1) (rst s k) = .ok (JN.mk 5 0 ⟨#[]⟩ A c l B d ks).v (jsp (rst s ky))) := hide (by
        rw [HE0.out, hx, h2]
        simp only [PR.bind]
        rw [JN.v, hvs, hks])
      have HY := hide h1
      have HV := hide hvb
      have HXi := hide hji
      have hvl := HV5.out.lt
      have HXf : Hid (∀ g ∈ JFoot (JN.mk 5 0 ⟨#[]⟩ A c l B d ks), VB < g ∧ g < w6.heap.size) := hide (fun g hg => ⟨by have := (hjf g hg).1; omega, (hjf g hg).2⟩)
      clear m6 hx h1 h2 hvb hvs hks hji hjf hvl
      go_wp2_with fail
      refine (HSp.out _ _ HY.out).mono ?_
      rintro e Z ⟨rfl, mz, kz, hrz, hqz⟩
      have HMZ := hide (HMY.out.trans mz (by simp))
      have HRZ := hide (mz.blk HRY.out HRp.out)
      have HVZ := hide (mz.blk HV.out HVp.out)
      have HXz := hide (JIn.mod mz (fun g hg => by have := (HXf.out g hg).1; have := HVB.out; have := HPw.out; have := HRw.out; simp; omega) HXi.out)
      have HEz : Hid (jvalue (m + 1) (rst s k) = .ok (JN.mk 5 0 ⟨#[]⟩ A c l B d ks).v (rst s kz)) := hide (by rw [HEv.out, hqz])
      have HFz : Hid (∀ g ∈ JFoot (JN.mk 5 0 ⟨#[]⟩ A c l B d ks), w.heap.size ≤ g ∧ g < Z.heap.size) := hide (fun g hg => ⟨by have := (HXf.out g hg).1; have := HVB.out; have := HRw.out; omega, Nat.lt_of_lt_of_le (HXf.out g hg).2 mz.size⟩)
      have HFr : Hid (∀ g ∈ JFoot (JN.mk 5 0 ⟨#[]⟩ A c l B d ks), g ∉ [RB]) := hide (fun g hg => by have := (HXf.out g hg).1; have := HVB.out; have := HRw.out; simp; omega)
      have HZr := hide hrz
      clear mz hrz hqz
      have z0 : Z.cell? ⟨RB, 0, none⟩ = some (.int .i64 0) := HRZ.out.cell 0
      have zf0 : Z.frozen? ⟨RB, 0, none⟩ = false := HRZ.out.frozen 0
      have z1 : Z.cell? ⟨RB, 1, none⟩ = some (.int .i64 0) := HRZ.out.cell 1
      have zf1 : Z.frozen? ⟨RB, 1, none⟩ = false := HRZ.out.frozen 1
      have z2 : Z.cell? ⟨RB, 2, none⟩ = some (.string ⟨#[]⟩) := HRZ.out.cell 2
      have zf2 : Z.frozen? ⟨RB, 2, none⟩ = false := HRZ.out.frozen 2
      have z3 : Z.cell? ⟨RB, 3, none⟩ = some (.slice none 0 0) := HRZ.out.cell 3
      have zf3 : Z.frozen? ⟨RB, 3, none⟩ = false := HRZ.out.frozen 3
      have z4 : Z.cell? ⟨RB, 4, none⟩ = some (.slice none 0 0) := HRZ.out.cell 4
      have zf4 : Z.frozen? ⟨RB, 4, none⟩ = false := HRZ.out.frozen 4
      have zl := HRZ.out.lt
      have v0 : Z.cell? ⟨VB, 0, none⟩ = some (.int .i64 5) := HVZ.out.cell 0
      have vf0 : Z.frozen? ⟨VB, 0, none⟩ = false := HVZ.out.frozen 0
      have v1 : Z.cell? ⟨VB, 1, none⟩ = some (.int .i64 0) := HVZ.out.cell 1
      have vf1 : Z.frozen? ⟨VB, 1, none⟩ = false := HVZ.out.frozen 1
      have v2 : Z.cell? ⟨VB, 2, none⟩ = some (.string ⟨#[]⟩) := HVZ.out.cell 2
      have vf2 : Z.frozen? ⟨VB, 2, none⟩ = false := HVZ.out.frozen 2
      have v3 : Z.cell? ⟨VB, 3, none⟩ = some (.slice A l.length c) := HVZ.out.cell 3
      have vf3 : Z.frozen? ⟨VB, 3, none⟩ = false := HVZ.out.frozen 3
      have v4 : Z.cell? ⟨VB, 4, none⟩ = some (.slice B ks.length d) := HVZ.out.cell 4
      have vf4 : Z.frozen? ⟨VB, 4, none⟩ = false := HVZ.out.frozen 4
      have vl := HVZ.out.lt
      have HW := hide (jsets_blk (JN.mk 5 0 ⟨#[]⟩ A c l B d ks).cells HRZ.out rfl (JN.mk 5 0 ⟨#[]⟩ A c l B d ks).cells_size)
      have HWm := hide (jsets_mod Z RB (JN.mk 5 0 ⟨#[]⟩ A c l B d ks).cells)
      try unfold JN.cells at HW HWm
      go_wp2_with fail
      refine bodyPost_ret (results_cell_row rfl _ _ RB 25 (#[.int .i64 5, .int .i64 0, .string ⟨#[]⟩, .slice A l.length c, .slice B ks.length d]) (0, 0) _ rfl ?_ Tryd.underlying25 rfl (by kernel_rfl)) rfl ?_
      · exact HW.out
      exact RP.ok HEz.out (HMZ.out.trans HWm.out (by simp only [List.mem_singleton]; rintro _ rfl; right; have := HRw.out; omega)) ⟨(JN.mk 5 0 ⟨#[]⟩ A c l B d ks), rfl, rfl, JIn.mod HWm.out HFr.out HXz.out, fun g hg => ⟨(HFz.out g hg).1, Nat.lt_of_lt_of_le (HFz.out g hg).2 HWm.out.size⟩⟩ (HZr.out.mod HWm.out (by have := HRp.out; simp at this ⊢; omega)) rfl
  have hd91 := hd
  clear hd
  by_cases hd : (rst s k2).head? = some 123
  · have e0 : ((((some (123 : UInt8)).getD 0).toNat : Nat) : Int) = 123 := rfl
    obtain ⟨tt, htt⟩ : ∃ t, rst s k2 = 123 :: t := by
      cases hq : rst s k2 with
      | nil => rw [hq] at hd; cases hd
      | cons c t => rw [hq] at hd; cases hd; exact ⟨t, rfl⟩
    obtain ⟨hk2, -, hkt⟩ := rst_cons htt
    have HE0 : Hid (jvalue (m + 1) (rst s k) = ((jlist (jvalue m) true (rst s (k2 + 1))).bind fun x r => .ok (JV.mk 6 0 ⟨#[]⟩ x.1 (x.2.map tob)) r).bind fun v r => .ok v (jsp r)) := hide (by
      rw [jvalue, ← HQ2.out, hkt]
      unfold jval1
      simp only [hd, htt, List.tail_cons]
      rfl)
    have HK2 := hide hk2
    rw [hd, e0]
    clear hd htt hk2 hkt
    have v0 : w4.cell? ⟨VB, 0, none⟩ = some (.int .i64 0) := HV4.out.cell 0
    have vf0 : w4.frozen? ⟨VB, 0, none⟩ = false := HV4.out.frozen 0
    have v1 : w4.cell? ⟨VB, 1, none⟩ = some (.int .i64 0) := HV4.out.cell 1
    have vf1 : w4.frozen? ⟨VB, 1, none⟩ = false := HV4.out.frozen 1
    have v2 : w4.cell? ⟨VB, 2, none⟩ = some (.string ⟨#[]⟩) := HV4.out.cell 2
    have vf2 : w4.frozen? ⟨VB, 2, none⟩ = false := HV4.out.frozen 2
    have v3 : w4.cell? ⟨VB, 3, none⟩ = some (.slice none 0 0) := HV4.out.cell 3
    have vf3 : w4.frozen? ⟨VB, 3, none⟩ = false := HV4.out.frozen 3
    have v4 : w4.cell? ⟨VB, 4, none⟩ = some (.slice none 0 0) := HV4.out.cell 4
    have vf4 : w4.frozen? ⟨VB, 4, none⟩ = false := HV4.out.frozen 4
    have vl := HV4.out.lt
    go_wp2_with fail
    have hm5 : Mod [p] w (w4.setCell ⟨VB, 0, none⟩ (.int .i64 6)) := HM4.out.setCell (p := ⟨VB, 0, none⟩) (.inr (by have := HVB.out; have := HRw.out; show w.heap.size ≤ VB; omega)) _
    have hv5 : Blk (w4.setCell ⟨VB, 0, none⟩ (.int .i64 6)) VB 25 (JN.mk 6 0 ⟨#[]⟩ none 0 [] none 0 []).cells := HV4.out.set_ 0 (.int .i64 6)
    have hr5 : Blk (w4.setCell ⟨VB, 0, none⟩ (.int .i64 6)) RB 25 #[.int .i64 0, .int .i64 0, .string ⟨#[]⟩, .slice none 0 0, .slice none 0 0] := HR4.out.far (p := ⟨VB, 0, none⟩) (by have := HVB.out; show RB ≠ VB; omega) _
    have hy5 : Rd (w4.setCell ⟨VB, 0, none⟩ (.int .i64 6)) p s k2 := ⟨H4.out.blk.far (p := ⟨VB, 0, none⟩) (by have := HVB.out; have := HPw.out; have := HRw.out; show p ≠ VB; omega) _, H4.out.le, H4.out.small⟩
    obtain ⟨w5, hw5⟩ : ∃ Y, w4.setCell ⟨VB, 0, none⟩ (.int .i64 6) = Y := ⟨_, rfl⟩
    rw [hw5] at hm5 hv5 hr5 hy5
    rw [hw5]
    have hj5 : JVars p w5 := HJ0.out.mod hm5 (by have := HPw.out; omega) (by simp)
    have hpvb : p < VB := by have := HVB.out; have := HPw.out; have := HRw.out; omega
    have HMn := hide (many_true m (by omega) hV w5 p k2 VB s hy5 HK2.out hv5 hpvb hj5)
    have HM5 := hide hm5
    have HR5 := hide hr5
    have HV5 := hide hv5
    clear hm5 hv5 hr5 hy5 hj5 hpvb hw5 v0 vf0 v1 vf1 v2 vf2 v3 vf3 v4 vf4 vl
    go_wp2_with fail
    refine HMn.out.mono ?_
    rintro e w6 ⟨m6, hp⟩
    have HMY := hide (HM5.out.trans m6 (by simp only [List.mem_cons, List.mem_nil_iff, or_false]; rintro y (rfl | rfl); exact .inl rfl; right; have := HVB.out; have := HRw.out; omega))
    have HRY := hide (m6.blk HR5.out (by have h1 := HRp.out; have h2 := HVB.out; simp at h1 ⊢; omega))
    cases hx : jlist (jvalue m) true (rst s (k2 + 1)) with
    | er r =>
      rw [hx] at hp
      obtain ⟨k3, rfl, h1, h2⟩ := hp
      have HE : Hid (jvalue (m + 1) (rst s k) = .er r) := hide (by rw [HE0.out, hx]; rfl)
      clear m6 hx
      go_wp2_with fail
      rename_i heq
      cases heq
      exact ⟨rfl, RP.er HE.out HMY.out h1 h2⟩
    | ok q r =>
      rw [hx] at hp
      obtain ⟨ky, rfl, h1, h2, A, c, l, B, d, ks, hvb, hvs, hks, hji, hjf⟩ := hp
      have HEv : Hid (jvalue (m + 1) (rst s k) = .ok (JN.mk 6 0 ⟨#[]⟩ A c l B d ks).v (jsp (rst s ky))) := hide (by
        rw [HE0.out, hx, h2]
        simp only [PR.bind]
        rw [JN.v, hvs, hks])
      have HY := hide h1
      have HV := hide hvb
      have HXi := hide hji
      have hvl := HV5.out.lt
      have HXf : Hid (∀ g ∈ JFoot (JN.mk 6 0 ⟨#[]⟩ A c l B d ks), VB < g ∧ g < w6.heap.size) := hide (fun g hg => ⟨by have := (hjf g hg).1; omega, (hjf g hg).2⟩)
      clear m6 hx h1 h2 hvb hvs hks hji hjf hvl
      go_wp2_with fail
      refine (HSp.out _ _ HY.out).mono ?_
      rintro e Z ⟨rfl, mz, kz, hrz, hqz⟩
      have HMZ := hide (HMY.out.trans mz (by simp))
      have HRZ := hide (mz.blk HRY.out HRp.out)
      have HVZ := hide (mz.blk HV.out HVp.out)
      have HXz := hide (JIn.mod mz (fun g hg => by have := (HXf.out g hg).1; have := HVB.out; have := HPw.out; have := HRw.out; simp; omega) HXi.out)
      have HEz : Hid (jvalue (m + 1) (rst s k) = .ok (JN.mk 6 0 ⟨#[]⟩ A c l B d ks).v (rst s kz)) := hide (by rw [HEv.out, hqz])
      have HFz : Hid (∀ g ∈ JFoot (JN.mk 6 0 ⟨#[]⟩ A c l B d ks), w.heap.size ≤ g ∧ g < Z.heap.size) := hide (fun g hg => ⟨by have := (HXf.out g hg).1; have := HVB.out; have := HRw.out; omega, Nat.lt_of_lt_of_le (HXf.out g hg).2 mz.size⟩)
      have HFr : Hid (∀ g ∈ JFoot (JN.mk 6 0 ⟨#[]⟩ A c l B d ks), g ∉ [RB]) := hide (fun g hg => by have := (HXf.out g hg).1; have := HVB.out; have := HRw.out; simp; omega)
      have HZr := hide hrz
      clear mz hrz hqz
      have z0 : Z.cell? ⟨RB, 0, none⟩ = some (.int .i64 0) := HRZ.out.cell 0
      have zf0 : Z.frozen? ⟨RB, 0, none⟩ = false := HRZ.out.frozen 0
      have z1 : Z.cell? ⟨RB, 1, none⟩ = some (.int .i64 0) := HRZ.out.cell 1
      have zf1 : Z.frozen? ⟨RB, 1, none⟩ = false := HRZ.out.frozen 1
      have z2 : Z.cell? ⟨RB, 2, none⟩ = some (.string ⟨#[]⟩) := HRZ.out.cell 2
      have zf2 : Z.frozen? ⟨RB, 2, none⟩ = false := HRZ.out.frozen 2
      have z3 : Z.cell? ⟨RB, 3, none⟩ = some (.slice none 0 0) := HRZ.out.cell 3
      have zf3 : Z.frozen? ⟨RB, 3, none⟩ = false := HRZ.out.frozen 3
      have z4 : Z.cell? ⟨RB, 4, none⟩ = some (.slice none 0 0) := HRZ.out.cell 4
      have zf4 : Z.frozen? ⟨RB, 4, none⟩ = false := HRZ.out.frozen 4
      have zl := HRZ.out.lt
      have v0 : Z.cell? ⟨VB, 0, none⟩ = some (.int .i64 6) := HVZ.out.cell 0
      have vf0 : Z.frozen? ⟨VB, 0, none⟩ = false := HVZ.out.frozen 0
      have v1 : Z.cell? ⟨VB, 1, none⟩ = some (.int .i64 0) := HVZ.out.cell 1
      have vf1 : Z.frozen? ⟨VB, 1, none⟩ = false := HVZ.out.frozen 1
      have v2 : Z.cell? ⟨VB, 2, none⟩ = some (.string ⟨#[]⟩) := HVZ.out.cell 2
      have vf2 : Z.frozen? ⟨VB, 2, none⟩ = false := HVZ.out.frozen 2
      have v3 : Z.cell? ⟨VB, 3, none⟩ = some (.slice A l.length c) := HVZ.out.cell 3
      have vf3 : Z.frozen? ⟨VB, 3, none⟩ = false := HVZ.out.frozen 3
      have v4 : Z.cell? ⟨VB, 4, none⟩ = some (.slice B ks.length d) := HVZ.out.cell 4
      have vf4 : Z.frozen? ⟨VB, 4, none⟩ = false := HVZ.out.frozen 4
      have vl := HVZ.out.lt
      have HW := hide (jsets_blk (JN.mk 6 0 ⟨#[]⟩ A c l B d ks).cells HRZ.out rfl (JN.mk 6 0 ⟨#[]⟩ A c l B d ks).cells_size)
      have HWm := hide (jsets_mod Z RB (JN.mk 6 0 ⟨#[]⟩ A c l B d ks).cells)
      try unfold JN.cells at HW HWm
      go_wp2_with fail
      refine bodyPost_ret (results_cell_row rfl _ _ RB 25 (#[.int .i64 6, .int .i64 0, .string ⟨#[]⟩, .slice A l.length c, .slice B ks.length d]) (0, 0) _ rfl ?_ Tryd.underlying25 rfl (by kernel_rfl)) rfl ?_
      · exact HW.out
      exact RP.ok HEz.out (HMZ.out.trans HWm.out (by simp only [List.mem_singleton]; rintro _ rfl; right; have := HRw.out; omega)) ⟨(JN.mk 6 0 ⟨#[]⟩ A c l B d ks), rfl, rfl, JIn.mod HWm.out HFr.out HXz.out, fun g hg => ⟨(HFz.out g hg).1, Nat.lt_of_lt_of_le (HFz.out g hg).2 HWm.out.size⟩⟩ (HZr.out.mod HWm.out (by have := HRp.out; simp at this ⊢; omega)) rfl
  have hd123 := hd
  clear hd
  have HE0 : Hid (jvalue (m + 1) (rst s k) = ((jnumber (rst s k2)).bind fun t r => .ok (JV.mk 3 t ⟨#[]⟩ [] []) r).bind fun v r => .ok v (jsp r)) := hide (by
    rw [jvalue, ← HQ2.out]
    unfold jval1
    rw [if_neg hd110, if_neg hd102, if_neg hd116, if_neg hd34, if_neg hd91, if_neg hd123])
  obtain ⟨hb0, hhb⟩ : ∃ b : Nat, ((rst s k2).head?.getD 0).toNat = b := ⟨_, rfl⟩
  have n110 : hb0 ≠ 110 := not_head hd110 hhb (by decide)
  have g110 : ((hb0 : Int) == 110) = false := by rw [beq_eq_false_iff_ne]; omega
  have n102 : hb0 ≠ 102 := not_head hd102 hhb (by decide)
  have g102 : ((hb0 : Int) == 102) = false := by rw [beq_eq_false_iff_ne]; omega
  have n116 : hb0 ≠ 116 := not_head hd116 hhb (by decide)
  have g116 : ((hb0 : Int) == 116) = false := by rw [beq_eq_false_iff_ne]; omega
  have n34 : hb0 ≠ 34 := not_head hd34 hhb (by decide)
  have g34 : ((hb0 : Int) == 34) = false := by rw [beq_eq_false_iff_ne]; omega
  have n91 : hb0 ≠ 91 := not_head hd91 hhb (by decide)
  have g91 : ((hb0 : Int) == 91) = false := by rw [beq_eq_false_iff_ne]; omega
  have n123 : hb0 ≠ 123 := not_head hd123 hhb (by decide)
  have g123 : ((hb0 : Int) == 123) = false := by rw [beq_eq_false_iff_ne]; omega
  clear n110 hd110 n102 hd102 n116 hd116 n34 hd34 n91 hd91 n123 hd123
  have HCl := hide (number_any _ p k2 s H4.out (HJ0.out.mod HM4.out (by have := HPw.out; omega) (by simp)))
  rw [hhb]
  clear hhb
  go_wp2_with fail
  refine HCl.out.mono ?_
  rintro e w5 ⟨m5, hp⟩
  have HM5 := hide (HM4.out.trans m5 (by simp))
  have HR5 := hide (m5.blk HR4.out HRp.out)
  have HV5 := hide (m5.blk HV4.out HVp.out)
  cases hx : jnumber (rst s k2) with
  | er r =>
    rw [hx] at hp
    obtain ⟨k3, rfl, h1, h2⟩ := hp
    have HE : Hid (jvalue (m + 1) (rst s k) = .er r) := hide (by rw [HE0.out, hx]; rfl)
    clear m5 hx
    go_wp2_with fail
    rename_i heq
    cases heq
    exact ⟨rfl, RP.er HE.out HM5.out h1 h2⟩
  | ok q r =>
    rw [hx] at hp
    obtain ⟨ky, u, rfl, rfl, h1, h2⟩ := hp
    have HEv : Hid (jvalue (m + 1) (rst s k) = .ok (JN.mk 3 q ⟨#[]⟩ none 0 [] none 0 []).v (jsp (rst s ky))) := hide (by rw [HE0.out, hx, h2]; rfl)
    have H5 := hide h1
    clear m5 hx h1 h2
    have v0 : w5.cell? ⟨VB, 0, none⟩ = some (.int .i64 0) := HV5.out.cell 0
    have vf0 : w5.frozen? ⟨VB, 0, none⟩ = false := HV5.out.frozen 0
    have v1 : w5.cell? ⟨VB, 1, none⟩ = some (.int .i64 0) := HV5.out.cell 1
    have vf1 : w5.frozen? ⟨VB, 1, none⟩ = false := HV5.out.frozen 1
    have v2 : w5.cell? ⟨VB, 2, none⟩ = some (.string ⟨#[]⟩) := HV5.out.cell 2
    have vf2 : w5.frozen? ⟨VB, 2, none⟩ = false := HV5.out.frozen 2
    have v3 : w5.cell? ⟨VB, 3, none⟩ = some (.slice none 0 0) := HV5.out.cell 3
    have vf3 : w5.frozen? ⟨VB, 3, none⟩ = false := HV5.out.frozen 3
    have v4 : w5.cell? ⟨VB, 4, none⟩ = some (.slice none 0 0) := HV5.out.cell 4
    have vf4 : w5.frozen? ⟨VB, 4, none⟩ = false := HV5.out.frozen 4
    have vl := HV5.out.lt
    have hm6 := jsets_mod w5 VB (JN.mk 3 q ⟨#[]⟩ none 0 [] none 0 []).cells
    have hv6 := jsets_blk (JN.mk 3 q ⟨#[]⟩ none 0 [] none 0 []).cells HV5.out rfl (JN.mk 3 q ⟨#[]⟩ none 0 [] none 0 []).cells_size
    have hr6 := hm6.blk HR5.out (by have := HVB.out; simp; omega)
    have hy6 := H5.out.mod hm6 (by have := HVB.out; have := HPw.out; have := HRw.out; simp; omega)
    have m6 := HM5.out.trans hm6 (by simp only [List.mem_singleton]; rintro _ rfl; right; have := HVB.out; have := HRw.out; omega)
    unfold JN.cells
    go_wp2_with fail
    obtain ⟨Y, hY⟩ : ∃ Y, jsets w5 VB (JN.mk 3 q ⟨#[]⟩ none 0 [] none 0 []).cells = Y := ⟨_, rfl⟩
    rw [hY] at hv6 hr6 hy6 m6
    change _
    have hY2 := hY
    unfold JN.cells at hY2
    simp only [jsets, show List.range 5 = [0, 1, 2, 3, 4] from rfl, List.foldl_cons, List.foldl_nil] at hY2
    first | rw [hY2] | (simp only [hY2]) | (erw [hY2]) | trace_state
    have HMY := hide m6
    have HY := hide hy6
    have HV := hide hv6
    have HRY := hide hr6
    have HXi : Hid (JIn Y (JN.mk 3 q ⟨#[]⟩ none 0 [] none 0 [])) := hide (JIn.plain _ _ _ _)
    have HXf : Hid (∀ g ∈ JFoot (JN.mk 3 q ⟨#[]⟩ none 0 [] none 0 []), VB < g ∧ g < Y.heap.size) := hide (by intro g hg; simp [JFoot, JFoots] at hg)
    clear m6 hv6 hr6 hy6 hY hY2 hm6 v0 vf0 v1 vf1 v2 vf2 v3 vf3 v4 vf4 vl
    go_wp2_with fail
    refine (HSp.out _ _ HY.out).mono ?_
    rintro e Z ⟨rfl, mz, kz, hrz, hqz⟩
    have HMZ := hide (HMY.out.trans mz (by simp))
    have HRZ := hide (mz.blk HRY.out HRp.out)
    have HVZ := hide (mz.blk HV.out HVp.out)
    have HXz := hide (JIn.mod mz (fun g hg => by have := (HXf.out g hg).1; have := HVB.out; have := HPw.out; have := HRw.out; simp; omega) HXi.out)
    have HEz : Hid (jvalue (m + 1) (rst s k) = .ok (JN.mk 3 q ⟨#[]⟩ none 0 [] none 0 []).v (rst s kz)) := hide (by rw [HEv.out, hqz])
    have HFz : Hid (∀ g ∈ JFoot (JN.mk 3 q ⟨#[]⟩ none 0 [] none 0 []), w.heap.size ≤ g ∧ g < Z.heap.size) := hide (fun g hg => ⟨by have := (HXf.out g hg).1; have := HVB.out; have := HRw.out; omega, Nat.lt_of_lt_of_le (HXf.out g hg).2 mz.size⟩)
    have HFr : Hid (∀ g ∈ JFoot (JN.mk 3 q ⟨#[]⟩ none 0 [] none 0 []), g ∉ [RB]) := hide (fun g hg => by have := (HXf.out g hg).1; have := HVB.out; have := HRw.out; simp; omega)
    have HZr := hide hrz
    clear mz hrz hqz
    have z0 : Z.cell? ⟨RB, 0, none⟩ = some (.int .i64 0) := HRZ.out.cell 0
    have zf0 : Z.frozen? ⟨RB, 0, none⟩ = false := HRZ.out.frozen 0
    have z1 : Z.cell? ⟨RB, 1, none⟩ = some (.int .i64 0) := HRZ.out.cell 1
    have zf1 : Z.frozen? ⟨RB, 1, none⟩ = false := HRZ.out.frozen 1
    have z2 : Z.cell? ⟨RB, 2, none⟩ = some (.string ⟨#[]⟩) := HRZ.out.cell 2
    have zf2 : Z.frozen? ⟨RB, 2, none⟩ = false := HRZ.out.frozen 2
    have z3 : Z.cell? ⟨RB, 3, none⟩ = some (.slice none 0 0) := HRZ.out.cell 3
    have zf3 : Z.frozen? ⟨RB, 3, none⟩ = false := HRZ.out.frozen 3
    have z4 : Z.cell? ⟨RB, 4, none⟩ = some (.slice none 0 0) := HRZ.out.cell 4
    have zf4 : Z.frozen? ⟨RB, 4, none⟩ = false := HRZ.out.frozen 4
    have zl := HRZ.out.lt
    have v0 : Z.cell? ⟨VB, 0, none⟩ = some (.int .i64 3) := HVZ.out.cell 0
    have vf0 : Z.frozen? ⟨VB, 0, none⟩ = false := HVZ.out.frozen 0
    have v1 : Z.cell? ⟨VB, 1, none⟩ = some (.int .i64 q) := HVZ.out.cell 1
    have vf1 : Z.frozen? ⟨VB, 1, none⟩ = false := HVZ.out.frozen 1
    have v2 : Z.cell? ⟨VB, 2, none⟩ = some (.string ⟨#[]⟩) := HVZ.out.cell 2
    have vf2 : Z.frozen? ⟨VB, 2, none⟩ = false := HVZ.out.frozen 2
    have v3 : Z.cell? ⟨VB, 3, none⟩ = some (.slice none 0 0) := HVZ.out.cell 3
    have vf3 : Z.frozen? ⟨VB, 3, none⟩ = false := HVZ.out.frozen 3
    have v4 : Z.cell? ⟨VB, 4, none⟩ = some (.slice none 0 0) := HVZ.out.cell 4
    have vf4 : Z.frozen? ⟨VB, 4, none⟩ = false := HVZ.out.frozen 4
    have vl := HVZ.out.lt
    have HW := hide (jsets_blk (JN.mk 3 q ⟨#[]⟩ none 0 [] none 0 []).cells HRZ.out rfl (JN.mk 3 q ⟨#[]⟩ none 0 [] none 0 []).cells_size)
    have HWm := hide (jsets_mod Z RB (JN.mk 3 q ⟨#[]⟩ none 0 [] none 0 []).cells)
    try unfold JN.cells at HW HWm
    go_wp2_with fail
    refine bodyPost_ret (results_cell_row rfl _ _ RB 25 (#[.int .i64 3, .int .i64 q, .string ⟨#[]⟩, .slice none 0 0, .slice none 0 0]) (0, 0) _ rfl ?_ Tryd.underlying25 rfl (by kernel_rfl)) rfl ?_
    · exact HW.out
    exact RP.ok HEz.out (HMZ.out.trans HWm.out (by simp only [List.mem_singleton]; rintro _ rfl; right; have := HRw.out; omega)) ⟨(JN.mk 3 q ⟨#[]⟩ none 0 [] none 0 []), rfl, rfl, JIn.mod HWm.out HFr.out HXz.out, fun g hg => ⟨(HFz.out g hg).1, Nat.lt_of_lt_of_le (HFz.out g hg).2 HWm.out.size⟩⟩ (HZr.out.mod HWm.out (by have := HRp.out; simp at this ⊢; omega)) rfl

theorem value_any : ∀ n : Nat, n ≤ 8 → ValueOk n
  | 0, _ => value_zero
  | n + 1, h => value_succ n (by omega) (value_any n (by omega))
end Go.Proofs.YtkbpndohpkcikaaDoor
