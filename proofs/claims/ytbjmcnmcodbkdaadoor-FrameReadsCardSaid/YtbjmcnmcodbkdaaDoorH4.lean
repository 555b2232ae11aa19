/-
  Contracts of the document's package, part 4 of 8: FrRf5, FrRf6, FrRf7, FrRf9.
-/
import Derived.Test.YtbjmcnmcodbkdaaDoorH3
import Derived.Test.YtbjmcnmcodbkdaaDoorG4
import Derived.Test.YtbjmcnmcodbkdaaDoorG8
import Derived.Test.YtbjmcnmcodbkdaaDoorG7

/-
  frames: the document's package: Write of acknowledgements.
-/
namespace Go.Proofs.YtbjmcnmcodbkdaaDoor
open Go.RowKit Go.Sort
set_option linter.unusedVariables false
set_option linter.unusedSimpArgs false

set_option maxRecDepth 100000 in
set_option maxHeartbeats 8000000 in
theorem rwr_2 (w : World) (A : Option Addr) (n c : Nat) (a b e : Nat) (fin : Bool) (data more : ByteArray) (list : List (Nat × Nat)) (hr : Rngs w A n list) (hm : fmay ⟨2, a, b, e, fin, data, more, list⟩ = true) : Calls Tryd.prog 18 #[fval A n c ⟨2, a, b, e, fin, data, more, list⟩] w (RWr w ⟨2, a, b, e, fin, data, more, list⟩) := by
  have hln := hr.1
  obtain ⟨hro, hmo⟩ : rngs list = true ∧ (True) := by
    have := (fmay_parts hm).2.2.2.2
    simp [fshape, fown, facks] at this
    simp [this]
  obtain ⟨hok, h1, h64⟩ : rngOk none list = true ∧ 1 ≤ n ∧ n ≤ 64 := by
    unfold rngs at hro
    simp only [Bool.and_eq_true, decide_eq_true_eq] at hro
    exact ⟨hro.1, by omega, by omega⟩
  have hall := rngOk_all list none hok
  have HAll := hide (fun i (h : i < n) => hall i (by omega))
  have HFk : Hid (fbytes ⟨2, a, b, e, fin, data, more, list⟩ = vputS 2 ++ (vputS (list.getD 0 (0, 0)).2 ++ (vputS a ++ (vputS (n - 1) ++ (ackP list n ++ []))))) := hide (by
    cases list with
    | nil => simp at hln; omega
    | cons r t =>
      have he := ackP_end r t
      rw [hln] at he
      rw [he]
      have hn1 : n - 1 = t.length := by simp at hln; omega
      rw [hn1]
      simp [fbytes, fshape, fway, fack])
  have HMay := hide (fun w' (h : Rngs w' A n list) => rfmay_any w' A n c ⟨2, a, b, e, fin, data, more, list⟩ h)
  rw [hm] at HMay
  have HR := hide (hr.new ((Mod.refl [] w).alloc (.cells (fcs A n c ⟨2, a, b, e, fin, data, more, list⟩) 26)))
  have HBx := hide (Blk.new w 26 (fcs A n c ⟨2, a, b, e, fin, data, more, list⟩))
  have HN := hide hm
  have HP := hide (fun w n => rfput_any w n)
  have HCell : Hid (∀ w', Mod [] w w' → ∀ i, i < n → ∃ lo hi : Nat, list.getD i (0, 0) = (lo, hi) ∧ lo ≤ hi ∧ hi < 4611686018427387904 ∧ ∃ g o, A = some ⟨g, o, none⟩ ∧ g < w'.heap.size ∧ w'.cell? ⟨g, o + i * 2, none⟩ = some (.int .u64 (lo : Nat)) ∧ w'.cell? ⟨g, o + i * 2 + 1, none⟩ = some (.int .u64 (hi : Nat))) := hide (fun w' hmm i hi => by
    obtain ⟨g, o, hl, hA, hg, c0, c1⟩ := (hr.new hmm).at_ hi
    have ha := HAll.out i hi
    refine ⟨list[i].1, list[i].2, ?_, ha.1, ha.2.1, g, o, hA, hg, c0, c1⟩
    rw [List.getD_eq_getElem?_getD, List.getElem?_eq_getElem hl]; rfl)
  have HGap : Hid (∀ i, 0 < i → i < n → (list.getD i (0, 0)).2 + 2 ≤ (list.getD (i - 1) (0, 0)).1) := hide (fun i h0 hi => by
    have ha := (HAll.out i hi).2.2 h0
    rw [List.getD_eq_getElem?_getD, List.getElem?_eq_getElem (by omega), List.getD_eq_getElem?_getD, List.getElem?_eq_getElem (by omega)]
    exact ha)
  obtain ⟨K, -, hK, hKs, hKl⟩ := putB 2
  have HK := hide hK
  obtain ⟨A1, -, hA1, hA1s, hA1l⟩ := putB a
  have HA1 := hide hA1
  obtain ⟨m, hmn⟩ : ∃ m, n - 1 = m := ⟨_, rfl⟩
  obtain ⟨L1, -, hL1, hL1s, hL1l⟩ := putB m
  have HL1 := hide hL1
  rw [hmn] at HFk
  have en1 : (n : Int) - 1 = (m : Int) := by omega
  have en2 : IntKind.i64.wrap ((n : Int) - 1) = (m : Int) := by rw [en1]; exact IntWalk.i64_in _ (by omega)
  have en3 : IntKind.u64.wrap (m : Int) = (m : Int) := IntWalk.u64_in _ (by omega)
  have hn0 : 0 < n := by omega
  have hn0i : (0 : Int) < n := by omega
  have HA1l := hide hA1l
  have HL1l := hide hL1l
  have HKl := hide hKl
  clear hm hr hro hok HAll hall hln hK hA1 hL1 hA1l hL1l hKl hmn hmo 
  obtain ⟨l0, h0, hg0, hl0, hh0, _⟩ := HCell.out w (Mod.refl _ _) 0 (by omega)
  have HG0 := hide hg0
  obtain ⟨d0, hd0⟩ : ∃ d, h0 - l0 = d := ⟨_, rfl⟩
  have ed1 : (h0 : Int) - l0 = (d0 : Int) := by omega
  have ed2 : IntKind.u64.wrap ((h0 : Int) - l0) = (d0 : Int) := by rw [ed1]; exact IntWalk.u64_in _ (by omega)
  obtain ⟨B0, -, hB0, hB0s, hB0l⟩ := putB h0
  have HB0 := hide hB0
  obtain ⟨D0, -, hD0, hD0s, hD0l⟩ := putB d0
  have HD0 := hide hD0
  obtain ⟨PRE, hPRE⟩ : ∃ PRE, vputS 2 ++ (vputS h0 ++ (vputS a ++ vputS m)) = PRE := ⟨_, rfl⟩
  have HPre : Hid (vputS 2 ++ (vputS h0 ++ (vputS a ++ vputS m)) = PRE) := hide hPRE
  have HO1 : Hid ((K ++ (B0 ++ A1 ++ L1 ++ D0)).data.toList = PRE ++ ackP list 1) := hide (by
    rw [← hPRE]
    simp only [ByteArray.data_append, Array.toList_append, HKl.out, hB0l, HA1l.out, HL1l.out, hD0l]
    simp only [ackP, hg0, ← hd0]
    simp)
  have HF2 : Hid (fbytes ⟨2, a, b, e, fin, data, more, list⟩ = PRE ++ (ackP list n ++ [])) := hide (by
    rw [HFk.out, ← hPRE, hg0]
    simp)
  have hq1 : B0.size + A1.size ≤ 9223372036854775807 := by omega
  have hq2 : (B0 ++ A1).size + L1.size ≤ 9223372036854775807 := by rw [ByteArray.size_append]; omega
  have hq3 : (B0 ++ A1 ++ L1).size + D0.size ≤ 9223372036854775807 := by rw [ByteArray.size_append, ByteArray.size_append]; omega
  have hq4 : K.size + (B0 ++ A1 ++ L1 ++ D0).size ≤ 9223372036854775807 := by rw [ByteArray.size_append, ByteArray.size_append, ByteArray.size_append]; omega
  have HOs : Hid ((K ++ (B0 ++ A1 ++ L1 ++ D0)).size ≤ 40) := hide (by rw [ByteArray.size_append, ByteArray.size_append, ByteArray.size_append, ByteArray.size_append]; omega)
  clear hB0 hD0 hB0l hD0l hPRE hg0 hd0 HFk
  unfold fval fcs at *
  simp only at *
  go_enter Tryd.func18, Tryd.ntmps18
  go_wp2_with fail
  refine (HMay.out _ HR.out).mono ?_
  rintro e0 w1 ⟨rfl, m1⟩
  have HM := hide (((Mod.refl [] w).alloc _).trans m1 (by simp))
  have HB := hide (m1.blk HBx.out (by simp))
  have HR1 := hide (HR.out.new m1)
  have hgl := HB.out.lt
  obtain ⟨p0, p1, p2, p3, p4, p5, p6, p7⟩ := c8 HB.out
  clear m1
  go_wp2_with fail
  refine (HP.out _ 2).mono ?_
  rintro e0 w2 ⟨rfl, m2⟩
  rw [HK.out]
  have HM2 := hide (HM.out.trans m2 (by simp))
  have HB2 := hide (m2.blk HB.out (by simp))
  have hgl2 := HB2.out.lt
  clear m2 p0 p1 p2 p3 p4 p5 p6 p7 hgl
  obtain ⟨p0, p1, p2, p3, p4, p5, p6, p7⟩ := c8 HB2.out
  obtain ⟨l0', h0', hg0', -, -, g, o, rfl, hgr, c0, c1⟩ := HCell.out w2 HM2.out 0 (by omega)
  rw [HG0.out] at hg0'
  obtain ⟨rfl, rfl⟩ := Prod.mk.inj hg0'
  simp only [Nat.zero_mul, Nat.add_zero] at c0 c1
  have u0 := cell_regrown p0
  have u1 := cell_regrown p1
  have u2 := cell_regrown p2
  have u3 := cell_regrown p3
  have u4 := cell_regrown p4
  have u5 := cell_regrown p5
  have u6 := cell_regrown p6
  have u7 := cell_regrown p7
  have v0 := cell_regrown c0
  have v1 := cell_regrown c1
  have ca : ∀ d os, Calls Tryd.prog 32 #[.int .u64 (a : Nat)] (grow (redrawn w2 d) os) fun e0 w'' => e0 = .returned (.string A1) ∧ ∃ p : Regrown, w'' = grow (redrawn w2 p.d) p.os := fun d os => Calls.regrown_of ((HP.out _ a).mono fun _ _ h => ⟨by rw [h.1, HA1.out], h.2.below (Nat.le_refl _) (by simp)⟩)
  have cb : ∀ d os, Calls Tryd.prog 32 #[.int .u64 (h0 : Nat)] (grow (redrawn w2 d) os) fun e0 w'' => e0 = .returned (.string B0) ∧ ∃ p : Regrown, w'' = grow (redrawn w2 p.d) p.os := fun d os => Calls.regrown_of ((HP.out _ h0).mono fun _ _ h => ⟨by rw [h.1, HB0.out], h.2.below (Nat.le_refl _) (by simp)⟩)
  have cl : ∀ d os, Calls Tryd.prog 32 #[.int .u64 (m : Nat)] (grow (redrawn w2 d) os) fun e0 w'' => e0 = .returned (.string L1) ∧ ∃ p : Regrown, w'' = grow (redrawn w2 p.d) p.os := fun d os => Calls.regrown_of ((HP.out _ m).mono fun _ _ h => ⟨by rw [h.1, HL1.out], h.2.below (Nat.le_refl _) (by simp)⟩)
  have cd : ∀ d os, Calls Tryd.prog 32 #[.int .u64 (d0 : Nat)] (grow (redrawn w2 d) os) fun e0 w'' => e0 = .returned (.string D0) ∧ ∃ p : Regrown, w'' = grow (redrawn w2 p.d) p.os := fun d os => Calls.regrown_of ((HP.out _ d0).mono fun _ _ h => ⟨by rw [h.1, HD0.out], h.2.below (Nat.le_refl _) (by simp)⟩)
  have CA := hide ca
  have CB := hide cb
  have CL := hide cl
  have CD := hide cd
  clear ca cb cl cd c0 c1 hgr hg0'
  go_wp2_with fail
  refine wp_region_below (by kernel_rfl) (by kernel_rfl) (by kernel_rfl) ?_
  repeat (go_big_quiet_step (first | with_reducible exact CB.out _ _ | with_reducible exact CA.out _ _ | with_reducible exact CL.out _ _ | with_reducible exact CD.out _ _))
  refine wpQuiet_nil ?_
  intro _ hw'
  obtain ⟨⟨dq, osq⟩, hw''⟩ := hw'
  subst hw''
  have HMi := hide (HM2.out.trans (Mod.of_below (F := []) (below_regrown w2 dq osq)) (by simp))
  have HBi := hide ((Mod.of_below (F := []) (below_regrown w2 dq osq)).blk HB2.out (by simp))
  obtain ⟨W3, hW3⟩ : ∃ W3, grow (redrawn w2 dq) osq = W3 := ⟨_, rfl⟩
  rw [hW3] at HMi HBi ⊢
  clear hW3 u0 u1 u2 u3 u4 u5 u6 u7 v0 v1 hgl2 p0 p1 p2 p3 p4 p5 p6 p7
  have hgl3 := HBi.out.lt
  obtain ⟨p0, p1, p2, p3, p4, p5, p6, p7⟩ := c8 HBi.out
  obtain ⟨O1, hO1⟩ : ∃ O1, K ++ (B0 ++ A1 ++ L1 ++ D0) = O1 := ⟨_, rfl⟩
  rw [hO1] at HO1 HOs
  go_wp2_with fail
  rw [hO1]
  clear hO1 hq1 hq2 hq3 hq4 p0 p1 p2 p3 p4 p5 p6 p7 hgl3
  go_loopw [4, 5] (fun ov iv wr => ∃ (j : Nat) (O : ByteArray), 1 ≤ j ∧ j ≤ n ∧ iv = .int .i64 (j : Int) ∧ ov = .string O ∧ Hid (O.data.toList = PRE ++ ackP list j) ∧ O.size ≤ 40 + 16 * j ∧ Mod [] W3 wr) (fun _ iv _ => n - (intOf iv).toNat)
  case atStart => exact ⟨1, O1, by omega, by omega, rfl, rfl, HO1, by have := HOs.out; omega, Mod.refl _ _⟩
  case round =>
    obtain ⟨j, O, hj1, hj, rfl, rfl, hO, hOs, hm⟩ := hrel
    have HMw := hide (HMi.out.trans hm (by simp))
    have HBw := hide (hm.blk HBi.out (by simp))
    have hgl := HBw.out.lt
    obtain ⟨p0, p1, p2, p3, p4, p5, p6, p7⟩ := c8 HBw.out
    have HMr := hide hm
    clear hm
    by_cases h : j < n
    · obtain ⟨lj, hj2, hgj, hle, hlt2, g', o', hA, hgr, c0, c1⟩ := HCell.out wr HMw.out j h
      cases hA
      obtain ⟨lp, hp, hgp, _, hpt, g', o', hA, _, k0, _⟩ := HCell.out wr HMw.out (j - 1) (by omega)
      cases hA
      have hgap := HGap.out j (by omega) h
      rw [hgj, hgp] at hgap
      simp only at hgap
      have hst : ackP list (j + 1) = ackP list j ++ (vputS (lp - hj2 - 2) ++ vputS (hj2 - lj)) := by
        show ackP list j ++ ((if 0 < j then vputS ((list.getD (j - 1) (0, 0)).1 - (list.getD j (0, 0)).2 - 2) else []) ++ vputS ((list.getD j (0, 0)).2 - (list.getD j (0, 0)).1)) = _
        rw [if_pos (by omega), hgj, hgp]
      obtain ⟨x, hx⟩ : ∃ x, lp - hj2 = x := ⟨_, rfl⟩
      obtain ⟨y, hy⟩ : ∃ y, x - 2 = y := ⟨_, rfl⟩
      obtain ⟨dz, hd⟩ : ∃ d, hj2 - lj = d := ⟨_, rfl⟩
      rw [hx, hy, hd] at hst
      obtain ⟨jm, hjm⟩ : ∃ jm, j - 1 = jm := ⟨_, rfl⟩
      rw [hjm] at k0
      have ex : (lp : Int) - hj2 = (x : Int) := by omega
      have hwx : IntKind.u64.wrap ((lp : Int) - hj2) = (x : Int) := by rw [ex]; exact IntWalk.u64_in _ (by omega)
      have hwx2 : IntKind.u64.wrap (x : Int) = (x : Int) := IntWalk.u64_in _ (by omega)
      have ey : (x : Int) - 2 = (y : Int) := by omega
      have hwy : IntKind.u64.wrap ((x : Int) - 2) = (y : Int) := by rw [ey]; exact IntWalk.u64_in _ (by omega)
      have hwy2 : IntKind.u64.wrap (y : Int) = (y : Int) := IntWalk.u64_in _ (by omega)
      have ed : (hj2 : Int) - lj = (dz : Int) := by omega
      have hwd : IntKind.u64.wrap ((hj2 : Int) - lj) = (dz : Int) := by rw [ed]; exact IntWalk.u64_in _ (by omega)
      have hwd2 : IntKind.u64.wrap (dz : Int) = (dz : Int) := IntWalk.u64_in _ (by omega)
      have f1 : (j : Int) - 1 = (jm : Int) := by omega
      have fw1 : IntKind.i64.wrap ((j : Int) - 1) = (jm : Int) := by rw [f1]; exact IntWalk.i64_in _ (by omega)
      have fw2 : IntKind.i64.wrap (jm : Int) = (jm : Int) := IntWalk.i64_in _ (by omega)
      have fj0 : (0 : Int) ≤ (jm : Int) := by omega
      have fjm : (jm : Int) < n := by omega
      have fjn : jm < n := by omega
      obtain ⟨Y1, -, hY1, hY1s, hY1l⟩ := putB y
      have HY1 := hide hY1
      obtain ⟨E1, -, hE1, hE1s, hE1l⟩ := putB dz
      have HE1 := hide hE1
      have HO2 : Hid ((O ++ (Y1 ++ E1)).data.toList = PRE ++ ackP list (j + 1)) := hide (by
        rw [ByteArray.data_append, Array.toList_append, ByteArray.data_append, Array.toList_append, hO.out, hY1l, hE1l, hst, List.append_assoc])
      have HS2 : Hid ((O ++ (Y1 ++ E1)).size ≤ 40 + 16 * (j + 1)) := hide (by rw [ByteArray.size_append, ByteArray.size_append]; omega)
      have hq1 : Y1.size + E1.size ≤ 9223372036854775807 := by omega
      have hq2 : O.size + (Y1 ++ E1).size ≤ 9223372036854775807 := by rw [ByteArray.size_append]; omega
      have hjn : (j : Int) < n := by omega
      have u7 := cell_regrown p7
      have v0 := cell_regrown c0
      have v1 := cell_regrown c1
      have v2 := cell_regrown k0
      have cy : ∀ d os, Calls Tryd.prog 32 #[.int .u64 (y : Nat)] (grow (redrawn wr d) os) fun e0 w'' => e0 = .returned (.string Y1) ∧ ∃ p : Regrown, w'' = grow (redrawn wr p.d) p.os := fun d os => Calls.regrown_of ((HP.out _ y).mono fun _ _ h => ⟨by rw [h.1, HY1.out], h.2.below (Nat.le_refl _) (by simp)⟩)
      have ce : ∀ d os, Calls Tryd.prog 32 #[.int .u64 (dz : Nat)] (grow (redrawn wr d) os) fun e0 w'' => e0 = .returned (.string E1) ∧ ∃ p : Regrown, w'' = grow (redrawn wr p.d) p.os := fun d os => Calls.regrown_of ((HP.out _ dz).mono fun _ _ h => ⟨by rw [h.1, HE1.out], h.2.below (Nat.le_refl _) (by simp)⟩)
      have CY := hide cy
      have CE := hide ce
      clear cy ce hst hY1 hE1 hY1l hE1l hgj hgp hgap hx hy hd hO c0 c1 k0 hgr hjm hj
      go_wp2_with fail
      clear p0 p1 p2 p3 p4 p5 p6 p7
      refine wp_region_below (by kernel_rfl) (by kernel_rfl) (by kernel_rfl) ?_
      repeat (go_big_quiet_step (first | with_reducible exact CY.out _ _ | with_reducible exact CE.out _ _))
      refine wpQuiet_nil ?_
      intro _ hw'
      obtain ⟨⟨dq, osq⟩, hw''⟩ := hw'
      subst hw''
      have HMj := hide (HMr.out.trans (Mod.of_below (F := []) (below_regrown wr dq osq)) (by simp))
      go_wp2_with fail
      refine ⟨?rel, ?measure⟩
      case rel => exact ⟨j + 1, O ++ (Y1 ++ E1), by omega, by omega, by go_num, by trivial, HO2, HS2.out, HMj.out⟩
      case measure => simp [intOf]; omega
    · obtain rfl : j = n := by omega
      have HF3 : Hid (fbytes ⟨2, a, b, e, fin, data, more, list⟩ = O.data.toList) := hide (by rw [HF2.out, hO.out]; simp)
      clear hO
      go_wp2_with fail
      go_ret2
      exact RWr.yes HN.out HF3.out HMw.out

set_option maxRecDepth 100000 in
set_option maxHeartbeats 8000000 in
theorem rwr_3 (w : World) (A : Option Addr) (n c : Nat) (a b e : Nat) (fin : Bool) (data more : ByteArray) (list : List (Nat × Nat)) (hr : Rngs w A n list) (hm : fmay ⟨3, a, b, e, fin, data, more, list⟩ = true) : Calls Tryd.prog 18 #[fval A n c ⟨3, a, b, e, fin, data, more, list⟩] w (RWr w ⟨3, a, b, e, fin, data, more, list⟩) := by
  have hln := hr.1
  obtain ⟨hro, hmo⟩ : rngs list = true ∧ (more.size = 8) := by
    have := (fmay_parts hm).2.2.2.2
    simp [fshape, fown, facks] at this
    simp [this]
  obtain ⟨hok, h1, h64⟩ : rngOk none list = true ∧ 1 ≤ n ∧ n ≤ 64 := by
    unfold rngs at hro
    simp only [Bool.and_eq_true, decide_eq_true_eq] at hro
    exact ⟨hro.1, by omega, by omega⟩
  have hall := rngOk_all list none hok
  have HAll := hide (fun i (h : i < n) => hall i (by omega))
  have HFk : Hid (fbytes ⟨3, a, b, e, fin, data, more, list⟩ = vputS 3 ++ (vputS (list.getD 0 (0, 0)).2 ++ (vputS a ++ (vputS (n - 1) ++ (ackP list n ++ (vputS b ++ (vputS e ++ vputS (numF 0 more.data.toList)))))))) := hide (by
    cases list with
    | nil => simp at hln; omega
    | cons r t =>
      have he := ackP_end r t
      rw [hln] at he
      rw [he]
      have hn1 : n - 1 = t.length := by simp at hln; omega
      rw [hn1]
      simp [fbytes, fshape, fway, fack])
  have HMay := hide (fun w' (h : Rngs w' A n list) => rfmay_any w' A n c ⟨3, a, b, e, fin, data, more, list⟩ h)
  rw [hm] at HMay
  have HR := hide (hr.new ((Mod.refl [] w).alloc (.cells (fcs A n c ⟨3, a, b, e, fin, data, more, list⟩) 26)))
  have HBx := hide (Blk.new w 26 (fcs A n c ⟨3, a, b, e, fin, data, more, list⟩))
  have HN := hide hm
  have HP := hide (fun w n => rfput_any w n)
  have HNm := hide (fun w => rnumber_any w more (by omega))
  obtain ⟨NM, hNM⟩ : ∃ N, numF 0 more.data.toList = N := ⟨_, rfl⟩
  rw [hNM] at HFk HNm
  have HCell : Hid (∀ w', Mod [] w w' → ∀ i, i < n → ∃ lo hi : Nat, list.getD i (0, 0) = (lo, hi) ∧ lo ≤ hi ∧ hi < 4611686018427387904 ∧ ∃ g o, A = some ⟨g, o, none⟩ ∧ g < w'.heap.size ∧ w'.cell? ⟨g, o + i * 2, none⟩ = some (.int .u64 (lo : Nat)) ∧ w'.cell? ⟨g, o + i * 2 + 1, none⟩ = some (.int .u64 (hi : Nat))) := hide (fun w' hmm i hi => by
    obtain ⟨g, o, hl, hA, hg, c0, c1⟩ := (hr.new hmm).at_ hi
    have ha := HAll.out i hi
    refine ⟨list[i].1, list[i].2, ?_, ha.1, ha.2.1, g, o, hA, hg, c0, c1⟩
    rw [List.getD_eq_getElem?_getD, List.getElem?_eq_getElem hl]; rfl)
  have HGap : Hid (∀ i, 0 < i → i < n → (list.getD i (0, 0)).2 + 2 ≤ (list.getD (i - 1) (0, 0)).1) := hide (fun i h0 hi => by
    have ha := (HAll.out i hi).2.2 h0
    rw [List.getD_eq_getElem?_getD, List.getElem?_eq_getElem (by omega), List.getD_eq_getElem?_getD, List.getElem?_eq_getElem (by omega)]
    exact ha)
  obtain ⟨K, -, hK, hKs, hKl⟩ := putB 3
  have HK := hide hK
  obtain ⟨A1, -, hA1, hA1s, hA1l⟩ := putB a
  have HA1 := hide hA1
  obtain ⟨m, hmn⟩ : ∃ m, n - 1 = m := ⟨_, rfl⟩
  obtain ⟨L1, -, hL1, hL1s, hL1l⟩ := putB m
  have HL1 := hide hL1
  rw [hmn] at HFk
  have en1 : (n : Int) - 1 = (m : Int) := by omega
  have en2 : IntKind.i64.wrap ((n : Int) - 1) = (m : Int) := by rw [en1]; exact IntWalk.i64_in _ (by omega)
  have en3 : IntKind.u64.wrap (m : Int) = (m : Int) := IntWalk.u64_in _ (by omega)
  have hn0 : 0 < n := by omega
  have hn0i : (0 : Int) < n := by omega
  have HA1l := hide hA1l
  have HL1l := hide hL1l
  have HKl := hide hKl
  clear hm hr hro hok HAll hall hln hK hA1 hL1 hA1l hL1l hKl hmn hmo hNM
  obtain ⟨l0, h0, hg0, hl0, hh0, _⟩ := HCell.out w (Mod.refl _ _) 0 (by omega)
  have HG0 := hide hg0
  obtain ⟨d0, hd0⟩ : ∃ d, h0 - l0 = d := ⟨_, rfl⟩
  have ed1 : (h0 : Int) - l0 = (d0 : Int) := by omega
  have ed2 : IntKind.u64.wrap ((h0 : Int) - l0) = (d0 : Int) := by rw [ed1]; exact IntWalk.u64_in _ (by omega)
  obtain ⟨B0, -, hB0, hB0s, hB0l⟩ := putB h0
  have HB0 := hide hB0
  obtain ⟨D0, -, hD0, hD0s, hD0l⟩ := putB d0
  have HD0 := hide hD0
  obtain ⟨PRE, hPRE⟩ : ∃ PRE, vputS 3 ++ (vputS h0 ++ (vputS a ++ vputS m)) = PRE := ⟨_, rfl⟩
  have HPre : Hid (vputS 3 ++ (vputS h0 ++ (vputS a ++ vputS m)) = PRE) := hide hPRE
  have HO1 : Hid ((K ++ (B0 ++ A1 ++ L1 ++ D0)).data.toList = PRE ++ ackP list 1) := hide (by
    rw [← hPRE]
    simp only [ByteArray.data_append, Array.toList_append, HKl.out, hB0l, HA1l.out, HL1l.out, hD0l]
    simp only [ackP, hg0, ← hd0]
    simp)
  have HF2 : Hid (fbytes ⟨3, a, b, e, fin, data, more, list⟩ = PRE ++ (ackP list n ++ (vputS b ++ (vputS e ++ vputS NM)))) := hide (by
    rw [HFk.out, ← hPRE, hg0]
    simp)
  have hq1 : B0.size + A1.size ≤ 9223372036854775807 := by omega
  have hq2 : (B0 ++ A1).size + L1.size ≤ 9223372036854775807 := by rw [ByteArray.size_append]; omega
  have hq3 : (B0 ++ A1 ++ L1).size + D0.size ≤ 9223372036854775807 := by rw [ByteArray.size_append, ByteArray.size_append]; omega
  have hq4 : K.size + (B0 ++ A1 ++ L1 ++ D0).size ≤ 9223372036854775807 := by rw [ByteArray.size_append, ByteArray.size_append, ByteArray.size_append]; omega
  have HOs : Hid ((K ++ (B0 ++ A1 ++ L1 ++ D0)).size ≤ 40) := hide (by rw [ByteArray.size_append, ByteArray.size_append, ByteArray.size_append, ByteArray.size_append]; omega)
  clear hB0 hD0 hB0l hD0l hPRE hg0 hd0 HFk
  unfold fval fcs at *
  simp only at *
  go_enter Tryd.func18, Tryd.ntmps18
  go_wp2_with fail
  refine (HMay.out _ HR.out).mono ?_
  rintro e0 w1 ⟨rfl, m1⟩
  have HM := hide (((Mod.refl [] w).alloc _).trans m1 (by simp))
  have HB := hide (m1.blk HBx.out (by simp))
  have HR1 := hide (HR.out.new m1)
  have hgl := HB.out.lt
  obtain ⟨p0, p1, p2, p3, p4, p5, p6, p7⟩ := c8 HB.out
  clear m1
  go_wp2_with fail
  refine (HP.out _ 3).mono ?_
  rintro e0 w2 ⟨rfl, m2⟩
  rw [HK.out]
  have HM2 := hide (HM.out.trans m2 (by simp))
  have HB2 := hide (m2.blk HB.out (by simp))
  have hgl2 := HB2.out.lt
  clear m2 p0 p1 p2 p3 p4 p5 p6 p7 hgl
  obtain ⟨p0, p1, p2, p3, p4, p5, p6, p7⟩ := c8 HB2.out
  obtain ⟨l0', h0', hg0', -, -, g, o, rfl, hgr, c0, c1⟩ := HCell.out w2 HM2.out 0 (by omega)
  rw [HG0.out] at hg0'
  obtain ⟨rfl, rfl⟩ := Prod.mk.inj hg0'
  simp only [Nat.zero_mul, Nat.add_zero] at c0 c1
  have u0 := cell_regrown p0
  have u1 := cell_regrown p1
  have u2 := cell_regrown p2
  have u3 := cell_regrown p3
  have u4 := cell_regrown p4
  have u5 := cell_regrown p5
  have u6 := cell_regrown p6
  have u7 := cell_regrown p7
  have v0 := cell_regrown c0
  have v1 := cell_regrown c1
  have ca : ∀ d os, Calls Tryd.prog 32 #[.int .u64 (a : Nat)] (grow (redrawn w2 d) os) fun e0 w'' => e0 = .returned (.string A1) ∧ ∃ p : Regrown, w'' = grow (redrawn w2 p.d) p.os := fun d os => Calls.regrown_of ((HP.out _ a).mono fun _ _ h => ⟨by rw [h.1, HA1.out], h.2.below (Nat.le_refl _) (by simp)⟩)
  have cb : ∀ d os, Calls Tryd.prog 32 #[.int .u64 (h0 : Nat)] (grow (redrawn w2 d) os) fun e0 w'' => e0 = .returned (.string B0) ∧ ∃ p : Regrown, w'' = grow (redrawn w2 p.d) p.os := fun d os => Calls.regrown_of ((HP.out _ h0).mono fun _ _ h => ⟨by rw [h.1, HB0.out], h.2.below (Nat.le_refl _) (by simp)⟩)
  have cl : ∀ d os, Calls Tryd.prog 32 #[.int .u64 (m : Nat)] (grow (redrawn w2 d) os) fun e0 w'' => e0 = .returned (.string L1) ∧ ∃ p : Regrown, w'' = grow (redrawn w2 p.d) p.os := fun d os => Calls.regrown_of ((HP.out _ m).mono fun _ _ h => ⟨by rw [h.1, HL1.out], h.2.below (Nat.le_refl _) (by simp)⟩)
  have cd : ∀ d os, Calls Tryd.prog 32 #[.int .u64 (d0 : Nat)] (grow (redrawn w2 d) os) fun e0 w'' => e0 = .returned (.string D0) ∧ ∃ p : Regrown, w'' = grow (redrawn w2 p.d) p.os := fun d os => Calls.regrown_of ((HP.out _ d0).mono fun _ _ h => ⟨by rw [h.1, HD0.out], h.2.below (Nat.le_refl _) (by simp)⟩)
  have CA := hide ca
  have CB := hide cb
  have CL := hide cl
  have CD := hide cd
  clear ca cb cl cd c0 c1 hgr hg0'
  go_wp2_with fail
  refine wp_region_below (by kernel_rfl) (by kernel_rfl) (by kernel_rfl) ?_
  repeat (go_big_quiet_step (first | with_reducible exact CB.out _ _ | with_reducible exact CA.out _ _ | with_reducible exact CL.out _ _ | with_reducible exact CD.out _ _))
  refine wpQuiet_nil ?_
  intro _ hw'
  obtain ⟨⟨dq, osq⟩, hw''⟩ := hw'
  subst hw''
  have HMi := hide (HM2.out.trans (Mod.of_below (F := []) (below_regrown w2 dq osq)) (by simp))
  have HBi := hide ((Mod.of_below (F := []) (below_regrown w2 dq osq)).blk HB2.out (by simp))
  obtain ⟨W3, hW3⟩ : ∃ W3, grow (redrawn w2 dq) osq = W3 := ⟨_, rfl⟩
  rw [hW3] at HMi HBi ⊢
  clear hW3 u0 u1 u2 u3 u4 u5 u6 u7 v0 v1 hgl2 p0 p1 p2 p3 p4 p5 p6 p7
  have hgl3 := HBi.out.lt
  obtain ⟨p0, p1, p2, p3, p4, p5, p6, p7⟩ := c8 HBi.out
  obtain ⟨O1, hO1⟩ : ∃ O1, K ++ (B0 ++ A1 ++ L1 ++ D0) = O1 := ⟨_, rfl⟩
  rw [hO1] at HO1 HOs
  go_wp2_with fail
  rw [hO1]
  clear hO1 hq1 hq2 hq3 hq4 p0 p1 p2 p3 p4 p5 p6 p7 hgl3
  go_loopw [4, 5] (fun ov iv wr => ∃ (j : Nat) (O : ByteArray), 1 ≤ j ∧ j ≤ n ∧ iv = .int .i64 (j : Int) ∧ ov = .string O ∧ Hid (O.data.toList = PRE ++ ackP list j) ∧ O.size ≤ 40 + 16 * j ∧ Mod [] W3 wr) (fun _ iv _ => n - (intOf iv).toNat)
  case atStart => exact ⟨1, O1, by omega, by omega, rfl, rfl, HO1, by have := HOs.out; omega, Mod.refl _ _⟩
  case round =>
    obtain ⟨j, O, hj1, hj, rfl, rfl, hO, hOs, hm⟩ := hrel
    have HMw := hide (HMi.out.trans hm (by simp))
    have HBw := hide (hm.blk HBi.out (by simp))
    have hgl := HBw.out.lt
    obtain ⟨p0, p1, p2, p3, p4, p5, p6, p7⟩ := c8 HBw.out
    have HMr := hide hm
    clear hm
    by_cases h : j < n
    · obtain ⟨lj, hj2, hgj, hle, hlt2, g', o', hA, hgr, c0, c1⟩ := HCell.out wr HMw.out j h
      cases hA
      obtain ⟨lp, hp, hgp, _, hpt, g', o', hA, _, k0, _⟩ := HCell.out wr HMw.out (j - 1) (by omega)
      cases hA
      have hgap := HGap.out j (by omega) h
      rw [hgj, hgp] at hgap
      simp only at hgap
      have hst : ackP list (j + 1) = ackP list j ++ (vputS (lp - hj2 - 2) ++ vputS (hj2 - lj)) := by
        show ackP list j ++ ((if 0 < j then vputS ((list.getD (j - 1) (0, 0)).1 - (list.getD j (0, 0)).2 - 2) else []) ++ vputS ((list.getD j (0, 0)).2 - (list.getD j (0, 0)).1)) = _
        rw [if_pos (by omega), hgj, hgp]
      obtain ⟨x, hx⟩ : ∃ x, lp - hj2 = x := ⟨_, rfl⟩
      obtain ⟨y, hy⟩ : ∃ y, x - 2 = y := ⟨_, rfl⟩
      obtain ⟨dz, hd⟩ : ∃ d, hj2 - lj = d := ⟨_, rfl⟩
      rw [hx, hy, hd] at hst
      obtain ⟨jm, hjm⟩ : ∃ jm, j - 1 = jm := ⟨_, rfl⟩
      rw [hjm] at k0
      have ex : (lp : Int) - hj2 = (x : Int) := by omega
      have hwx : IntKind.u64.wrap ((lp : Int) - hj2) = (x : Int) := by rw [ex]; exact IntWalk.u64_in _ (by omega)
      have hwx2 : IntKind.u64.wrap (x : Int) = (x : Int) := IntWalk.u64_in _ (by omega)
      have ey : (x : Int) - 2 = (y : Int) := by omega
      have hwy : IntKind.u64.wrap ((x : Int) - 2) = (y : Int) := by rw [ey]; exact IntWalk.u64_in _ (by omega)
      have hwy2 : IntKind.u64.wrap (y : Int) = (y : Int) := IntWalk.u64_in _ (by omega)
      have ed : (hj2 : Int) - lj = (dz : Int) := by omega
      have hwd : IntKind.u64.wrap ((hj2 : Int) - lj) = (dz : Int) := by rw [ed]; exact IntWalk.u64_in _ (by omega)
      have hwd2 : IntKind.u64.wrap (dz : Int) = (dz : Int) := IntWalk.u64_in _ (by omega)
      have f1 : (j : Int) - 1 = (jm : Int) := by omega
      have fw1 : IntKind.i64.wrap ((j : Int) - 1) = (jm : Int) := by rw [f1]; exact IntWalk.i64_in _ (by omega)
      have fw2 : IntKind.i64.wrap (jm : Int) = (jm : Int) := IntWalk.i64_in _ (by omega)
      have fj0 : (0 : Int) ≤ (jm : Int) := by omega
      have fjm : (jm : Int) < n := by omega
      have fjn : jm < n := by omega
      obtain ⟨Y1, -, hY1, hY1s, hY1l⟩ := putB y
      have HY1 := hide hY1
      obtain ⟨E1, -, hE1, hE1s, hE1l⟩ := putB dz
      have HE1 := hide hE1
      have HO2 : Hid ((O ++ (Y1 ++ E1)).data.toList = PRE ++ ackP list (j + 1)) := hide (by
        rw [ByteArray.data_append, Array.toList_append, ByteArray.data_append, Array.toList_append, hO.out, hY1l, hE1l, hst, List.append_assoc])
      have HS2 : Hid ((O ++ (Y1 ++ E1)).size ≤ 40 + 16 * (j + 1)) := hide (by rw [ByteArray.size_append, ByteArray.size_append]; omega)
      have hq1 : Y1.size + E1.size ≤ 9223372036854775807 := by omega
      have hq2 : O.size + (Y1 ++ E1).size ≤ 9223372036854775807 := by rw [ByteArray.size_append]; omega
      have hjn : (j : Int) < n := by omega
      have u7 := cell_regrown p7
      have v0 := cell_regrown c0
      have v1 := cell_regrown c1
      have v2 := cell_regrown k0
      have cy : ∀ d os, Calls Tryd.prog 32 #[.int .u64 (y : Nat)] (grow (redrawn wr d) os) fun e0 w'' => e0 = .returned (.string Y1) ∧ ∃ p : Regrown, w'' = grow (redrawn wr p.d) p.os := fun d os => Calls.regrown_of ((HP.out _ y).mono fun _ _ h => ⟨by rw [h.1, HY1.out], h.2.below (Nat.le_refl _) (by simp)⟩)
      have ce : ∀ d os, Calls Tryd.prog 32 #[.int .u64 (dz : Nat)] (grow (redrawn wr d) os) fun e0 w'' => e0 = .returned (.string E1) ∧ ∃ p : Regrown, w'' = grow (redrawn wr p.d) p.os := fun d os => Calls.regrown_of ((HP.out _ dz).mono fun _ _ h => ⟨by rw [h.1, HE1.out], h.2.below (Nat.le_refl _) (by simp)⟩)
      have CY := hide cy
      have CE := hide ce
      clear cy ce hst hY1 hE1 hY1l hE1l hgj hgp hgap hx hy hd hO c0 c1 k0 hgr hjm hj
      go_wp2_with fail
      clear p0 p1 p2 p3 p4 p5 p6 p7
      refine wp_region_below (by kernel_rfl) (by kernel_rfl) (by kernel_rfl) ?_
      repeat (go_big_quiet_step (first | with_reducible exact CY.out _ _ | with_reducible exact CE.out _ _))
      refine wpQuiet_nil ?_
      intro _ hw'
      obtain ⟨⟨dq, osq⟩, hw''⟩ := hw'
      subst hw''
      have HMj := hide (HMr.out.trans (Mod.of_below (F := []) (below_regrown wr dq osq)) (by simp))
      go_wp2_with fail
      refine ⟨?rel, ?measure⟩
      case rel => exact ⟨j + 1, O ++ (Y1 ++ E1), by omega, by omega, by go_num, by trivial, HO2, HS2.out, HMj.out⟩
      case measure => simp [intOf]; omega
    · obtain rfl : j = n := by omega
      obtain ⟨B2, -, hB2, hB2s, hB2l⟩ := putB b
      have HB2' := hide hB2
      obtain ⟨E2, -, hE2, hE2s, hE2l⟩ := putB e
      have HE2 := hide hE2
      obtain ⟨N2, -, hN2, hN2s, hN2l⟩ := putB NM
      have HN2 := hide hN2
      have HF3 : Hid (fbytes ⟨3, a, b, e, fin, data, more, list⟩ = (O ++ (B2 ++ E2 ++ N2)).data.toList) := hide (by
        rw [HF2.out]
        simp only [ByteArray.data_append, Array.toList_append, hO.out, hB2l, hE2l, hN2l]
        simp)
      have hq1 : B2.size + E2.size ≤ 9223372036854775807 := by omega
      have hq2 : (B2 ++ E2).size + N2.size ≤ 9223372036854775807 := by rw [ByteArray.size_append]; omega
      have hq3 : O.size + (B2 ++ E2 ++ N2).size ≤ 9223372036854775807 := by rw [ByteArray.size_append, ByteArray.size_append]; omega
      have u2 := cell_regrown p2
      have u3 := cell_regrown p3
      have u6 := cell_regrown p6
      have cb : ∀ d os, Calls Tryd.prog 32 #[.int .u64 (b : Nat)] (grow (redrawn wr d) os) fun e0 w'' => e0 = .returned (.string B2) ∧ ∃ p : Regrown, w'' = grow (redrawn wr p.d) p.os := fun d os => Calls.regrown_of ((HP.out _ b).mono fun _ _ h => ⟨by rw [h.1, HB2'.out], h.2.below (Nat.le_refl _) (by simp)⟩)
      have ce : ∀ d os, Calls Tryd.prog 32 #[.int .u64 (e : Nat)] (grow (redrawn wr d) os) fun e0 w'' => e0 = .returned (.string E2) ∧ ∃ p : Regrown, w'' = grow (redrawn wr p.d) p.os := fun d os => Calls.regrown_of ((HP.out _ e).mono fun _ _ h => ⟨by rw [h.1, HE2.out], h.2.below (Nat.le_refl _) (by simp)⟩)
      have cn : ∀ d os, Calls Tryd.prog 32 #[.int .u64 (NM : Nat)] (grow (redrawn wr d) os) fun e0 w'' => e0 = .returned (.string N2) ∧ ∃ p : Regrown, w'' = grow (redrawn wr p.d) p.os := fun d os => Calls.regrown_of ((HP.out _ NM).mono fun _ _ h => ⟨by rw [h.1, HN2.out], h.2.below (Nat.le_refl _) (by simp)⟩)
      have cm : ∀ d os, Calls Tryd.prog 33 #[.string more] (grow (redrawn wr d) os) fun e0 w'' => e0 = .returned (.int .u64 (NM : Nat)) ∧ ∃ p : Regrown, w'' = grow (redrawn wr p.d) p.os := fun d os => Calls.regrown_of ((HNm.out _).mono fun _ _ h => ⟨h.1, by rw [← h.2]; exact Below.refl _ _⟩)
      have CB := hide cb
      have CE := hide ce
      have CN := hide cn
      have CM := hide cm
      clear cb ce cn cm hO hB2 hE2 hN2 hB2l hE2l hN2l
      go_wp2_with fail
      clear p0 p1 p2 p3 p4 p5 p6 p7
      refine wp_region_below (by kernel_rfl) (by kernel_rfl) (by kernel_rfl) ?_
      repeat (go_big_quiet_step (first | with_reducible exact CB.out _ _ | with_reducible exact CE.out _ _ | with_reducible exact CN.out _ _ | with_reducible exact CM.out _ _))
      refine wpQuiet_nil ?_
      intro _ hw'
      obtain ⟨⟨dq, osq⟩, hw''⟩ := hw'
      subst hw''
      have HMj := hide (HMw.out.trans (Mod.of_below (F := []) (below_regrown wr dq osq)) (by simp))
      go_wp2_with fail
      go_ret2
      exact RWr.yes HN.out HF3.out HMj.out
end Go.Proofs.YtbjmcnmcodbkdaaDoor

/-
  frames: the document's package: Write of new ids; Write.
-/
namespace Go.Proofs.YtbjmcnmcodbkdaaDoor
open Go.RowKit Go.Sort
set_option linter.unusedVariables false
set_option linter.unusedSimpArgs false

set_option maxRecDepth 100000 in
set_option maxHeartbeats 8000000 in
theorem rwr_24 (w : World) (A : Option Addr) (n c : Nat) (a b e : Nat) (fin : Bool) (data more : ByteArray) (list : List (Nat × Nat)) (hr : Rngs w A n list) (hm : fmay ⟨24, a, b, e, fin, data, more, list⟩ = true) : Calls Tryd.prog 18 #[fval A n c ⟨24, a, b, e, fin, data, more, list⟩] w (RWr w ⟨24, a, b, e, fin, data, more, list⟩) := by
  obtain ⟨hd, hmo⟩ : data.size ≤ 20 ∧ more.size = 16 := by
    have := (fmay_parts hm).2.2.2.2
    simp [fshape, fown] at this
    omega
  have HMay := hide (fun w' (h : Rngs w' A n list) => rfmay_any w' A n c ⟨24, a, b, e, fin, data, more, list⟩ h)
  rw [hm] at HMay
  have HR := hide (hr.new ((Mod.refl [] w).alloc (.cells (fcs A n c ⟨24, a, b, e, fin, data, more, list⟩) 26)))
  have HBx := hide (Blk.new w 26 (fcs A n c ⟨24, a, b, e, fin, data, more, list⟩))
  have HN := hide hm
  have HP := hide (fun w n => rfput_any w n)
  obtain ⟨K, -, hK, hKs, hKl⟩ := putB 24
  have HK := hide hK
  obtain ⟨VA, -, hA1, hA1s, hA1l⟩ := putB a
  obtain ⟨VB, -, hB1, hB1s, hB1l⟩ := putB b
  obtain ⟨D, hD⟩ : ∃ D : ByteArray, (⟨#[UInt8.ofNat data.size]⟩ : ByteArray) = D := ⟨_, rfl⟩
  have s4 : D.size = 1 := by rw [← hD]; rfl
  have pp : ∀ (x : Int) (v : ByteArray), ((x = (a : Nat) ∧ v = VA) ∨ (x = (b : Nat) ∧ v = VB)) → ∀ w, Calls Tryd.prog 32 #[.int .u64 x] w fun e w' => e = .returned (.string v) ∧ Mod [] w w' := by
    rintro x v (⟨rfl, rfl⟩ | ⟨rfl, rfl⟩) w
    · rw [← hA1]; exact rfput_any w a
    · rw [← hB1]; exact rfput_any w b
  have PP := hide pp
  have hcv := conv1 data.size 1 hd
  rw [hD] at hcv
  have hw8 : IntKind.u8.wrap ((data.size : Nat) : Int) = (data.size : Nat) := IntWalk.u8_in _ (by omega)
  have hfin : fbytes ⟨24, a, b, e, fin, data, more, list⟩ = (K ++ VA ++ VB ++ D ++ data ++ more).data.toList := by
    rw [app_list, app_list, app_list, app_list, app_list, hKl, hA1l, hB1l, ← hD]
    simp [fbytes, fshape, fway, fcid]
  have HF := hide hfin
  have q1 : ¬ 9223372036854775807 < K.size + VA.size := by omega
  have q2 : ¬ 9223372036854775807 < K.size + VA.size + VB.size := by omega
  have q3 : ¬ 9223372036854775807 < K.size + VA.size + VB.size + D.size := by omega
  have q4 : ¬ 9223372036854775807 < K.size + VA.size + VB.size + D.size + data.size := by omega
  have q5 : ¬ 9223372036854775807 < K.size + VA.size + VB.size + D.size + data.size + more.size := by omega
  clear hfin hK hA1 hB1 hKl hA1l hB1l hD pp hm hr s4 hmo
  unfold fval fcs at *
  simp only at *
  go_enter Tryd.func18, Tryd.ntmps18
  go_wp2_with fail
  refine (HMay.out _ HR.out).mono ?_
  rintro e0 w1 ⟨rfl, m1⟩
  have HM := hide (((Mod.refl [] w).alloc _).trans m1 (by simp))
  have HB := hide (m1.blk HBx.out (by simp))
  have HR1 := hide (HR.out.new m1)
  have hgl := HB.out.lt
  obtain ⟨p0, p1, p2, p3, p4, p5, p6, p7⟩ := c8 HB.out
  clear m1
  go_wp2_with fail
  refine (HP.out _ 24).mono ?_
  rintro e0 w2 ⟨rfl, m2⟩
  rw [HK.out]
  have HM2 := hide (HM.out.trans m2 (by simp))
  have HB2 := hide (m2.blk HB.out (by simp))
  have hgl2 := HB2.out.lt
  clear m2 p0 p1 p2 p3 p4 p5 p6 p7 hgl
  obtain ⟨p0, p1, p2, p3, p4, p5, p6, p7⟩ := c8 HB2.out
  clear p0 p1 p2 p3 p4 p5 p6 p7
  obtain ⟨g, hg⟩ : ∃ g, w.heap.size = g := ⟨_, rfl⟩
  rw [hg] at HB2 hgl2
  simp only [hg]
  clear hg
  obtain ⟨p0, p1, p2, p3, p4, p5, p6, p7⟩ := c8 HB2.out
  go_wp2_with fail
  clear p0 p1 p2 p3 p4 p5 p6 p7
  have HS0 := FrSd.of (f := ⟨24, a, b, e, fin, data, more, list⟩) HB2.out (Mod.refl [] _).drew
  refine wp_region_held_drew (S := FrSd w2 g A n c ⟨24, a, b, e, fin, data, more, list⟩) (by kernel_rfl) HS0 (fun _ => ?_)
  refine take_dst (i := 0) (v := ?_) 146 rfl rfl (by kernel_rfl) (by kernel_rfl) (by kernel_rfl) (fun _ _ _ h => h) (Or.inl ⟨by rfl, ?_⟩) HS0 ?_
  rotate_left
  · intro w hSw
    obtain ⟨⟨p0, p1, p2, p3, p4, p5, p6, p7⟩, _⟩ := hSw
    dsimp only at p0 p1 p2 p3 p4 p5 p6 p7
    go_simp
    first | done | (with_reducible rfl)
  simp only [Act.put, List.setIfInBounds_toArray, List.set_cons_zero, List.set_cons_succ]
  refine take_dst (i := 1) (v := ?_) 147 rfl rfl (by kernel_rfl) (by kernel_rfl) (by kernel_rfl) (fun _ _ _ h => h) (Or.inl ⟨by rfl, ?_⟩) HS0 ?_
  rotate_left
  · intro w hSw
    obtain ⟨⟨p0, p1, p2, p3, p4, p5, p6, p7⟩, _⟩ := hSw
    dsimp only at p0 p1 p2 p3 p4 p5 p6 p7
    go_simp
    first | done | (with_reducible rfl)
  simp only [Act.put, List.setIfInBounds_toArray, List.set_cons_zero, List.set_cons_succ]
  refine take_dst (i := 2) (v := ?_) 148 rfl rfl (by kernel_rfl) (by kernel_rfl) (by kernel_rfl) (fun _ _ _ h => h) (Or.inl ⟨by rfl, ?_⟩) HS0 ?_
  rotate_left
  · intro w hSw
    obtain ⟨⟨p0, p1, p2, p3, p4, p5, p6, p7⟩, _⟩ := hSw
    dsimp only at p0 p1 p2 p3 p4 p5 p6 p7
    go_simp
    first | done | (with_reducible rfl)
  simp only [Act.put, List.setIfInBounds_toArray, List.set_cons_zero, List.set_cons_succ]
  refine take_dst (i := 5) (v := ?_) 151 rfl rfl (by kernel_rfl) (by kernel_rfl) (by kernel_rfl) (fun _ _ _ h => h) (Or.inl ⟨by rfl, ?_⟩) HS0 ?_
  rotate_left
  · intro w hSw
    obtain ⟨⟨p0, p1, p2, p3, p4, p5, p6, p7⟩, _⟩ := hSw
    dsimp only at p0 p1 p2 p3 p4 p5 p6 p7
    go_simp
    first | done | (with_reducible rfl)
  simp only [Act.put, List.setIfInBounds_toArray, List.set_cons_zero, List.set_cons_succ]
  refine take_dst (i := 6) (v := ?_) 152 rfl rfl (by kernel_rfl) (by kernel_rfl) (by kernel_rfl) (fun _ _ _ h => h) (Or.inl ⟨by rfl, ?_⟩) HS0 ?_
  rotate_left
  · intro w hSw
    obtain ⟨⟨p0, p1, p2, p3, p4, p5, p6, p7⟩, _⟩ := hSw
    dsimp only at p0 p1 p2 p3 p4 p5 p6 p7
    go_simp
    first | done | (with_reducible rfl)
  simp only [Act.put, List.setIfInBounds_toArray, List.set_cons_zero, List.set_cons_succ]
  refine take_dst (i := 9) (v := ?_) 155 rfl rfl (by kernel_rfl) (by kernel_rfl) (by kernel_rfl) (fun _ _ _ h => h) (Or.inl ⟨by rfl, ?_⟩) HS0 ?_
  rotate_left
  · intro w hSw
    obtain ⟨⟨p0, p1, p2, p3, p4, p5, p6, p7⟩, _⟩ := hSw
    dsimp only at p0 p1 p2 p3 p4 p5 p6 p7
    go_simp
    first | done | (with_reducible rfl)
  simp only [Act.put, List.setIfInBounds_toArray, List.set_cons_zero, List.set_cons_succ]
  refine take_dst (i := 10) (v := ?_) 156 rfl rfl (by kernel_rfl) (by kernel_rfl) (by kernel_rfl) (fun _ _ _ h => h) (Or.inl ⟨by rfl, ?_⟩) HS0 ?_
  rotate_left
  · intro w hSw
    obtain ⟨⟨p0, p1, p2, p3, p4, p5, p6, p7⟩, _⟩ := hSw
    dsimp only at p0 p1 p2 p3 p4 p5 p6 p7
    go_simp
    first | done | (with_reducible rfl)
  simp only [Act.put, List.setIfInBounds_toArray, List.set_cons_zero, List.set_cons_succ]
  refine take_dst (i := 11) (v := ?_) 157 rfl rfl (by kernel_rfl) (by kernel_rfl) (by kernel_rfl) (fun _ _ _ h => h) (Or.inl ⟨by rfl, ?_⟩) HS0 ?_
  rotate_left
  · intro w hSw
    obtain ⟨⟨p0, p1, p2, p3, p4, p5, p6, p7⟩, _⟩ := hSw
    dsimp only at p0 p1 p2 p3 p4 p5 p6 p7
    go_simp
    first | done | (with_reducible rfl)
  simp only [Act.put, List.setIfInBounds_toArray, List.set_cons_zero, List.set_cons_succ]
  refine take_dst (i := 12) (v := ?_) 158 rfl rfl (by kernel_rfl) (by kernel_rfl) (by kernel_rfl) (fun _ _ _ h => h) (Or.inl ⟨by rfl, ?_⟩) HS0 ?_
  rotate_left
  · intro w hSw
    obtain ⟨⟨p0, p1, p2, p3, p4, p5, p6, p7⟩, _⟩ := hSw
    dsimp only at p0 p1 p2 p3 p4 p5 p6 p7
    go_simp
    first | done | (with_reducible rfl)
  simp only [Act.put, List.setIfInBounds_toArray, List.set_cons_zero, List.set_cons_succ]
  refine take_dst (i := 16) (v := ?_) 162 rfl rfl (by kernel_rfl) (by kernel_rfl) (by kernel_rfl) (fun _ _ _ h => h) (Or.inl ⟨by rfl, ?_⟩) HS0 ?_
  rotate_left
  · intro w hSw
    obtain ⟨⟨p0, p1, p2, p3, p4, p5, p6, p7⟩, _⟩ := hSw
    dsimp only at p0 p1 p2 p3 p4 p5 p6 p7
    go_simp
    first | done | (with_reducible rfl)
  simp only [Act.put, List.setIfInBounds_toArray, List.set_cons_zero, List.set_cons_succ]
  refine take_dst (i := 17) (v := ?_) 163 rfl rfl (by kernel_rfl) (by kernel_rfl) (by kernel_rfl) (fun _ _ _ h => h) (Or.inl ⟨by rfl, ?_⟩) HS0 ?_
  rotate_left
  · intro w hSw
    obtain ⟨⟨p0, p1, p2, p3, p4, p5, p6, p7⟩, _⟩ := hSw
    dsimp only at p0 p1 p2 p3 p4 p5 p6 p7
    go_simp
    first | done | (with_reducible rfl)
  simp only [Act.put, List.setIfInBounds_toArray, List.set_cons_zero, List.set_cons_succ]
  refine take_dst (i := 19) (v := ?_) 165 rfl rfl (by kernel_rfl) (by kernel_rfl) (by kernel_rfl) (fun _ _ _ h => h) (Or.inl ⟨by rfl, ?_⟩) HS0 ?_
  rotate_left
  · intro w hSw
    obtain ⟨⟨p0, p1, p2, p3, p4, p5, p6, p7⟩, _⟩ := hSw
    dsimp only at p0 p1 p2 p3 p4 p5 p6 p7
    go_simp
    first | done | (with_reducible rfl)
  simp only [Act.put, List.setIfInBounds_toArray, List.set_cons_zero, List.set_cons_succ]
  refine take_dst (i := 20) (v := ?_) 166 rfl rfl (by kernel_rfl) (by kernel_rfl) (by kernel_rfl) (fun _ _ _ h => h) (Or.inl ⟨by rfl, ?_⟩) HS0 ?_
  rotate_left
  · intro w hSw
    obtain ⟨⟨p0, p1, p2, p3, p4, p5, p6, p7⟩, _⟩ := hSw
    dsimp only at p0 p1 p2 p3 p4 p5 p6 p7
    go_simp
    first | done | (with_reducible rfl)
  simp only [Act.put, List.setIfInBounds_toArray, List.set_cons_zero, List.set_cons_succ]
  refine wpAnyH_ready (rs := [3, 13]) (by kernel_rfl) (by simp) ?_
  refine AllReadyH.cons rfl (fun K hK => ?_) (AllReadyH.cons rfl (fun K hK => ?_) AllReadyH.nil)
  · go_simp
    go_at_call 32
    refine (frd_keep (f := ⟨24, a, b, e, fin, data, more, list⟩) HB2.out (PP.out _ _ (by first | exact Or.inl ⟨rfl, rfl⟩ | exact Or.inr ⟨rfl, rfl⟩)) HS0).mono ?_
    rintro e0 v1 ⟨rfl, hSv1⟩
    go_wp2_with fail
    refine hK.out _ _ hSv1 (fun _ => ?_)
    clear hK K
    try simp only [Act.put, List.setIfInBounds_toArray, List.set_cons_zero, List.set_cons_succ]
    refine take_dst (i := 4) (v := ?_) 150 rfl rfl (by kernel_rfl) (by kernel_rfl) (by kernel_rfl) (fun _ _ _ h => h) (Or.inl ⟨by rfl, ?_⟩) hSv1 ?_
    rotate_left
    · intro w hSw
      obtain ⟨⟨p0, p1, p2, p3, p4, p5, p6, p7⟩, _⟩ := hSw
      dsimp only at p0 p1 p2 p3 p4 p5 p6 p7
      go_simp
      first | done | (with_reducible rfl)
    simp only [Act.put, List.setIfInBounds_toArray, List.set_cons_zero, List.set_cons_succ]
    refine wpAnyH_ready (rs := [7, 13]) (by kernel_rfl) (by simp) ?_
    refine AllReadyH.cons rfl (fun K hK => ?_) (AllReadyH.cons rfl (fun K hK => ?_) AllReadyH.nil)
    · go_simp
      go_at_call 32
      refine (frd_keep (f := ⟨24, a, b, e, fin, data, more, list⟩) HB2.out (PP.out _ _ (by first | exact Or.inl ⟨rfl, rfl⟩ | exact Or.inr ⟨rfl, rfl⟩)) hSv1).mono ?_
      rintro e0 v2 ⟨rfl, hSv2⟩
      go_wp2_with fail
      refine hK.out _ _ hSv2 (fun _ => ?_)
      clear hK K
      try simp only [Act.put, List.setIfInBounds_toArray, List.set_cons_zero, List.set_cons_succ]
      refine take_dst (i := 8) (v := ?_) 154 rfl rfl (by kernel_rfl) (by kernel_rfl) (by kernel_rfl) (fun _ _ _ h => h) (Or.inl ⟨by rfl, ?_⟩) hSv2 ?_
      rotate_left
      · intro w hSw
        obtain ⟨⟨p0, p1, p2, p3, p4, p5, p6, p7⟩, _⟩ := hSw
        dsimp only at p0 p1 p2 p3 p4 p5 p6 p7
        go_simp
        first | done | (with_reducible rfl)
      simp only [Act.put, List.setIfInBounds_toArray, List.set_cons_zero, List.set_cons_succ]
      refine wpAnyH_ready (rs := [13]) (by kernel_rfl) (by simp) ?_
      refine AllReadyH.cons rfl (fun K hK => ?_) AllReadyH.nil
      go_simp
      have hT3 := FrSk.new (u := 5) (sz := data.size) (f := ⟨24, a, b, e, fin, data, more, list⟩) HB2.out hSv2
      refine hK.out _ _ hT3.1 (fun _ => ?_)
      clear hK K
      try simp only [Act.put, List.setIfInBounds_toArray, List.set_cons_zero, List.set_cons_succ]
      refine wpAnyH_stronger (fun _ h => h.1) _ _ _ _ (?_ : wpAnyH _ _ _ _ (FrSk w2 g A n c ⟨24, a, b, e, fin, data, more, list⟩ v2.heap.size data.size) _ _ _ _)
      refine take_dst (i := 14) (v := ?_) 160 rfl rfl (by kernel_rfl) (by kernel_rfl) (by kernel_rfl) (fun _ _ _ h => h) (Or.inl ⟨by rfl, ?_⟩) hT3 ?_
      rotate_left
      · intro w hSw
        obtain ⟨⟨p0, p1, p2, p3, p4, p5, p6, p7⟩, _⟩ := hSw.1
        dsimp only at p0 p1 p2 p3 p4 p5 p6 p7
        have hz := hSw.2
        go_simp
        first | done | (with_reducible rfl)
      simp only [Act.put, List.setIfInBounds_toArray, List.set_cons_zero, List.set_cons_succ]
      refine take_dst (i := 15) (v := ?_) 161 rfl rfl (by kernel_rfl) (by kernel_rfl) (by kernel_rfl) (fun _ _ _ h => h) (Or.inl ⟨by rfl, ?_⟩) hT3 ?_
      rotate_left
      · intro w hSw
        obtain ⟨⟨p0, p1, p2, p3, p4, p5, p6, p7⟩, _⟩ := hSw.1
        dsimp only at p0 p1 p2 p3 p4 p5 p6 p7
        have hz := hSw.2
        go_simp
        first | done | (with_reducible rfl)
      simp only [Act.put, List.setIfInBounds_toArray, List.set_cons_zero, List.set_cons_succ]
      refine take_dst (i := 18) (v := ?_) 164 rfl rfl (by kernel_rfl) (by kernel_rfl) (by kernel_rfl) (fun _ _ _ h => h) (Or.inl ⟨by rfl, ?_⟩) hT3 ?_
      rotate_left
      · intro w hSw
        obtain ⟨⟨p0, p1, p2, p3, p4, p5, p6, p7⟩, _⟩ := hSw.1
        dsimp only at p0 p1 p2 p3 p4 p5 p6 p7
        have hz := hSw.2
        go_simp
        first | done | (with_reducible rfl)
      simp only [Act.put, List.setIfInBounds_toArray, List.set_cons_zero, List.set_cons_succ]
      refine take_dst (i := 21) (v := ?_) 167 rfl rfl (by kernel_rfl) (by kernel_rfl) (by kernel_rfl) (fun _ _ _ h => h) (Or.inl ⟨by rfl, ?_⟩) hT3 ?_
      rotate_left
      · intro w hSw
        obtain ⟨⟨p0, p1, p2, p3, p4, p5, p6, p7⟩, _⟩ := hSw.1
        dsimp only at p0 p1 p2 p3 p4 p5 p6 p7
        have hz := hSw.2
        go_simp
        first | done | (with_reducible rfl)
      simp only [Act.put, List.setIfInBounds_toArray, List.set_cons_zero, List.set_cons_succ]
      refine take_dst (i := 22) (v := ?_) 2 rfl rfl (by kernel_rfl) (by kernel_rfl) (by kernel_rfl) (fun _ _ _ h => h) (Or.inl ⟨by rfl, ?_⟩) hT3 ?_
      rotate_left
      · intro w hSw
        obtain ⟨⟨p0, p1, p2, p3, p4, p5, p6, p7⟩, _⟩ := hSw.1
        dsimp only at p0 p1 p2 p3 p4 p5 p6 p7
        have hz := hSw.2
        go_simp
        first | done | (with_reducible rfl)
      simp only [Act.put, List.setIfInBounds_toArray, List.set_cons_zero, List.set_cons_succ]
      refine take_dst (i := 23) (v := ?_) 3 rfl rfl (by kernel_rfl) (by kernel_rfl) (by kernel_rfl) (fun _ _ _ h => h) (Or.inl ⟨by rfl, ?_⟩) hT3 ?_
      rotate_left
      · intro w hSw
        obtain ⟨⟨p0, p1, p2, p3, p4, p5, p6, p7⟩, _⟩ := hSw.1
        dsimp only at p0 p1 p2 p3 p4 p5 p6 p7
        have hz := hSw.2
        go_simp
        first | done | (with_reducible rfl)
      simp only [Act.put, List.setIfInBounds_toArray, List.set_cons_zero, List.set_cons_succ]
      refine wpAnyH_done (by kernel_rfl) ?_ _
      go_wp2_with fail
      go_ret2
      exact RWr.yes HN.out HF.out (HM2.out.trans hT3.1.2 (by simp))
    · go_simp
      have hT4 := FrSk.new (u := 5) (sz := data.size) (f := ⟨24, a, b, e, fin, data, more, list⟩) HB2.out hSv1
      refine hK.out _ _ hT4.1 (fun _ => ?_)
      clear hK K
      try simp only [Act.put, List.setIfInBounds_toArray, List.set_cons_zero, List.set_cons_succ]
      refine wpAnyH_stronger (fun _ h => h.1) _ _ _ _ (?_ : wpAnyH _ _ _ _ (FrSk w2 g A n c ⟨24, a, b, e, fin, data, more, list⟩ v1.heap.size data.size) _ _ _ _)
      refine take_dst (i := 14) (v := ?_) 160 rfl rfl (by kernel_rfl) (by kernel_rfl) (by kernel_rfl) (fun _ _ _ h => h) (Or.inl ⟨by rfl, ?_⟩) hT4 ?_
      rotate_left
      · intro w hSw
        obtain ⟨⟨p0, p1, p2, p3, p4, p5, p6, p7⟩, _⟩ := hSw.1
        dsimp only at p0 p1 p2 p3 p4 p5 p6 p7
        have hz := hSw.2
        go_simp
        first | done | (with_reducible rfl)
      simp only [Act.put, List.setIfInBounds_toArray, List.set_cons_zero, List.set_cons_succ]
      refine wpAnyH_ready (rs := [7]) (by kernel_rfl) (by simp) ?_
      refine AllReadyH.cons rfl (fun K hK => ?_) AllReadyH.nil
      go_simp
      go_at_call 32
      refine (frk_keep (f := ⟨24, a, b, e, fin, data, more, list⟩) HB2.out (PP.out _ _ (by first | exact Or.inl ⟨rfl, rfl⟩ | exact Or.inr ⟨rfl, rfl⟩)) hT4).mono ?_
      rintro e0 v5 ⟨rfl, hSv5⟩
      go_wp2_with fail
      refine hK.out _ _ hSv5 (fun _ => ?_)
      clear hK K
      try simp only [Act.put, List.setIfInBounds_toArray, List.set_cons_zero, List.set_cons_succ]
      refine take_dst (i := 8) (v := ?_) 154 rfl rfl (by kernel_rfl) (by kernel_rfl) (by kernel_rfl) (fun _ _ _ h => h) (Or.inl ⟨by rfl, ?_⟩) hSv5 ?_
      rotate_left
      · intro w hSw
        obtain ⟨⟨p0, p1, p2, p3, p4, p5, p6, p7⟩, _⟩ := hSw.1
        dsimp only at p0 p1 p2 p3 p4 p5 p6 p7
        have hz := hSw.2
        go_simp
        first | done | (with_reducible rfl)
      simp only [Act.put, List.setIfInBounds_toArray, List.set_cons_zero, List.set_cons_succ]
      refine take_dst (i := 15) (v := ?_) 161 rfl rfl (by kernel_rfl) (by kernel_rfl) (by kernel_rfl) (fun _ _ _ h => h) (Or.inl ⟨by rfl, ?_⟩) hSv5 ?_
      rotate_left
      · intro w hSw
        obtain ⟨⟨p0, p1, p2, p3, p4, p5, p6, p7⟩, _⟩ := hSw.1
        dsimp only at p0 p1 p2 p3 p4 p5 p6 p7
        have hz := hSw.2
        go_simp
        first | done | (with_reducible rfl)
      simp only [Act.put, List.setIfInBounds_toArray, List.set_cons_zero, List.set_cons_succ]
      refine take_dst (i := 18) (v := ?_) 164 rfl rfl (by kernel_rfl) (by kernel_rfl) (by kernel_rfl) (fun _ _ _ h => h) (Or.inl ⟨by rfl, ?_⟩) hSv5 ?_
      rotate_left
      · intro w hSw
        obtain ⟨⟨p0, p1, p2, p3, p4, p5, p6, p7⟩, _⟩ := hSw.1
        dsimp only at p0 p1 p2 p3 p4 p5 p6 p7
        have hz := hSw.2
        go_simp
        first | done | (with_reducible rfl)
      simp only [Act.put, List.setIfInBounds_toArray, List.set_cons_zero, List.set_cons_succ]
      refine take_dst (i := 21) (v := ?_) 167 rfl rfl (by kernel_rfl) (by kernel_rfl) (by kernel_rfl) (fun _ _ _ h => h) (Or.inl ⟨by rfl, ?_⟩) hSv5 ?_
      rotate_left
      · intro w hSw
        obtain ⟨⟨p0, p1, p2, p3, p4, p5, p6, p7⟩, _⟩ := hSw.1
        dsimp only at p0 p1 p2 p3 p4 p5 p6 p7
        have hz := hSw.2
        go_simp
        first | done | (with_reducible rfl)
      simp only [Act.put, List.setIfInBounds_toArray, List.set_cons_zero, List.set_cons_succ]
      refine take_dst (i := 22) (v := ?_) 2 rfl rfl (by kernel_rfl) (by kernel_rfl) (by kernel_rfl) (fun _ _ _ h => h) (Or.inl ⟨by rfl, ?_⟩) hSv5 ?_
      rotate_left
      · intro w hSw
        obtain ⟨⟨p0, p1, p2, p3, p4, p5, p6, p7⟩, _⟩ := hSw.1
        dsimp only at p0 p1 p2 p3 p4 p5 p6 p7
        have hz := hSw.2
        go_simp
        first | done | (with_reducible rfl)
      simp only [Act.put, List.setIfInBounds_toArray, List.set_cons_zero, List.set_cons_succ]
      refine take_dst (i := 23) (v := ?_) 3 rfl rfl (by kernel_rfl) (by kernel_rfl) (by kernel_rfl) (fun _ _ _ h => h) (Or.inl ⟨by rfl, ?_⟩) hSv5 ?_
      rotate_left
      · intro w hSw
        obtain ⟨⟨p0, p1, p2, p3, p4, p5, p6, p7⟩, _⟩ := hSw.1
        dsimp only at p0 p1 p2 p3 p4 p5 p6 p7
        have hz := hSw.2
        go_simp
        first | done | (with_reducible rfl)
      simp only [Act.put, List.setIfInBounds_toArray, List.set_cons_zero, List.set_cons_succ]
      refine wpAnyH_done (by kernel_rfl) ?_ _
      go_wp2_with fail
      go_ret2
      exact RWr.yes HN.out HF.out (HM2.out.trans hSv5.1.2 (by simp))
  · go_simp
    have hT6 := FrSk.new (u := 5) (sz := data.size) (f := ⟨24, a, b, e, fin, data, more, list⟩) HB2.out HS0
    refine hK.out _ _ hT6.1 (fun _ => ?_)
    clear hK K
    try simp only [Act.put, List.setIfInBounds_toArray, List.set_cons_zero, List.set_cons_succ]
    refine wpAnyH_stronger (fun _ h => h.1) _ _ _ _ (?_ : wpAnyH _ _ _ _ (FrSk w2 g A n c ⟨24, a, b, e, fin, data, more, list⟩ w2.heap.size data.size) _ _ _ _)
    refine take_dst (i := 14) (v := ?_) 160 rfl rfl (by kernel_rfl) (by kernel_rfl) (by kernel_rfl) (fun _ _ _ h => h) (Or.inl ⟨by rfl, ?_⟩) hT6 ?_
    rotate_left
    · intro w hSw
      obtain ⟨⟨p0, p1, p2, p3, p4, p5, p6, p7⟩, _⟩ := hSw.1
      dsimp only at p0 p1 p2 p3 p4 p5 p6 p7
      have hz := hSw.2
      go_simp
      first | done | (with_reducible rfl)
    simp only [Act.put, List.setIfInBounds_toArray, List.set_cons_zero, List.set_cons_succ]
    refine wpAnyH_ready (rs := [3]) (by kernel_rfl) (by simp) ?_
    refine AllReadyH.cons rfl (fun K hK => ?_) AllReadyH.nil
    go_simp
    go_at_call 32
    refine (frk_keep (f := ⟨24, a, b, e, fin, data, more, list⟩) HB2.out (PP.out _ _ (by first | exact Or.inl ⟨rfl, rfl⟩ | exact Or.inr ⟨rfl, rfl⟩)) hT6).mono ?_
    rintro e0 v7 ⟨rfl, hSv7⟩
    go_wp2_with fail
    refine hK.out _ _ hSv7 (fun _ => ?_)
    clear hK K
    try simp only [Act.put, List.setIfInBounds_toArray, List.set_cons_zero, List.set_cons_succ]
    refine take_dst (i := 4) (v := ?_) 150 rfl rfl (by kernel_rfl) (by kernel_rfl) (by kernel_rfl) (fun _ _ _ h => h) (Or.inl ⟨by rfl, ?_⟩) hSv7 ?_
    rotate_left
    · intro w hSw
      obtain ⟨⟨p0, p1, p2, p3, p4, p5, p6, p7⟩, _⟩ := hSw.1
      dsimp only at p0 p1 p2 p3 p4 p5 p6 p7
      have hz := hSw.2
      go_simp
      first | done | (with_reducible rfl)
    simp only [Act.put, List.setIfInBounds_toArray, List.set_cons_zero, List.set_cons_succ]
    refine wpAnyH_ready (rs := [7]) (by kernel_rfl) (by simp) ?_
    refine AllReadyH.cons rfl (fun K hK => ?_) AllReadyH.nil
    go_simp
    go_at_call 32
    refine (frk_keep (f := ⟨24, a, b, e, fin, data, more, list⟩) HB2.out (PP.out _ _ (by first | exact Or.inl ⟨rfl, rfl⟩ | exact Or.inr ⟨rfl, rfl⟩)) hSv7).mono ?_
    rintro e0 v8 ⟨rfl, hSv8⟩
    go_wp2_with fail
    refine hK.out _ _ hSv8 (fun _ => ?_)
    clear hK K
    try simp only [Act.put, List.setIfInBounds_toArray, List.set_cons_zero, List.set_cons_succ]
    refine take_dst (i := 8) (v := ?_) 154 rfl rfl (by kernel_rfl) (by kernel_rfl) (by kernel_rfl) (fun _ _ _ h => h) (Or.inl ⟨by rfl, ?_⟩) hSv8 ?_
    rotate_left
    · intro w hSw
      obtain ⟨⟨p0, p1, p2, p3, p4, p5, p6, p7⟩, _⟩ := hSw.1
      dsimp only at p0 p1 p2 p3 p4 p5 p6 p7
      have hz := hSw.2
      go_simp
      first | done | (with_reducible rfl)
    simp only [Act.put, List.setIfInBounds_toArray, List.set_cons_zero, List.set_cons_succ]
    refine take_dst (i := 15) (v := ?_) 161 rfl rfl (by kernel_rfl) (by kernel_rfl) (by kernel_rfl) (fun _ _ _ h => h) (Or.inl ⟨by rfl, ?_⟩) hSv8 ?_
    rotate_left
    · intro w hSw
      obtain ⟨⟨p0, p1, p2, p3, p4, p5, p6, p7⟩, _⟩ := hSw.1
      dsimp only at p0 p1 p2 p3 p4 p5 p6 p7
      have hz := hSw.2
      go_simp
      first | done | (with_reducible rfl)
    simp only [Act.put, List.setIfInBounds_toArray, List.set_cons_zero, List.set_cons_succ]
    refine take_dst (i := 18) (v := ?_) 164 rfl rfl (by kernel_rfl) (by kernel_rfl) (by kernel_rfl) (fun _ _ _ h => h) (Or.inl ⟨by rfl, ?_⟩) hSv8 ?_
    rotate_left
    · intro w hSw
      obtain ⟨⟨p0, p1, p2, p3, p4, p5, p6, p7⟩, _⟩ := hSw.1
      dsimp only at p0 p1 p2 p3 p4 p5 p6 p7
      have hz := hSw.2
      go_simp
      first | done | (with_reducible rfl)
    simp only [Act.put, List.setIfInBounds_toArray, List.set_cons_zero, List.set_cons_succ]
    refine take_dst (i := 21) (v := ?_) 167 rfl rfl (by kernel_rfl) (by kernel_rfl) (by kernel_rfl) (fun _ _ _ h => h) (Or.inl ⟨by rfl, ?_⟩) hSv8 ?_
    rotate_left
    · intro w hSw
      obtain ⟨⟨p0, p1, p2, p3, p4, p5, p6, p7⟩, _⟩ := hSw.1
      dsimp only at p0 p1 p2 p3 p4 p5 p6 p7
      have hz := hSw.2
      go_simp
      first | done | (with_reducible rfl)
    simp only [Act.put, List.setIfInBounds_toArray, List.set_cons_zero, List.set_cons_succ]
    refine take_dst (i := 22) (v := ?_) 2 rfl rfl (by kernel_rfl) (by kernel_rfl) (by kernel_rfl) (fun _ _ _ h => h) (Or.inl ⟨by rfl, ?_⟩) hSv8 ?_
    rotate_left
    · intro w hSw
      obtain ⟨⟨p0, p1, p2, p3, p4, p5, p6, p7⟩, _⟩ := hSw.1
      dsimp only at p0 p1 p2 p3 p4 p5 p6 p7
      have hz := hSw.2
      go_simp
      first | done | (with_reducible rfl)
    simp only [Act.put, List.setIfInBounds_toArray, List.set_cons_zero, List.set_cons_succ]
    refine take_dst (i := 23) (v := ?_) 3 rfl rfl (by kernel_rfl) (by kernel_rfl) (by kernel_rfl) (fun _ _ _ h => h) (Or.inl ⟨by rfl, ?_⟩) hSv8 ?_
    rotate_left
    · intro w hSw
      obtain ⟨⟨p0, p1, p2, p3, p4, p5, p6, p7⟩, _⟩ := hSw.1
      dsimp only at p0 p1 p2 p3 p4 p5 p6 p7
      have hz := hSw.2
      go_simp
      first | done | (with_reducible rfl)
    simp only [Act.put, List.setIfInBounds_toArray, List.set_cons_zero, List.set_cons_succ]
    refine wpAnyH_done (by kernel_rfl) ?_ _
    go_wp2_with fail
    go_ret2
    exact RWr.yes HN.out HF.out (HM2.out.trans hSv8.1.2 (by simp))

/-- Write of the document's package -/
theorem rfwrite_any (w : World) (A : Option Addr) (n c : Nat) (f : Fr) (hr : Rngs w A n f.list) :
    Calls Tryd.prog 18 #[fval A n c f] w (RWr w f) := by
  obtain ⟨k, a, b, e, fin, data, more, list⟩ := f
  cases hm : fmay ⟨k, a, b, e, fin, data, more, list⟩ with
  | false => exact rwr_no w A n c k a b e fin data more list hr hm
  | true =>
    cases hs : fshape k with
    | some s =>
      obtain ⟨_, _, _, _, _, _, _, f8, f9, _⟩ := fshape_facts hs
      by_cases hx : s.x = 0
      · exact rwr_s w A n c k a b e fin data more list hr s hs hx hm
      · exact rwr_26 w A n c k a b e fin data more list hr (f9 (by omega)).2.2 hm
    | none =>
      have hown := (fmay_parts hm).2.2.2.2
      simp only [hs] at hown
      have hk : k = 0 ∨ k = 2 ∨ k = 3 ∨ k = 8 ∨ k = 24 := by
        refine Decidable.byContradiction fun h => ?_
        unfold fown at hown
        simp only at hown
        rw [if_neg (by omega), if_neg (by omega), if_neg (by omega), if_neg (by omega)] at hown
        cases hown
      rcases hk with rfl | rfl | rfl | rfl | rfl
      · exact rwr_0 w A n c a b e fin data more list hr hm
      · exact rwr_2 w A n c a b e fin data more list hr hm
      · exact rwr_3 w A n c a b e fin data more list hr hm
      · exact rwr_8 w A n c a b e fin data more list hr hm
      · exact rwr_24 w A n c a b e fin data more list hr hm
end Go.Proofs.YtbjmcnmcodbkdaaDoor

/-
  frames: the document's package: Asks, Join.
-/
namespace Go.Proofs.YtbjmcnmcodbkdaaDoor
open Go.RowKit Go.Sort
set_option linter.unusedVariables false

set_option maxRecDepth 100000 in
set_option maxHeartbeats 2000000 in
theorem rfasks_any (w : World) (A : Option Addr) (n c : Nat) (f : Fr) (hr : Rngs w A n f.list) (v : Bool) (hv : fasks f = v) :
    Calls Tryd.prog 23 #[fval A n c f] w (RPost w v) := by
  have HM := hide (fun w' (h : Rngs w' A n f.list) => rfmay_any w' A n c f h)
  have HR := hide (hr.new ((Mod.refl [] w).alloc (.cells (fcs A n c f) 26)))
  have HBx := hide (Blk.new w 26 (fcs A n c f))
  clear hr
  cases hm : fmay f with
  | false =>
    rw [hm] at HM
    have HV : Hid (v = false) := hide (by rw [← hv]; unfold fasks; rw [hm]; simp)
    clear hv hm
    unfold fval fcs at *
    go_enter Tryd.func23, Tryd.ntmps23
    go_wp2_with fail
    refine (HM.out _ HR.out).mono ?_
    rintro e0 w1 ⟨rfl, m1⟩
    have HM1 := hide (((Mod.refl [] w).alloc _).trans m1 (by simp))
    clear m1
    go_wp2_with fail
    go_ret
    exact RPost.of HV.out HM1.out
  | true =>
    rw [hm] at HM
    obtain ⟨k, a, b, e, fin, data, more, list⟩ := f
    unfold fval fcs at *
    simp only at *
    by_cases hk : k = 0 ∨ k = 2 ∨ k = 3 ∨ k = 28 ∨ k = 29
    · have HV : Hid (v = false) := hide (by rw [← hv]; unfold fasks; rw [if_pos hk])
      clear hv hm
      rcases hk with rfl | rfl | rfl | rfl | rfl
      all_goals
        go_enter Tryd.func23, Tryd.ntmps23
        go_wp2_with fail
        refine (HM.out _ HR.out).mono ?_
        rintro e0 w1 ⟨rfl, m1⟩
        have HM1 := hide (((Mod.refl [] w).alloc _).trans m1 (by simp))
        have HB1 := hide (m1.blk HBx.out (by simp))
        have p0 := HB1.out.cell 0
        have hl := HB1.out.lt
        clear m1
        go_wp2_with fail
        go_ret
        exact RPost.of HV.out HM1.out
    · have HV : Hid (v = true) := hide (by rw [← hv]; unfold fasks; rw [if_neg hk, hm])
      clear hv hm
      have m0 : ((k : Int) != 0) = true := by simp; omega
      have n0 : (k != 0) = true := by simp; omega
      have m2 : ((k : Int) != 2) = true := by simp; omega
      have n2 : (k != 2) = true := by simp; omega
      have m3 : ((k : Int) != 3) = true := by simp; omega
      have n3 : (k != 3) = true := by simp; omega
      have m28 : ((k : Int) != 28) = true := by simp; omega
      have n28 : (k != 28) = true := by simp; omega
      have m29 : ((k : Int) != 29) = true := by simp; omega
      have n29 : (k != 29) = true := by simp; omega
      clear hk
      go_enter Tryd.func23, Tryd.ntmps23
      go_wp2_with fail
      refine (HM.out _ HR.out).mono ?_
      rintro e0 w1 ⟨rfl, m1⟩
      have HM1 := hide (((Mod.refl [] w).alloc _).trans m1 (by simp))
      have HB1 := hide (m1.blk HBx.out (by simp))
      have p0 := HB1.out.cell 0
      have hl := HB1.out.lt
      clear m1
      go_wp2_with fail
      go_ret
      exact RPost.of HV.out HM1.out

set_option maxRecDepth 100000 in
set_option maxHeartbeats 8000000 in
theorem rfjoin_any (w : World) (A : Option Addr) (c : Nat) (l : List FV) (hl : Frs w A l) (hn : l.length ≤ 1000) :
    Calls Tryd.prog 26 #[.slice A l.length c] w (JPost w (l.map FV.f)) := by
  obtain ⟨n, hne⟩ : ∃ n, l.length = n := ⟨_, rfl⟩
  have HN := hide hne
  have HL := hide hl
  rw [hne] at hn ⊢
  clear hl hne
  by_cases h0 : n = 0
  · have hj : fjoin (l.map FV.f) = none := by
      have := HN.out
      rw [h0] at this
      rw [List.eq_nil_of_length_eq_zero this]; rfl
    have HJ := hide hj
    subst h0
    clear hj
    go_enter Tryd.func26, Tryd.ntmps26
    go_wp2_with fail
    go_loopw [5] (fun iv wr => iv = .int .i64 0 ∧ Mod [] w wr) (fun _ _ => 0)
    case atStart => exact ⟨rfl, Mod.refl _ _⟩
    case round =>
      obtain ⟨rfl, hm⟩ := hrel
      go_wp2_with fail
      go_ret2
      exact JPost.bad HJ.out hm
  · have hfj : fjoin (l.map FV.f) = fjoinF none (l.map FV.f) := by
      unfold fjoin
      rw [if_neg]
      intro h
      have := congrArg List.length h
      simp [HN.out] at this
      omega
    have HFJ := hide hfj
    have hn0 : ¬ (n : Int) = 0 := by omega
    have hn0b : ((n : Int) == 0) = false := by simp; omega
    clear hfj
    go_enter Tryd.func26, Tryd.ntmps26
    go_wp2_with fail
    go_loopw [4, 5] (fun ov iv wr => ∃ (j : Nat) (O : ByteArray), j ≤ n ∧ iv = .int .i64 (j : Int) ∧ ov = .string O ∧ Hid (fjoin (l.map FV.f) = (fjoinF (pvOf l j) ((l.map FV.f).drop j)).map (O.data.toList ++ ·)) ∧ O.size ≤ 20000 * j ∧ Hid (Mod [] w wr)) (fun _ iv _ => n - (intOf iv).toNat)
    case atStart => exact ⟨0, ⟨#[]⟩, by omega, rfl, rfl, hide (by rw [HFJ.out]; simp [pvOf]), Nat.le_refl _, hide (Mod.refl _ _)⟩
    case round =>
      obtain ⟨j, O, hj, rfl, rfl, hres, hOs, hm⟩ := hrel
      by_cases h : j < n
      · obtain ⟨v, hv⟩ : ∃ v, l[j]? = some v := ⟨_, List.getElem?_eq_getElem (by have := HN.out; omega)⟩
        obtain ⟨g, o, rfl, hg, hc, hr⟩ := (HL.out.new hm.out).at_ hv
        have hdr := drop_map hv
        have hpv : pvOf l (j + 1) = some v.f := by simp [pvOf, hv]
        obtain ⟨f, A1, c1⟩ := v
        simp only at hr hdr hpv
        have hst : fjoin (l.map FV.f) = if fnext (pvOf l j) f then (fjoinF (pvOf l (j + 1)) ((l.map FV.f).drop (j + 1))).map (O.data.toList ++ fbytes f ++ ·) else none := by
          rw [hres.out, hdr, hpv]
          exact fjoinF_step
        have y0 : wr.cell? ⟨g, o + j * 8, none⟩ = some (.int .u64 (f.kind : Nat)) := hc 0 _ rfl
        have y1 : wr.cell? ⟨g, o + j * 8 + 1, none⟩ = some (.int .u64 (f.a : Nat)) := hc 1 _ rfl
        have y2 : wr.cell? ⟨g, o + j * 8 + 2, none⟩ = some (.int .u64 (f.b : Nat)) := hc 2 _ rfl
        have y3 : wr.cell? ⟨g, o + j * 8 + 3, none⟩ = some (.int .u64 (f.c : Nat)) := hc 3 _ rfl
        have y4 : wr.cell? ⟨g, o + j * 8 + 4, none⟩ = some (.bool f.fin) := hc 4 _ rfl
        have y5 : wr.cell? ⟨g, o + j * 8 + 5, none⟩ = some (.string f.data) := hc 5 _ rfl
        have y6 : wr.cell? ⟨g, o + j * 8 + 6, none⟩ = some (.string f.more) := hc 6 _ rfl
        have y7 : wr.cell? ⟨g, o + j * 8 + 7, none⟩ = some (.slice A1 f.list.length c1) := hc 7 _ rfl
        have HSt := hide hst
        have HRg := hide hr
        have HW := hide (fun w' (h : Rngs w' A1 f.list.length f.list) => rfwrite_any w' A1 f.list.length c1 f h)
        have HRw := hide (HL.out.new hm.out)
        have hgl : g < wr.heap.size := hg
        unfold RWr fval fcs at HW
        cases hmay : fmay f with
        | false =>
          have HE : Hid (fjoin (l.map FV.f) = none) := hide (by rw [HSt.out]; unfold fnext; rw [hmay]; rfl)
          rw [show fwS f = [] by unfold fwS; rw [hmay]; rfl, show fwE f = 2 by unfold fwE; rw [hmay]; rfl] at HW
          clear hmay hc hres hdr hpv hst hr
          go_wp2_with fail
          refine (HW.out _ HRg.out).mono ?_
          rintro e0 w2 ⟨rfl, m2⟩
          have HM2 := hide (hm.out.trans m2 (by simp))
          clear m2 y0 y1 y2 y3 y4 y5 y6 y7
          go_wp2_with fail
          go_ret2
          exact JPost.bad HE.out HM2.out
        | true =>
          obtain ⟨S, hS, hSz, hSl⟩ := putB2 (fbytes f)
          have hSz2 : S.size ≤ 20000 := by
            have := fbytes_le hmay
            omega
          rw [show fwS f = fbytes f by unfold fwS; rw [hmay]; rfl, show fwE f = 0 by unfold fwE; rw [hmay]; rfl, hS] at HW
          have HMay := hide hmay
          have hq : O.size + S.size ≤ 9223372036854775807 := by omega
          have HS2 : Hid ((O ++ S).size ≤ 20000 * (j + 1)) := hide (by rw [ByteArray.size_append]; omega)
          have hnx : fnext (pvOf l j) f = true → fjoin (l.map FV.f) = (fjoinF (pvOf l (j + 1)) ((l.map FV.f).drop (j + 1))).map ((O ++ S).data.toList ++ ·) := fun hx => by
            rw [HSt.out, if_pos hx, ByteArray.data_append, Array.toList_append, hSl]
          have HNx := hide hnx
          clear hS hSz hSl hmay hres hdr hpv hst hr hc hnx
          by_cases hj0 : j = 0
          · have HF := hide (HNx.out (by rw [hj0]; unfold fnext pvOf; rw [HMay.out]; rfl))
            have hji : decide ((0 : Int) < j) = false := decide_eq_false (by omega)
            have hjn : decide (0 < j) = false := decide_eq_false (by omega)
            clear hj0
            go_wp2_with fail
            refine (HW.out _ HRg.out).mono ?_
            rintro e0 w2 ⟨rfl, m2⟩
            have HM2 := hide (hm.out.trans m2 (by simp))
            clear m2 y0 y1 y2 y3 y4 y5 y6 y7 hgl hg
            go_wp2_with fail
            go_roundw
            case rel => exact ⟨j + 1, O ++ S, by omega, by go_num, by trivial, HF, HS2.out, HM2⟩
            case measure => simp [intOf]; omega
          · obtain ⟨k, hk⟩ : ∃ k, j - 1 = k := ⟨_, rfl⟩
            have hki : (j : Int) - 1 = (k : Nat) := by omega
            have hkn : k < n := by omega
            have hkni : (k : Int) < n := by omega
            have hjp : decide ((0 : Int) < j) = true := decide_eq_true (by omega)
            have hjp2 : decide (0 < j) = true := decide_eq_true (by omega)
            obtain ⟨p, hp⟩ : ∃ v, l[k]? = some v := ⟨_, List.getElem?_eq_getElem (by have := HN.out; omega)⟩
            obtain ⟨g', o', hA, hg', hc', _⟩ := HRw.out.at_ hp
            cases hA
            have hpk : wr.cell? ⟨g, o + k * 8, none⟩ = some (.int .u64 (p.f.kind : Nat)) := hc' 0 _ rfl
            have hpvj : pvOf l j = some p.f := by
              rw [show j = k + 1 by omega]; simp [pvOf, hp]
            have HCell : Hid (∀ w2, Mod [] wr w2 → w2.cell? ⟨g, o + j * 8, none⟩ = some (.int .u64 (f.kind : Nat)) ∧ w2.cell? ⟨g, o + k * 8, none⟩ = some (.int .u64 (p.f.kind : Nat)) ∧ g < w2.heap.size) := hide (fun w2 m2 => ⟨(m2.cell (p := ⟨g, o + j * 8, none⟩) hg (by simp)).trans y0, (m2.cell (p := ⟨g, o + k * 8, none⟩) hg (by simp)).trans hpk, Nat.lt_of_lt_of_le hg m2.size⟩)
            have HPv := hide hpvj
            obtain ⟨pk, hpke⟩ : ∃ pk, p.f.kind = pk := ⟨_, rfl⟩
            rw [hpke] at HCell
            have HPk := hide hpke
            have hkw : IntKind.i64.wrap ((j : Int) - 1) = (k : Nat) := by rw [hki]; exact IntWalk.i64_in _ (by omega)
            clear hpk hpvj hc' hp hpke hj0 hk
            by_cases hfk : f.kind = 0
            · have f1 : ((f.kind : Int) == 0) = true := by simp; omega
              have f2 : (f.kind == 0) = true := by simp; omega
              by_cases hpk0 : pk = 0
              · have HE : Hid (fjoin (l.map FV.f) = none) := hide (by
                  rw [HSt.out, if_neg]
                  rw [HPv.out]
                  unfold fnext
                  simp [HPk.out, hpk0, hfk])
                have p1 : ((pk : Int) == 0) = true := by simp; omega
                have p2 : (pk == 0) = true := by simp; omega
                clear hfk hpk0
                go_wp2_with fail
                refine (HW.out _ HRg.out).mono ?_
                rintro e0 w2 ⟨rfl, m2⟩
                have HM2 := hide (hm.out.trans m2 (by simp))
                obtain ⟨z0, z1, zl⟩ := HCell.out w2 m2
                clear m2 y0 y1 y2 y3 y4 y5 y6 y7
                go_wp2_with fail
                go_ret2
                exact JPost.bad HE.out HM2.out
              · have HF := hide (HNx.out (by rw [HPv.out]; unfold fnext; simp [HPk.out, HMay.out, hpk0]))
                have p1 : ((pk : Int) == 0) = false := by simp; omega
                have p2 : (pk == 0) = false := by simp; omega
                clear hfk hpk0
                go_wp2_with fail
                refine (HW.out _ HRg.out).mono ?_
                rintro e0 w2 ⟨rfl, m2⟩
                have HM2 := hide (hm.out.trans m2 (by simp))
                obtain ⟨z0, z1, zl⟩ := HCell.out w2 m2
                clear m2 y0 y1 y2 y3 y4 y5 y6 y7
                go_wp2_with fail
                go_roundw
                case rel => exact ⟨j + 1, O ++ S, by omega, by go_num, by trivial, HF, HS2.out, HM2⟩
                case measure => simp [intOf]; omega
            · have f1 : ((f.kind : Int) == 0) = false := by simp; omega
              have f2 : (f.kind == 0) = false := by simp; omega
              have HF := hide (HNx.out (by rw [HPv.out]; unfold fnext; simp [HPk.out, HMay.out, hfk]))
              clear hfk
              go_wp2_with fail
              refine (HW.out _ HRg.out).mono ?_
              rintro e0 w2 ⟨rfl, m2⟩
              have HM2 := hide (hm.out.trans m2 (by simp))
              obtain ⟨z0, z1, zl⟩ := HCell.out w2 m2
              clear m2 y0 y1 y2 y3 y4 y5 y6 y7
              go_wp2_with fail
              go_roundw
              case rel => exact ⟨j + 1, O ++ S, by omega, by go_num, by trivial, HF, HS2.out, HM2⟩
              case measure => simp [intOf]; omega
      · obtain rfl : j = n := by omega
        have HE : Hid (fjoin (l.map FV.f) = some O.data.toList) := hide (by
          rw [hres.out, List.drop_of_length_le (by rw [List.length_map, HN.out]; exact Nat.le_refl _)]
          simp [fjoinF])
        clear hres
        go_wp2_with fail
        go_ret2
        have := JPost.good HE.out hm.out
        rw [eta_bytes] at this
        exact this
end Go.Proofs.YtbjmcnmcodbkdaaDoor

/-
  frames: the document's package: took, ended.
-/
namespace Go.Proofs.YtbjmcnmcodbkdaaDoor
open Go.RowKit Go.Sort
set_option linter.unusedVariables false

def u64v (n : Nat) : Value := .int .u64 (n : Nat)
/-- the slice at A, of the call's own, holds these numbers -/
def NOwn (w : World) (B : Nat) (A : Option Addr) (c : Nat) (l : List Nat) : Prop := w.ownsRow B 23 1 (.slice A l.length c) l.length (l.map u64v)
theorem NOwn.new {w w' : World} {B : Nat} {A : Option Addr} {c : Nat} {l : List Nat} (h : NOwn w B A c l) (m : Mod [] w w') : NOwn w' B A c l := m.own h (by simp)
theorem NOwn.base {w : World} {B B' : Nat} {A : Option Addr} {c : Nat} {l : List Nat} (h : NOwn w B A c l) (hB : B' ≤ B) : NOwn w B' A c l := by
  refine ⟨h.1, ?_⟩
  rcases h.2 with h2 | ⟨g, cap, cur, h3, h4, h5⟩
  · exact .inl h2
  · exact .inr ⟨g, cap, cur, h3, Nat.le_trans hB h4, h5⟩
theorem NOwn.made (w : World) (B : Nat) (hB : B ≤ w.heap.size) : NOwn (w.alloc (.cells #[] 23)) B (some ⟨w.heap.size, 0, none⟩) 0 [] :=
  ⟨rfl, .inr ⟨w.heap.size, 0, #[], rfl, hB, heap_alloc_new w _, Nat.le_refl _, by simp [maxLen], rfl, rfl⟩⟩
/-- a number of the row -/
theorem NOwn.at_ {w : World} {B : Nat} {A : Option Addr} {c : Nat} {l : List Nat} (h : NOwn w B A c l) {i x : Nat} (hx : l[i]? = some x) : ∃ g, A = some ⟨g, 0, none⟩ ∧ g < w.heap.size ∧ B ≤ g ∧ w.cell? ⟨g, i, none⟩ = some (.int .u64 (x : Nat)) := by
  rcases h.2 with ⟨h0, _⟩ | ⟨g, cap, cur, hv, hb, hh, _⟩
  · have := congrArg (fun v => match v with | Value.slice _ n _ => n | _ => 0) h0
    have hl : l = [] := List.eq_nil_of_length_eq_zero this
    rw [hl] at hx; cases hx
  · cases hv
    refine ⟨g, rfl, Blk.lt hh, hb, ?_⟩
    have hc := World.ownsRow.cells h (g := g) rfl i (u64v x) (by rw [List.getElem?_map, hx]; rfl)
    rw [Addr.add_lit, Nat.zero_add] at hc
    exact hc
theorem NOwn.app {w : World} {B : Nat} {A : Option Addr} {c : Nat} {l : List Nat} (h : NOwn w B A c l) (hB : B ≤ w.heap.size) (hn : l.length ≤ 1000000) (k : List Nat) (hk : k.length ≤ 1000) (g : Nat) (hg : Blk w g 23 (k.map u64v).toArray) :
    ∃ A' c' w', (Builtin.append_ #[68, 68] 68 #[.slice A l.length c, .slice (some ⟨g, 0, none⟩) k.length k.length]).run Tryd.prog w = .ok (.slice A' (l ++ k).length c') w' ∧ NOwn w' B A' c' (l ++ k) ∧ Mod (Value.slice A l.length c).ownBlock.toList w w' := by
  obtain ⟨i0, hi, hz0, hz1, hz2⟩ := info_split (P := Tryd.prog) (e := 23) (z := .int .u64 0) (size := 1) (bytes := 8) (by kernel_rfl)
  have hsrc : Src Tryd.prog 1 68 (.slice (some ⟨g, 0, none⟩) k.length k.length) k.length (k.map u64v) w := Src.ofSlice w Tryd.underlying68 _ k.length k.length _ (by simp) (fun j u hu => by
    rw [Addr.add_lit, Nat.zero_add, hg.cell j, List.getElem?_toArray, hu]) (fun u hu => by
    obtain ⟨x, _, rfl⟩ := List.mem_map.1 hu; rfl)
  obtain ⟨v', w', h1, h2, h3, h4⟩ := run_app (P := Tryd.prog) 68 B hi hz1 rfl _ _ _ h (AppSrc.of_src Tryd.underlying68 hi hz0 hz1 hsrc) (by simp only [maxLen]; omega) (by rw [hz2]; omega) hB
  obtain ⟨A', c', rfl⟩ := owned_slice h2
  refine ⟨A', c', w', by rw [List.length_append]; exact h1, ?_, Mod.of_grown h3⟩
  unfold NOwn
  rw [List.map_append, List.length_append]
  exact h2
def TkPost (w : World) (k : Nat) (s : List UInt8) (e : Ending) (w' : World) : Prop := Mod [] w w' ∧ match vnums k s with
  | some x => ∃ A c, e = .returned (.tuple #[.slice A x.1.length c, str x.2, .bool true]) ∧ NOwn w' w.heap.size A c x.1
  | none => e = .returned (.tuple #[.slice none 0 0, .string ⟨#[]⟩, .bool false])
theorem TkPost.bad {w w' : World} {k : Nat} {s : List UInt8} (h : vnums k s = none) (m : Mod [] w w') : TkPost w k s (.returned (.tuple #[.slice none 0 0, .string ⟨#[]⟩, .bool false])) w' := by
  refine ⟨m, ?_⟩
  rw [h]
theorem TkPost.good {w w' : World} {k n : Nat} {s : List UInt8} {ns : List Nat} {S : ByteArray} {A : Option Addr} {c : Nat} (h : vnums k s = some (ns, S.data.toList)) (hn : ns.length = n) (m : Mod [] w w') (ho : NOwn w' w.heap.size A c ns) : TkPost w k s (.returned (.tuple #[.slice A n c, .string S, .bool true])) w' := by
  refine ⟨m, ?_⟩
  rw [h]
  refine ⟨A, c, ?_, ho⟩
  simp only
  unfold str
  rw [eta_bytes, hn]

set_option maxRecDepth 100000 in
set_option maxHeartbeats 4000000 in
theorem took_any (w : World) (x : ByteArray) (k : Nat) (hk : k ≤ 1000) :
    Calls Tryd.prog 51 #[.string x, .int .i64 k] w (TkPost w k x.data.toList) := by
  go_enter Tryd.func51, Tryd.ntmps51
  go_wp2_with fail
  go_loopw [0, 7, 8] (fun sv ov iv wr => ∃ (S : ByteArray) (ns : List Nat) (A : Option Addr) (c j : Nat), j ≤ k ∧ iv = .int .i64 (j : Int) ∧ sv = .string S ∧ ov = .slice A j c ∧ ns.length = j ∧ Hid (vnums k x.data.toList = (vnums (k - j) S.data.toList).map fun y => (ns ++ y.1, y.2)) ∧ Hid (NOwn wr w.heap.size A c ns) ∧ Hid (Mod [] w wr)) (fun _ _ iv _ => k - (intOf iv).toNat)
  case atStart => exact ⟨x, [], _, 0, 0, by omega, rfl, rfl, rfl, rfl, hide (by simp), hide (NOwn.made w _ (Nat.le_refl _)), hide ((Mod.refl _ _).alloc _)⟩
  case round =>
    obtain ⟨S, ns, A, c, j, hj, rfl, rfl, rfl, hl, hres, ho, hm⟩ := hrel
    have HT := hide (rtake_any wr S)
    have HLn := hide hl
    clear hl
    by_cases h : j < k
    · obtain ⟨n, hn⟩ : ∃ n, (vtake S.data.toList).n = n := ⟨_, rfl⟩
      obtain ⟨r, hr⟩ : ∃ r, (vtake S.data.toList).rest = r := ⟨_, rfl⟩
      obtain ⟨er, her⟩ : ∃ r, (vtake S.data.toList).e = r := ⟨_, rfl⟩
      have hkj : k - j = (k - (j + 1)) + 1 := by omega
      rw [hn, hr, her] at HT
      by_cases h0 : er = 0
      · have hv : vnum S.data.toList = some (n, r) := by unfold vnum; rw [her, if_pos h0, hn, hr]
        have hst : vnums k x.data.toList = (vnums (k - (j + 1)) r).map fun y => ((ns ++ [n]) ++ y.1, y.2) := by
          rw [hres.out, hkj, vnums, hv]
          simp only [Option.bind_some, Option.map_map]
          congr 1
          funext y
          simp
        obtain ⟨T, hT, -, hTl⟩ := putB2 r
        rw [hT, h0] at HT
        rw [← hTl] at hst
        have HSt := hide hst
        have FIN : ∀ w2, Mod [] wr w2 → ∃ A' c' w6, (Builtin.append_ #[68, 68] 68 #[.slice A j c, .slice (some ⟨w2.heap.size, 0, none⟩) 1 1]).run Tryd.prog (w2.alloc (.cells #[.int .u64 (n : Nat)] 23)) = .ok (.slice A' (j + 1) c') w6 ∧ NOwn w6 w.heap.size A' c' (ns ++ [n]) ∧ Mod [] w w6 := by
          intro w2 m2
          have h2 := (ho.out.new m2).new ((Mod.refl [] w2).alloc (.cells #[.int .u64 (n : Nat)] 23))
          have hz := (hm.out.trans m2 (by simp)).alloc (.cells #[.int .u64 (n : Nat)] 23)
          obtain ⟨A', c', w6, h3, h4, h5⟩ := h2.app hz.size (by rw [HLn.out]; omega) [n] (by simp) w2.heap.size (Blk.new w2 _ _)
          refine ⟨A', c', w6, ?_, h4, hz.keep h5 h2 (Nat.le_refl _)⟩
          rw [List.length_append, HLn.out] at h3
          exact h3
        have HFin := hide FIN
        clear hst FIN hT hTl hn hr her h0 hv hkj ho hres
        go_wp2_with fail
        refine HT.out.mono ?_
        rintro e w2 ⟨rfl, m2⟩
        obtain ⟨A', c', w6, hrun, hown, hmm⟩ := HFin.out w2 m2
        have HRun := hide hrun
        have HOwn := hide hown
        have HMm := hide hmm
        clear m2 hrun hown hmm
        go_wp2_with (at_builtin; refine Lib.wpList_append_run _ rfl (.tmp 26) (.tmp 28) 68 68 rfl (.slice A j c) (.slice (some ⟨w2.heap.size, 0, none⟩) 1 1) rfl rfl _ w6 HRun.out ?_)
        go_roundw
        case rel => exact ⟨T, ns ++ [n], A', c', j + 1, by omega, by go_num, rfl, rfl, by simp [HLn.out], HSt, HOwn, HMm⟩
        case measure => simp [intOf]; omega
      · have hv : vnum S.data.toList = none := by unfold vnum; rw [her, if_neg h0]
        have HE : Hid (vnums k x.data.toList = none) := hide (by rw [hres.out, hkj, vnums, hv]; rfl)
        have b0 : (er == 0) = false := by simpa using h0
        have b1 : (er != 0) = true := by simpa using h0
        obtain ⟨T, hT, -, hTl⟩ := putB2 r
        rw [hT] at HT
        clear hv hn hr her h0 hkj hres ho hT hTl
        go_wp2_with fail
        refine HT.out.mono ?_
        rintro e w2 ⟨rfl, m2⟩
        have HM2 := hide (hm.out.trans m2 (by simp))
        clear m2
        go_wp2_with fail
        refine bodyPost_ret (results_tmp3 rfl _ _ _) rfl ?_
        exact TkPost.bad HE.out HM2.out
    · obtain rfl : j = k := by omega
      have HE : Hid (vnums j x.data.toList = some (ns, S.data.toList)) := hide (by
        rw [hres.out, Nat.sub_self]
        simp [vnums])
      clear hres h
      go_wp2_with fail
      refine bodyPost_ret (results_tmp3 rfl _ _ _) rfl ?_
      exact TkPost.good HE.out HLn.out hm.out ho.out
end Go.Proofs.YtbjmcnmcodbkdaaDoor
