/-
  Contracts of the document's package, part 2 of 8: FrRf3b, FrRf3c.
-/
import Derived.Test.YtbjmcnmcodbkdaaDoorH1
import Derived.Test.YtbjmcnmcodbkdaaDoorG3
import Derived.Deep.Cut
import Derived.Outline

/-
  frames: the document's package: May, kinds pad, ack, lim, one.
-/
namespace Go.Proofs.YtbjmcnmcodbkdaaDoor
open Go.RowKit
set_option linter.unusedSimpArgs false

set_option maxRecDepth 100000 in
set_option maxHeartbeats 8000000 in
theorem rmay_pad (w : World) (A : Option Addr) (n c : Nat) (k a b e : Nat) (fin : Bool) (data more : ByteArray) (list : List (Nat × Nat)) (hr : Rngs w A n list) (hk : k = 0) (ha : a < 4611686018427387904) (hb : b < 4611686018427387904) (he : e < 4611686018427387904) (hd : data.size ≤ 16384) :
    Calls Tryd.prog 21 #[fval A n c ⟨k, a, b, e, fin, data, more, list⟩] w (RPost w (fmay ⟨k, a, b, e, fin, data, more, list⟩)) := by
  have hn62 := hr.2.1
  have hln := hr.1
  have hl0 : list = [] ↔ n = 0 := by
    constructor
    · intro h; rw [h] at hln; simpa using hln.symm
    · intro h; exact List.eq_nil_of_length_eq_zero (by omega)
  have HK := hide hk
  have HL0 := hide hl0
  have HR := hide hr
  have HN := hide (fun w => rnumbers_any w k)
  have HD := hide (fun w => rdata_any w k)
  rw [show fnumI k = 1 by subst hk; rfl] at HN
  rw [show fdata k = false by subst hk; rfl] at HD
  have a1 : decide ((4611686018427387904 : Int) ≤ a) = false := decide_eq_false (by omega)
  have a2 : decide (4611686018427387904 ≤ a) = false := decide_eq_false (by omega)
  have b1 : decide ((4611686018427387904 : Int) ≤ b) = false := decide_eq_false (by omega)
  have b2 : decide (4611686018427387904 ≤ b) = false := decide_eq_false (by omega)
  have e1 : decide ((4611686018427387904 : Int) ≤ e) = false := decide_eq_false (by omega)
  have e2 : decide (4611686018427387904 ≤ e) = false := decide_eq_false (by omega)
  have d1 : decide ((16384 : Int) < data.size) = false := decide_eq_false (by omega)
  have d2 : decide (16384 < data.size) = false := decide_eq_false (by omega)
  have k0 : ((k : Int) == 0) = true := by simp; omega
  have k2 : ((k : Int) == 2) = false := by simp; omega
  have m2 : ((k : Int) != 2) = true := by simp; omega
  have k3 : ((k : Int) == 3) = false := by simp; omega
  have m3 : ((k : Int) != 3) = true := by simp; omega
  have k6 : ((k : Int) == 6) = false := by simp; omega
  have k7 : ((k : Int) == 7) = false := by simp; omega
  have k8 : ((k : Int) == 8) = false := by simp; omega
  have m8 : ((k : Int) != 8) = true := by simp; omega
  have k18 : ((k : Int) == 18) = false := by simp; omega
  have k19 : ((k : Int) == 19) = false := by simp; omega
  have k22 : ((k : Int) == 22) = false := by simp; omega
  have k23 : ((k : Int) == 23) = false := by simp; omega
  have k24 : ((k : Int) == 24) = false := by simp; omega
  have m24 : ((k : Int) != 24) = true := by simp; omega
  have k26 : ((k : Int) == 26) = false := by simp; omega
  have k27 : ((k : Int) == 27) = false := by simp; omega
  unfold fval fcs
  simp only
  clear hr hln hl0 hk
  by_cases h1 : b = 0
  rotate_left
  · have HV : Hid (fmay ⟨k, a, b, e, fin, data, more, list⟩ = false) := hide (by have hk := HK.out; subst hk <;> simp [fmay, fshape, fclear, flimits, fown, facks, h1])
    have z1 : ((b : Int) != 0) = true := by simp; omega
    have y1 : (b != 0) = true := by simp; omega
    clear h1
    go_enter Tryd.func21, Tryd.ntmps21
    go_wp2_with fail
    refine (HN.out _).mono ?_
    rintro e w1 ⟨rfl, rfl⟩
    simp only [List.append_eq, List.cons_append, List.nil_append] at *
    go_wp2_with fail
    go_ret
    exact RPost.of HV.out ((Mod.refl _ _).alloc _)
  have z1 : ((b : Int) != 0) = false := by simp; omega
  have y1 : (b != 0) = false := by simp; omega
  have H1 := hide h1
  clear h1
  by_cases h2 : e = 0
  rotate_left
  · have HV : Hid (fmay ⟨k, a, b, e, fin, data, more, list⟩ = false) := hide (by have hk := HK.out; subst hk <;> simp [fmay, fshape, fclear, flimits, fown, facks, h2])
    have z2 : ((e : Int) != 0) = true := by simp; omega
    have y2 : (e != 0) = true := by simp; omega
    clear h2
    go_enter Tryd.func21, Tryd.ntmps21
    go_wp2_with fail
    refine (HN.out _).mono ?_
    rintro e w1 ⟨rfl, rfl⟩
    simp only [List.append_eq, List.cons_append, List.nil_append] at *
    go_wp2_with fail
    go_ret
    exact RPost.of HV.out ((Mod.refl _ _).alloc _)
  have z2 : ((e : Int) != 0) = false := by simp; omega
  have y2 : (e != 0) = false := by simp; omega
  have H2 := hide h2
  clear h2
  by_cases h3 : data.size = 0
  rotate_left
  · have HV : Hid (fmay ⟨k, a, b, e, fin, data, more, list⟩ = false) := hide (by have hk := HK.out; subst hk <;> simp [fmay, fshape, fclear, flimits, fown, facks, h3])
    have z3 : decide ((0 : Int) < data.size) = true := decide_eq_true (by omega)
    have y3 : decide (0 < data.size) = true := decide_eq_true (by omega)
    clear h3
    go_enter Tryd.func21, Tryd.ntmps21
    go_wp2_with fail
    refine (HN.out _).mono ?_
    rintro e w1 ⟨rfl, rfl⟩
    simp only [List.append_eq, List.cons_append, List.nil_append] at *
    go_wp2_with fail
    refine (HD.out _).mono ?_
    rintro e w2 ⟨rfl, rfl⟩
    go_wp2_with fail
    go_ret
    exact RPost.of HV.out ((Mod.refl _ _).alloc _)
  have z3 : decide ((0 : Int) < data.size) = false := decide_eq_false (by omega)
  have y3 : decide (0 < data.size) = false := decide_eq_false (by omega)
  have H3 := hide h3
  clear h3
  by_cases h4 : fin = false
  rotate_left
  · have HV : Hid (fmay ⟨k, a, b, e, fin, data, more, list⟩ = false) := hide (by have hk := HK.out; subst hk <;> simp [fmay, fshape, fclear, flimits, fown, facks, h4])
    obtain rfl : fin = true := by simpa using h4
    clear h4
    go_enter Tryd.func21, Tryd.ntmps21
    go_wp2_with fail
    refine (HN.out _).mono ?_
    rintro e w1 ⟨rfl, rfl⟩
    simp only [List.append_eq, List.cons_append, List.nil_append] at *
    go_wp2_with fail
    refine (HD.out _).mono ?_
    rintro e w2 ⟨rfl, rfl⟩
    go_wp2_with fail
    go_ret
    exact RPost.of HV.out ((Mod.refl _ _).alloc _)
  subst h4
  by_cases h5 : more.size = 0
  rotate_left
  · have HV : Hid (fmay ⟨k, a, b, e, false, data, more, list⟩ = false) := hide (by have hk := HK.out; subst hk <;> simp [fmay, fshape, fclear, flimits, fown, facks, h5])
    have z5 : decide ((0 : Int) < more.size) = true := decide_eq_true (by omega)
    have y5 : decide (0 < more.size) = true := decide_eq_true (by omega)
    clear h5
    go_enter Tryd.func21, Tryd.ntmps21
    go_wp2_with fail
    refine (HN.out _).mono ?_
    rintro e w1 ⟨rfl, rfl⟩
    simp only [List.append_eq, List.cons_append, List.nil_append] at *
    go_wp2_with fail
    refine (HD.out _).mono ?_
    rintro e w2 ⟨rfl, rfl⟩
    go_wp2_with fail
    go_ret
    exact RPost.of HV.out ((Mod.refl _ _).alloc _)
  have z5 : decide ((0 : Int) < more.size) = false := decide_eq_false (by omega)
  have y5 : decide (0 < more.size) = false := decide_eq_false (by omega)
  have H5 := hide h5
  clear h5
  by_cases h6 : n = 0
  rotate_left
  · have HV : Hid (fmay ⟨k, a, b, e, false, data, more, list⟩ = false) := hide (by have hk := HK.out; subst hk <;> simp [fmay, fshape, fclear, flimits, fown, facks, HL0.out, h6])
    have z6 : decide ((0 : Int) < n) = true := decide_eq_true (by omega)
    have y6 : decide (0 < n) = true := decide_eq_true (by omega)
    clear h6
    go_enter Tryd.func21, Tryd.ntmps21
    go_wp2_with fail
    refine (HN.out _).mono ?_
    rintro e w1 ⟨rfl, rfl⟩
    simp only [List.append_eq, List.cons_append, List.nil_append] at *
    go_wp2_with fail
    refine (HD.out _).mono ?_
    rintro e w2 ⟨rfl, rfl⟩
    go_wp2_with fail
    go_ret
    exact RPost.of HV.out ((Mod.refl _ _).alloc _)
  have z6 : decide ((0 : Int) < n) = false := decide_eq_false (by omega)
  have y6 : decide (0 < n) = false := decide_eq_false (by omega)
  have H6 := hide h6
  clear h6
  have HV0 : Hid (fmay ⟨k, a, b, e, false, data, more, list⟩ = (decide (1 ≤ a) && decide (a ≤ 16384))) := hide (by have hk := HK.out; subst hk <;> simp [fmay, fshape, fclear, flimits, fown, facks, H1.out, H2.out, H3.out, H5.out, HL0.out, H6.out, show a < 4611686018427387904 from ha, show b < 4611686018427387904 from hb, show e < 4611686018427387904 from he, show data.size ≤ 16384 from hd])
  by_cases g1 : 1 ≤ a
  rotate_left
  · have HV : Hid (fmay ⟨k, a, b, e, false, data, more, list⟩ = false) := hide (by rw [HV0.out, decide_eq_false g1]; rfl)
    have x1 : decide ((1 : Int) ≤ a) = false := decide_eq_false (by omega)
    have x2 : decide (1 ≤ a) = false := decide_eq_false (by omega)
    have x3 : decide ((0 : Int) < a) = false := decide_eq_false (by omega)
    have x4 : decide (0 < a) = false := decide_eq_false (by omega)
    clear g1
    go_enter Tryd.func21, Tryd.ntmps21
    go_wp2_with fail
    refine (HN.out _).mono ?_
    rintro e w1 ⟨rfl, rfl⟩
    simp only [List.append_eq, List.cons_append, List.nil_append] at *
    go_wp2_with fail
    refine (HD.out _).mono ?_
    rintro e w2 ⟨rfl, rfl⟩
    go_wp2_with fail
    go_ret
    exact RPost.of HV.out ((Mod.refl _ _).alloc _)
  have HV : Hid (fmay ⟨k, a, b, e, false, data, more, list⟩ = decide (a ≤ 16384)) := hide (by rw [HV0.out, decide_eq_true g1]; rfl)
  obtain ⟨X, hX⟩ : ∃ X, decide (a ≤ 16384) = X := ⟨_, rfl⟩
  rw [hX] at HV
  have x0 : decide ((a : Int) ≤ 16384) = X := by rw [← hX]; exact decide_eq_decide.2 (by omega)
  have x1 : decide ((1 : Int) ≤ a) = true := decide_eq_true (by omega)
  have x2 : decide (1 ≤ a) = true := decide_eq_true (by omega)
  have x3 : decide ((0 : Int) < a) = true := decide_eq_true (by omega)
  have x4 : decide (0 < a) = true := decide_eq_true (by omega)
  clear g1 HV0
  go_enter Tryd.func21, Tryd.ntmps21
  go_wp2_with fail
  refine (HN.out _).mono ?_
  rintro e w1 ⟨rfl, rfl⟩
  simp only [List.append_eq, List.cons_append, List.nil_append] at *
  go_wp2_with fail
  refine (HD.out _).mono ?_
  rintro e w2 ⟨rfl, rfl⟩
  go_wp2_with fail
  go_ret
  exact RPost.of HV.out ((Mod.refl _ _).alloc _)

set_option maxRecDepth 100000 in
set_option maxHeartbeats 8000000 in
theorem rmay_ack (w : World) (A : Option Addr) (n c : Nat) (k a b e : Nat) (fin : Bool) (data more : ByteArray) (list : List (Nat × Nat)) (hr : Rngs w A n list) (hk : k = 2) (ha : a < 4611686018427387904) (hb : b < 4611686018427387904) (he : e < 4611686018427387904) (hd : data.size ≤ 16384) :
    Calls Tryd.prog 21 #[fval A n c ⟨k, a, b, e, fin, data, more, list⟩] w (RPost w (fmay ⟨k, a, b, e, fin, data, more, list⟩)) := by
  have hn62 := hr.2.1
  have hln := hr.1
  have hl0 : list = [] ↔ n = 0 := by
    constructor
    · intro h; rw [h] at hln; simpa using hln.symm
    · intro h; exact List.eq_nil_of_length_eq_zero (by omega)
  have HK := hide hk
  have HL0 := hide hl0
  have HR := hide hr
  have HN := hide (fun w => rnumbers_any w k)
  have HD := hide (fun w => rdata_any w k)
  rw [show fnumI k = 1 by subst hk; rfl] at HN
  rw [show fdata k = false by subst hk; rfl] at HD
  have a1 : decide ((4611686018427387904 : Int) ≤ a) = false := decide_eq_false (by omega)
  have a2 : decide (4611686018427387904 ≤ a) = false := decide_eq_false (by omega)
  have b1 : decide ((4611686018427387904 : Int) ≤ b) = false := decide_eq_false (by omega)
  have b2 : decide (4611686018427387904 ≤ b) = false := decide_eq_false (by omega)
  have e1 : decide ((4611686018427387904 : Int) ≤ e) = false := decide_eq_false (by omega)
  have e2 : decide (4611686018427387904 ≤ e) = false := decide_eq_false (by omega)
  have d1 : decide ((16384 : Int) < data.size) = false := decide_eq_false (by omega)
  have d2 : decide (16384 < data.size) = false := decide_eq_false (by omega)
  have k0 : ((k : Int) == 0) = false := by simp; omega
  have k2 : ((k : Int) == 2) = true := by simp; omega
  have m2 : ((k : Int) != 2) = false := by simp; omega
  have k3 : ((k : Int) == 3) = false := by simp; omega
  have m3 : ((k : Int) != 3) = true := by simp; omega
  have k6 : ((k : Int) == 6) = false := by simp; omega
  have k7 : ((k : Int) == 7) = false := by simp; omega
  have k8 : ((k : Int) == 8) = false := by simp; omega
  have m8 : ((k : Int) != 8) = true := by simp; omega
  have k18 : ((k : Int) == 18) = false := by simp; omega
  have k19 : ((k : Int) == 19) = false := by simp; omega
  have k22 : ((k : Int) == 22) = false := by simp; omega
  have k23 : ((k : Int) == 23) = false := by simp; omega
  have k24 : ((k : Int) == 24) = false := by simp; omega
  have m24 : ((k : Int) != 24) = true := by simp; omega
  have k26 : ((k : Int) == 26) = false := by simp; omega
  have k27 : ((k : Int) == 27) = false := by simp; omega
  unfold fval fcs
  simp only
  clear hr hln hl0 hk
  by_cases h1 : b = 0
  rotate_left
  · have HV : Hid (fmay ⟨k, a, b, e, fin, data, more, list⟩ = false) := hide (by have hk := HK.out; subst hk <;> simp [fmay, fshape, fclear, flimits, fown, facks, h1])
    have z1 : ((b : Int) != 0) = true := by simp; omega
    have y1 : (b != 0) = true := by simp; omega
    clear h1
    go_enter Tryd.func21, Tryd.ntmps21
    go_wp2_with fail
    refine (HN.out _).mono ?_
    rintro e w1 ⟨rfl, rfl⟩
    simp only [List.append_eq, List.cons_append, List.nil_append] at *
    go_wp2_with fail
    go_ret
    exact RPost.of HV.out ((Mod.refl _ _).alloc _)
  have z1 : ((b : Int) != 0) = false := by simp; omega
  have y1 : (b != 0) = false := by simp; omega
  have H1 := hide h1
  clear h1
  by_cases h2 : e = 0
  rotate_left
  · have HV : Hid (fmay ⟨k, a, b, e, fin, data, more, list⟩ = false) := hide (by have hk := HK.out; subst hk <;> simp [fmay, fshape, fclear, flimits, fown, facks, h2])
    have z2 : ((e : Int) != 0) = true := by simp; omega
    have y2 : (e != 0) = true := by simp; omega
    clear h2
    go_enter Tryd.func21, Tryd.ntmps21
    go_wp2_with fail
    refine (HN.out _).mono ?_
    rintro e w1 ⟨rfl, rfl⟩
    simp only [List.append_eq, List.cons_append, List.nil_append] at *
    go_wp2_with fail
    go_ret
    exact RPost.of HV.out ((Mod.refl _ _).alloc _)
  have z2 : ((e : Int) != 0) = false := by simp; omega
  have y2 : (e != 0) = false := by simp; omega
  have H2 := hide h2
  clear h2
  by_cases h3 : data.size = 0
  rotate_left
  · have HV : Hid (fmay ⟨k, a, b, e, fin, data, more, list⟩ = false) := hide (by have hk := HK.out; subst hk <;> simp [fmay, fshape, fclear, flimits, fown, facks, h3])
    have z3 : decide ((0 : Int) < data.size) = true := decide_eq_true (by omega)
    have y3 : decide (0 < data.size) = true := decide_eq_true (by omega)
    clear h3
    go_enter Tryd.func21, Tryd.ntmps21
    go_wp2_with fail
    refine (HN.out _).mono ?_
    rintro e w1 ⟨rfl, rfl⟩
    simp only [List.append_eq, List.cons_append, List.nil_append] at *
    go_wp2_with fail
    refine (HD.out _).mono ?_
    rintro e w2 ⟨rfl, rfl⟩
    go_wp2_with fail
    go_ret
    exact RPost.of HV.out ((Mod.refl _ _).alloc _)
  have z3 : decide ((0 : Int) < data.size) = false := decide_eq_false (by omega)
  have y3 : decide (0 < data.size) = false := decide_eq_false (by omega)
  have H3 := hide h3
  clear h3
  by_cases h4 : fin = false
  rotate_left
  · have HV : Hid (fmay ⟨k, a, b, e, fin, data, more, list⟩ = false) := hide (by have hk := HK.out; subst hk <;> simp [fmay, fshape, fclear, flimits, fown, facks, h4])
    obtain rfl : fin = true := by simpa using h4
    clear h4
    go_enter Tryd.func21, Tryd.ntmps21
    go_wp2_with fail
    refine (HN.out _).mono ?_
    rintro e w1 ⟨rfl, rfl⟩
    simp only [List.append_eq, List.cons_append, List.nil_append] at *
    go_wp2_with fail
    refine (HD.out _).mono ?_
    rintro e w2 ⟨rfl, rfl⟩
    go_wp2_with fail
    go_ret
    exact RPost.of HV.out ((Mod.refl _ _).alloc _)
  subst h4
  by_cases h5 : more.size = 0
  rotate_left
  · have HV : Hid (fmay ⟨k, a, b, e, false, data, more, list⟩ = false) := hide (by have hk := HK.out; subst hk <;> simp [fmay, fshape, fclear, flimits, fown, facks, h5])
    have z5 : decide ((0 : Int) < more.size) = true := decide_eq_true (by omega)
    have y5 : decide (0 < more.size) = true := decide_eq_true (by omega)
    clear h5
    go_enter Tryd.func21, Tryd.ntmps21
    go_wp2_with fail
    refine (HN.out _).mono ?_
    rintro e w1 ⟨rfl, rfl⟩
    simp only [List.append_eq, List.cons_append, List.nil_append] at *
    go_wp2_with fail
    refine (HD.out _).mono ?_
    rintro e w2 ⟨rfl, rfl⟩
    go_wp2_with fail
    go_ret
    exact RPost.of HV.out ((Mod.refl _ _).alloc _)
  have z5 : decide ((0 : Int) < more.size) = false := decide_eq_false (by omega)
  have y5 : decide (0 < more.size) = false := decide_eq_false (by omega)
  have H5 := hide h5
  clear h5
  have HV : Hid (fmay ⟨k, a, b, e, false, data, more, list⟩ = (rngs list)) := hide (by have hk := HK.out; subst hk <;> simp [fmay, fshape, fclear, flimits, fown, facks, H1.out, H2.out, H3.out, H5.out, show a < 4611686018427387904 from ha, show b < 4611686018427387904 from hb, show e < 4611686018427387904 from he, show data.size ≤ 16384 from hd])
  have HRg := hide (fun w' (h : Rngs w' A n list) => rfranges_any w' A n c list h _ rfl)
  go_enter Tryd.func21, Tryd.ntmps21
  go_wp2_with fail
  refine (HN.out _).mono ?_
  rintro e w1 ⟨rfl, rfl⟩
  simp only [List.append_eq, List.cons_append, List.nil_append] at *
  go_wp2_with fail
  refine (HD.out _).mono ?_
  rintro e w2 ⟨rfl, rfl⟩
  go_wp2_with fail
  refine (HRg.out _ (HR.out.new ((Mod.refl [] w).alloc _))).mono ?_
  rintro e w3 ⟨rfl, m3⟩
  go_wp2_with fail
  go_ret
  exact RPost.of HV.out (((Mod.refl _ _).alloc _).trans m3 (by simp))

set_option maxRecDepth 100000 in
set_option maxHeartbeats 8000000 in
theorem rmay_lim (w : World) (A : Option Addr) (n c : Nat) (k a b e : Nat) (fin : Bool) (data more : ByteArray) (list : List (Nat × Nat)) (hr : Rngs w A n list) (hk : k = 18 ∨ k = 19 ∨ k = 22 ∨ k = 23) (ha : a < 4611686018427387904) (hb : b < 4611686018427387904) (he : e < 4611686018427387904) (hd : data.size ≤ 16384) :
    Calls Tryd.prog 21 #[fval A n c ⟨k, a, b, e, fin, data, more, list⟩] w (RPost w (fmay ⟨k, a, b, e, fin, data, more, list⟩)) := by
  have hn62 := hr.2.1
  have hln := hr.1
  have hl0 : list = [] ↔ n = 0 := by
    constructor
    · intro h; rw [h] at hln; simpa using hln.symm
    · intro h; exact List.eq_nil_of_length_eq_zero (by omega)
  have HK := hide hk
  have HL0 := hide hl0
  have HR := hide hr
  have HN := hide (fun w => rnumbers_any w k)
  have HD := hide (fun w => rdata_any w k)
  rw [show fnumI k = 1 by rcases hk with rfl | rfl | rfl | rfl <;> rfl] at HN
  rw [show fdata k = false by rcases hk with rfl | rfl | rfl | rfl <;> rfl] at HD
  have a1 : decide ((4611686018427387904 : Int) ≤ a) = false := decide_eq_false (by omega)
  have a2 : decide (4611686018427387904 ≤ a) = false := decide_eq_false (by omega)
  have b1 : decide ((4611686018427387904 : Int) ≤ b) = false := decide_eq_false (by omega)
  have b2 : decide (4611686018427387904 ≤ b) = false := decide_eq_false (by omega)
  have e1 : decide ((4611686018427387904 : Int) ≤ e) = false := decide_eq_false (by omega)
  have e2 : decide (4611686018427387904 ≤ e) = false := decide_eq_false (by omega)
  have d1 : decide ((16384 : Int) < data.size) = false := decide_eq_false (by omega)
  have d2 : decide (16384 < data.size) = false := decide_eq_false (by omega)
  have k0 : ((k : Int) == 0) = false := by simp; omega
  have k2 : ((k : Int) == 2) = false := by simp; omega
  have m2 : ((k : Int) != 2) = true := by simp; omega
  have k3 : ((k : Int) == 3) = false := by simp; omega
  have m3 : ((k : Int) != 3) = true := by simp; omega
  have k6 : ((k : Int) == 6) = false := by simp; omega
  have k7 : ((k : Int) == 7) = false := by simp; omega
  have k8 : ((k : Int) == 8) = false := by simp; omega
  have m8 : ((k : Int) != 8) = true := by simp; omega
  have k24 : ((k : Int) == 24) = false := by simp; omega
  have m24 : ((k : Int) != 24) = true := by simp; omega
  have k26 : ((k : Int) == 26) = false := by simp; omega
  have k27 : ((k : Int) == 27) = false := by simp; omega
  unfold fval fcs
  simp only
  clear hr hln hl0 hk
  by_cases h1 : b = 0
  rotate_left
  · have HV : Hid (fmay ⟨k, a, b, e, fin, data, more, list⟩ = false) := hide (by have hk := HK.out; rcases hk with rfl | rfl | rfl | rfl <;> simp [fmay, fshape, fclear, flimits, fown, facks, h1])
    have z1 : ((b : Int) != 0) = true := by simp; omega
    have y1 : (b != 0) = true := by simp; omega
    clear h1
    go_enter Tryd.func21, Tryd.ntmps21
    go_wp2_with fail
    refine (HN.out _).mono ?_
    rintro e w1 ⟨rfl, rfl⟩
    simp only [List.append_eq, List.cons_append, List.nil_append] at *
    go_wp2_with fail
    go_ret
    exact RPost.of HV.out ((Mod.refl _ _).alloc _)
  have z1 : ((b : Int) != 0) = false := by simp; omega
  have y1 : (b != 0) = false := by simp; omega
  have H1 := hide h1
  clear h1
  by_cases h2 : e = 0
  rotate_left
  · have HV : Hid (fmay ⟨k, a, b, e, fin, data, more, list⟩ = false) := hide (by have hk := HK.out; rcases hk with rfl | rfl | rfl | rfl <;> simp [fmay, fshape, fclear, flimits, fown, facks, h2])
    have z2 : ((e : Int) != 0) = true := by simp; omega
    have y2 : (e != 0) = true := by simp; omega
    clear h2
    go_enter Tryd.func21, Tryd.ntmps21
    go_wp2_with fail
    refine (HN.out _).mono ?_
    rintro e w1 ⟨rfl, rfl⟩
    simp only [List.append_eq, List.cons_append, List.nil_append] at *
    go_wp2_with fail
    go_ret
    exact RPost.of HV.out ((Mod.refl _ _).alloc _)
  have z2 : ((e : Int) != 0) = false := by simp; omega
  have y2 : (e != 0) = false := by simp; omega
  have H2 := hide h2
  clear h2
  by_cases h3 : data.size = 0
  rotate_left
  · have HV : Hid (fmay ⟨k, a, b, e, fin, data, more, list⟩ = false) := hide (by have hk := HK.out; rcases hk with rfl | rfl | rfl | rfl <;> simp [fmay, fshape, fclear, flimits, fown, facks, h3])
    have z3 : decide ((0 : Int) < data.size) = true := decide_eq_true (by omega)
    have y3 : decide (0 < data.size) = true := decide_eq_true (by omega)
    clear h3
    go_enter Tryd.func21, Tryd.ntmps21
    go_wp2_with fail
    refine (HN.out _).mono ?_
    rintro e w1 ⟨rfl, rfl⟩
    simp only [List.append_eq, List.cons_append, List.nil_append] at *
    go_wp2_with fail
    refine (HD.out _).mono ?_
    rintro e w2 ⟨rfl, rfl⟩
    go_wp2_with fail
    go_ret
    exact RPost.of HV.out ((Mod.refl _ _).alloc _)
  have z3 : decide ((0 : Int) < data.size) = false := decide_eq_false (by omega)
  have y3 : decide (0 < data.size) = false := decide_eq_false (by omega)
  have H3 := hide h3
  clear h3
  by_cases h4 : fin = false
  rotate_left
  · have HV : Hid (fmay ⟨k, a, b, e, fin, data, more, list⟩ = false) := hide (by have hk := HK.out; rcases hk with rfl | rfl | rfl | rfl <;> simp [fmay, fshape, fclear, flimits, fown, facks, h4])
    obtain rfl : fin = true := by simpa using h4
    clear h4
    go_enter Tryd.func21, Tryd.ntmps21
    go_wp2_with fail
    refine (HN.out _).mono ?_
    rintro e w1 ⟨rfl, rfl⟩
    simp only [List.append_eq, List.cons_append, List.nil_append] at *
    go_wp2_with fail
    refine (HD.out _).mono ?_
    rintro e w2 ⟨rfl, rfl⟩
    go_wp2_with fail
    go_ret
    exact RPost.of HV.out ((Mod.refl _ _).alloc _)
  subst h4
  by_cases h5 : more.size = 0
  rotate_left
  · have HV : Hid (fmay ⟨k, a, b, e, false, data, more, list⟩ = false) := hide (by have hk := HK.out; rcases hk with rfl | rfl | rfl | rfl <;> simp [fmay, fshape, fclear, flimits, fown, facks, h5])
    have z5 : decide ((0 : Int) < more.size) = true := decide_eq_true (by omega)
    have y5 : decide (0 < more.size) = true := decide_eq_true (by omega)
    clear h5
    go_enter Tryd.func21, Tryd.ntmps21
    go_wp2_with fail
    refine (HN.out _).mono ?_
    rintro e w1 ⟨rfl, rfl⟩
    simp only [List.append_eq, List.cons_append, List.nil_append] at *
    go_wp2_with fail
    refine (HD.out _).mono ?_
    rintro e w2 ⟨rfl, rfl⟩
    go_wp2_with fail
    go_ret
    exact RPost.of HV.out ((Mod.refl _ _).alloc _)
  have z5 : decide ((0 : Int) < more.size) = false := decide_eq_false (by omega)
  have y5 : decide (0 < more.size) = false := decide_eq_false (by omega)
  have H5 := hide h5
  clear h5
  by_cases h6 : n = 0
  rotate_left
  · have HV : Hid (fmay ⟨k, a, b, e, false, data, more, list⟩ = false) := hide (by have hk := HK.out; rcases hk with rfl | rfl | rfl | rfl <;> simp [fmay, fshape, fclear, flimits, fown, facks, HL0.out, h6])
    have z6 : decide ((0 : Int) < n) = true := decide_eq_true (by omega)
    have y6 : decide (0 < n) = true := decide_eq_true (by omega)
    clear h6
    go_enter Tryd.func21, Tryd.ntmps21
    go_wp2_with fail
    refine (HN.out _).mono ?_
    rintro e w1 ⟨rfl, rfl⟩
    simp only [List.append_eq, List.cons_append, List.nil_append] at *
    go_wp2_with fail
    refine (HD.out _).mono ?_
    rintro e w2 ⟨rfl, rfl⟩
    go_wp2_with fail
    go_ret
    exact RPost.of HV.out ((Mod.refl _ _).alloc _)
  have z6 : decide ((0 : Int) < n) = false := decide_eq_false (by omega)
  have y6 : decide (0 < n) = false := decide_eq_false (by omega)
  have H6 := hide h6
  clear h6
  have HV : Hid (fmay ⟨k, a, b, e, false, data, more, list⟩ = (decide (a ≤ 1152921504606846976))) := hide (by have hk := HK.out; rcases hk with rfl | rfl | rfl | rfl <;> simp [fmay, fshape, fclear, flimits, fown, facks, H1.out, H2.out, H3.out, H5.out, HL0.out, H6.out, show a < 4611686018427387904 from ha, show b < 4611686018427387904 from hb, show e < 4611686018427387904 from he, show data.size ≤ 16384 from hd])
  obtain ⟨X, hX⟩ : ∃ X, decide (a ≤ 1152921504606846976) = X := ⟨_, rfl⟩
  rw [hX] at HV
  have x1 : decide ((a : Int) ≤ 1152921504606846976) = X := by rw [← hX]; exact decide_eq_decide.2 (by omega)
  have hk := HK.out
  rcases hk with hk | hk | hk | hk
  all_goals
    subst hk
    go_enter Tryd.func21, Tryd.ntmps21
    go_wp2_with fail
    refine (HN.out _).mono ?_
    rintro e w1 ⟨rfl, rfl⟩
    simp only [List.append_eq, List.cons_append, List.nil_append] at *
    go_wp2_with fail
    refine (HD.out _).mono ?_
    rintro e w2 ⟨rfl, rfl⟩
    go_wp2_with fail
    go_ret
    exact RPost.of HV.out ((Mod.refl _ _).alloc _)

set_option maxRecDepth 100000 in
set_option maxHeartbeats 8000000 in
theorem rmay_one (w : World) (A : Option Addr) (n c : Nat) (k a b e : Nat) (fin : Bool) (data more : ByteArray) (list : List (Nat × Nat)) (hr : Rngs w A n list) (hk : k = 16 ∨ k = 20 ∨ k = 25) (ha : a < 4611686018427387904) (hb : b < 4611686018427387904) (he : e < 4611686018427387904) (hd : data.size ≤ 16384) :
    Calls Tryd.prog 21 #[fval A n c ⟨k, a, b, e, fin, data, more, list⟩] w (RPost w (fmay ⟨k, a, b, e, fin, data, more, list⟩)) := by
  have hn62 := hr.2.1
  have hln := hr.1
  have hl0 : list = [] ↔ n = 0 := by
    constructor
    · intro h; rw [h] at hln; simpa using hln.symm
    · intro h; exact List.eq_nil_of_length_eq_zero (by omega)
  have HK := hide hk
  have HL0 := hide hl0
  have HR := hide hr
  have HN := hide (fun w => rnumbers_any w k)
  have HD := hide (fun w => rdata_any w k)
  rw [show fnumI k = 1 by rcases hk with rfl | rfl | rfl <;> rfl] at HN
  rw [show fdata k = false by rcases hk with rfl | rfl | rfl <;> rfl] at HD
  have a1 : decide ((4611686018427387904 : Int) ≤ a) = false := decide_eq_false (by omega)
  have a2 : decide (4611686018427387904 ≤ a) = false := decide_eq_false (by omega)
  have b1 : decide ((4611686018427387904 : Int) ≤ b) = false := decide_eq_false (by omega)
  have b2 : decide (4611686018427387904 ≤ b) = false := decide_eq_false (by omega)
  have e1 : decide ((4611686018427387904 : Int) ≤ e) = false := decide_eq_false (by omega)
  have e2 : decide (4611686018427387904 ≤ e) = false := decide_eq_false (by omega)
  have d1 : decide ((16384 : Int) < data.size) = false := decide_eq_false (by omega)
  have d2 : decide (16384 < data.size) = false := decide_eq_false (by omega)
  have k0 : ((k : Int) == 0) = false := by simp; omega
  have k2 : ((k : Int) == 2) = false := by simp; omega
  have m2 : ((k : Int) != 2) = true := by simp; omega
  have k3 : ((k : Int) == 3) = false := by simp; omega
  have m3 : ((k : Int) != 3) = true := by simp; omega
  have k6 : ((k : Int) == 6) = false := by simp; omega
  have k7 : ((k : Int) == 7) = false := by simp; omega
  have k8 : ((k : Int) == 8) = false := by simp; omega
  have m8 : ((k : Int) != 8) = true := by simp; omega
  have k18 : ((k : Int) == 18) = false := by simp; omega
  have k19 : ((k : Int) == 19) = false := by simp; omega
  have k22 : ((k : Int) == 22) = false := by simp; omega
  have k23 : ((k : Int) == 23) = false := by simp; omega
  have k24 : ((k : Int) == 24) = false := by simp; omega
  have m24 : ((k : Int) != 24) = true := by simp; omega
  have k26 : ((k : Int) == 26) = false := by simp; omega
  have k27 : ((k : Int) == 27) = false := by simp; omega
  unfold fval fcs
  simp only
  clear hr hln hl0 hk
  by_cases h1 : b = 0
  rotate_left
  · have HV : Hid (fmay ⟨k, a, b, e, fin, data, more, list⟩ = false) := hide (by have hk := HK.out; rcases hk with rfl | rfl | rfl <;> simp [fmay, fshape, fclear, flimits, fown, facks, h1])
    have z1 : ((b : Int) != 0) = true := by simp; omega
    have y1 : (b != 0) = true := by simp; omega
    clear h1
    go_enter Tryd.func21, Tryd.ntmps21
    go_wp2_with fail
    refine (HN.out _).mono ?_
    rintro e w1 ⟨rfl, rfl⟩
    simp only [List.append_eq, List.cons_append, List.nil_append] at *
    go_wp2_with fail
    go_ret
    exact RPost.of HV.out ((Mod.refl _ _).alloc _)
  have z1 : ((b : Int) != 0) = false := by simp; omega
  have y1 : (b != 0) = false := by simp; omega
  have H1 := hide h1
  clear h1
  by_cases h2 : e = 0
  rotate_left
  · have HV : Hid (fmay ⟨k, a, b, e, fin, data, more, list⟩ = false) := hide (by have hk := HK.out; rcases hk with rfl | rfl | rfl <;> simp [fmay, fshape, fclear, flimits, fown, facks, h2])
    have z2 : ((e : Int) != 0) = true := by simp; omega
    have y2 : (e != 0) = true := by simp; omega
    clear h2
    go_enter Tryd.func21, Tryd.ntmps21
    go_wp2_with fail
    refine (HN.out _).mono ?_
    rintro e w1 ⟨rfl, rfl⟩
    simp only [List.append_eq, List.cons_append, List.nil_append] at *
    go_wp2_with fail
    go_ret
    exact RPost.of HV.out ((Mod.refl _ _).alloc _)
  have z2 : ((e : Int) != 0) = false := by simp; omega
  have y2 : (e != 0) = false := by simp; omega
  have H2 := hide h2
  clear h2
  by_cases h3 : data.size = 0
  rotate_left
  · have HV : Hid (fmay ⟨k, a, b, e, fin, data, more, list⟩ = false) := hide (by have hk := HK.out; rcases hk with rfl | rfl | rfl <;> simp [fmay, fshape, fclear, flimits, fown, facks, h3])
    have z3 : decide ((0 : Int) < data.size) = true := decide_eq_true (by omega)
    have y3 : decide (0 < data.size) = true := decide_eq_true (by omega)
    clear h3
    go_enter Tryd.func21, Tryd.ntmps21
    go_wp2_with fail
    refine (HN.out _).mono ?_
    rintro e w1 ⟨rfl, rfl⟩
    simp only [List.append_eq, List.cons_append, List.nil_append] at *
    go_wp2_with fail
    refine (HD.out _).mono ?_
    rintro e w2 ⟨rfl, rfl⟩
    go_wp2_with fail
    go_ret
    exact RPost.of HV.out ((Mod.refl _ _).alloc _)
  have z3 : decide ((0 : Int) < data.size) = false := decide_eq_false (by omega)
  have y3 : decide (0 < data.size) = false := decide_eq_false (by omega)
  have H3 := hide h3
  clear h3
  by_cases h4 : fin = false
  rotate_left
  · have HV : Hid (fmay ⟨k, a, b, e, fin, data, more, list⟩ = false) := hide (by have hk := HK.out; rcases hk with rfl | rfl | rfl <;> simp [fmay, fshape, fclear, flimits, fown, facks, h4])
    obtain rfl : fin = true := by simpa using h4
    clear h4
    go_enter Tryd.func21, Tryd.ntmps21
    go_wp2_with fail
    refine (HN.out _).mono ?_
    rintro e w1 ⟨rfl, rfl⟩
    simp only [List.append_eq, List.cons_append, List.nil_append] at *
    go_wp2_with fail
    refine (HD.out _).mono ?_
    rintro e w2 ⟨rfl, rfl⟩
    go_wp2_with fail
    go_ret
    exact RPost.of HV.out ((Mod.refl _ _).alloc _)
  subst h4
  by_cases h5 : more.size = 0
  rotate_left
  · have HV : Hid (fmay ⟨k, a, b, e, false, data, more, list⟩ = false) := hide (by have hk := HK.out; rcases hk with rfl | rfl | rfl <;> simp [fmay, fshape, fclear, flimits, fown, facks, h5])
    have z5 : decide ((0 : Int) < more.size) = true := decide_eq_true (by omega)
    have y5 : decide (0 < more.size) = true := decide_eq_true (by omega)
    clear h5
    go_enter Tryd.func21, Tryd.ntmps21
    go_wp2_with fail
    refine (HN.out _).mono ?_
    rintro e w1 ⟨rfl, rfl⟩
    simp only [List.append_eq, List.cons_append, List.nil_append] at *
    go_wp2_with fail
    refine (HD.out _).mono ?_
    rintro e w2 ⟨rfl, rfl⟩
    go_wp2_with fail
    go_ret
    exact RPost.of HV.out ((Mod.refl _ _).alloc _)
  have z5 : decide ((0 : Int) < more.size) = false := decide_eq_false (by omega)
  have y5 : decide (0 < more.size) = false := decide_eq_false (by omega)
  have H5 := hide h5
  clear h5
  by_cases h6 : n = 0
  rotate_left
  · have HV : Hid (fmay ⟨k, a, b, e, false, data, more, list⟩ = false) := hide (by have hk := HK.out; rcases hk with rfl | rfl | rfl <;> simp [fmay, fshape, fclear, flimits, fown, facks, HL0.out, h6])
    have z6 : decide ((0 : Int) < n) = true := decide_eq_true (by omega)
    have y6 : decide (0 < n) = true := decide_eq_true (by omega)
    clear h6
    go_enter Tryd.func21, Tryd.ntmps21
    go_wp2_with fail
    refine (HN.out _).mono ?_
    rintro e w1 ⟨rfl, rfl⟩
    simp only [List.append_eq, List.cons_append, List.nil_append] at *
    go_wp2_with fail
    refine (HD.out _).mono ?_
    rintro e w2 ⟨rfl, rfl⟩
    go_wp2_with fail
    go_ret
    exact RPost.of HV.out ((Mod.refl _ _).alloc _)
  have z6 : decide ((0 : Int) < n) = false := decide_eq_false (by omega)
  have y6 : decide (0 < n) = false := decide_eq_false (by omega)
  have H6 := hide h6
  clear h6
  have HV : Hid (fmay ⟨k, a, b, e, false, data, more, list⟩ = (true)) := hide (by have hk := HK.out; rcases hk with rfl | rfl | rfl <;> simp [fmay, fshape, fclear, flimits, fown, facks, H1.out, H2.out, H3.out, H5.out, HL0.out, H6.out, show a < 4611686018427387904 from ha, show b < 4611686018427387904 from hb, show e < 4611686018427387904 from he, show data.size ≤ 16384 from hd])
  go_enter Tryd.func21, Tryd.ntmps21
  go_wp2_with fail
  refine (HN.out _).mono ?_
  rintro e w1 ⟨rfl, rfl⟩
  simp only [List.append_eq, List.cons_append, List.nil_append] at *
  go_wp2_with fail
  refine (HD.out _).mono ?_
  rintro e w2 ⟨rfl, rfl⟩
  go_wp2_with fail
  go_ret
  exact RPost.of HV.out ((Mod.refl _ _).alloc _)
end Go.Proofs.YtbjmcnmcodbkdaaDoor

/-
  frames: the document's package: May, kinds cry, app, two, strm.
-/
namespace Go.Proofs.YtbjmcnmcodbkdaaDoor
open Go.RowKit
set_option linter.unusedSimpArgs false

set_option maxRecDepth 100000 in
set_option maxHeartbeats 8000000 in
theorem rmay_cry (w : World) (A : Option Addr) (n c : Nat) (k a b e : Nat) (fin : Bool) (data more : ByteArray) (list : List (Nat × Nat)) (hr : Rngs w A n list) (hk : k = 6) (ha : a < 4611686018427387904) (hb : b < 4611686018427387904) (he : e < 4611686018427387904) (hd : data.size ≤ 16384) :
    Calls Tryd.prog 21 #[fval A n c ⟨k, a, b, e, fin, data, more, list⟩] w (RPost w (fmay ⟨k, a, b, e, fin, data, more, list⟩)) := by
  have hn62 := hr.2.1
  have hln := hr.1
  have hl0 : list = [] ↔ n = 0 := by
    constructor
    · intro h; rw [h] at hln; simpa using hln.symm
    · intro h; exact List.eq_nil_of_length_eq_zero (by omega)
  have HK := hide hk
  have HL0 := hide hl0
  have HR := hide hr
  have HN := hide (fun w => rnumbers_any w k)
  have HD := hide (fun w => rdata_any w k)
  rw [show fnumI k = 1 by subst hk; rfl] at HN
  rw [show fdata k = true by subst hk; rfl] at HD
  have a1 : decide ((4611686018427387904 : Int) ≤ a) = false := decide_eq_false (by omega)
  have a2 : decide (4611686018427387904 ≤ a) = false := decide_eq_false (by omega)
  have b1 : decide ((4611686018427387904 : Int) ≤ b) = false := decide_eq_false (by omega)
  have b2 : decide (4611686018427387904 ≤ b) = false := decide_eq_false (by omega)
  have e1 : decide ((4611686018427387904 : Int) ≤ e) = false := decide_eq_false (by omega)
  have e2 : decide (4611686018427387904 ≤ e) = false := decide_eq_false (by omega)
  have d1 : decide ((16384 : Int) < data.size) = false := decide_eq_false (by omega)
  have d2 : decide (16384 < data.size) = false := decide_eq_false (by omega)
  have k0 : ((k : Int) == 0) = false := by simp; omega
  have k2 : ((k : Int) == 2) = false := by simp; omega
  have m2 : ((k : Int) != 2) = true := by simp; omega
  have k3 : ((k : Int) == 3) = false := by simp; omega
  have m3 : ((k : Int) != 3) = true := by simp; omega
  have k6 : ((k : Int) == 6) = true := by simp; omega
  have k7 : ((k : Int) == 7) = false := by simp; omega
  have k8 : ((k : Int) == 8) = false := by simp; omega
  have m8 : ((k : Int) != 8) = true := by simp; omega
  have k18 : ((k : Int) == 18) = false := by simp; omega
  have k19 : ((k : Int) == 19) = false := by simp; omega
  have k22 : ((k : Int) == 22) = false := by simp; omega
  have k23 : ((k : Int) == 23) = false := by simp; omega
  have k24 : ((k : Int) == 24) = false := by simp; omega
  have m24 : ((k : Int) != 24) = true := by simp; omega
  have k26 : ((k : Int) == 26) = false := by simp; omega
  have k27 : ((k : Int) == 27) = false := by simp; omega
  unfold fval fcs
  simp only
  clear hr hln hl0 hk
  by_cases h1 : b = 0
  rotate_left
  · have HV : Hid (fmay ⟨k, a, b, e, fin, data, more, list⟩ = false) := hide (by have hk := HK.out; subst hk <;> simp [fmay, fshape, fclear, flimits, fown, facks, h1])
    have z1 : ((b : Int) != 0) = true := by simp; omega
    have y1 : (b != 0) = true := by simp; omega
    clear h1
    go_enter Tryd.func21, Tryd.ntmps21
    go_wp2_with fail
    refine (HN.out _).mono ?_
    rintro e w1 ⟨rfl, rfl⟩
    simp only [List.append_eq, List.cons_append, List.nil_append] at *
    go_wp2_with fail
    go_ret
    exact RPost.of HV.out ((Mod.refl _ _).alloc _)
  have z1 : ((b : Int) != 0) = false := by simp; omega
  have y1 : (b != 0) = false := by simp; omega
  have H1 := hide h1
  clear h1
  by_cases h2 : e = 0
  rotate_left
  · have HV : Hid (fmay ⟨k, a, b, e, fin, data, more, list⟩ = false) := hide (by have hk := HK.out; subst hk <;> simp [fmay, fshape, fclear, flimits, fown, facks, h2])
    have z2 : ((e : Int) != 0) = true := by simp; omega
    have y2 : (e != 0) = true := by simp; omega
    clear h2
    go_enter Tryd.func21, Tryd.ntmps21
    go_wp2_with fail
    refine (HN.out _).mono ?_
    rintro e w1 ⟨rfl, rfl⟩
    simp only [List.append_eq, List.cons_append, List.nil_append] at *
    go_wp2_with fail
    go_ret
    exact RPost.of HV.out ((Mod.refl _ _).alloc _)
  have z2 : ((e : Int) != 0) = false := by simp; omega
  have y2 : (e != 0) = false := by simp; omega
  have H2 := hide h2
  clear h2
  by_cases h4 : fin = false
  rotate_left
  · have HV : Hid (fmay ⟨k, a, b, e, fin, data, more, list⟩ = false) := hide (by have hk := HK.out; subst hk <;> simp [fmay, fshape, fclear, flimits, fown, facks, h4])
    obtain rfl : fin = true := by simpa using h4
    clear h4
    go_enter Tryd.func21, Tryd.ntmps21
    go_wp2_with fail
    refine (HN.out _).mono ?_
    rintro e w1 ⟨rfl, rfl⟩
    simp only [List.append_eq, List.cons_append, List.nil_append] at *
    go_wp2_with fail
    refine (HD.out _).mono ?_
    rintro e w2 ⟨rfl, rfl⟩
    go_wp2_with fail
    go_ret
    exact RPost.of HV.out ((Mod.refl _ _).alloc _)
  subst h4
  by_cases h5 : more.size = 0
  rotate_left
  · have HV : Hid (fmay ⟨k, a, b, e, false, data, more, list⟩ = false) := hide (by have hk := HK.out; subst hk <;> simp [fmay, fshape, fclear, flimits, fown, facks, h5])
    have z5 : decide ((0 : Int) < more.size) = true := decide_eq_true (by omega)
    have y5 : decide (0 < more.size) = true := decide_eq_true (by omega)
    clear h5
    go_enter Tryd.func21, Tryd.ntmps21
    go_wp2_with fail
    refine (HN.out _).mono ?_
    rintro e w1 ⟨rfl, rfl⟩
    simp only [List.append_eq, List.cons_append, List.nil_append] at *
    go_wp2_with fail
    refine (HD.out _).mono ?_
    rintro e w2 ⟨rfl, rfl⟩
    go_wp2_with fail
    go_ret
    exact RPost.of HV.out ((Mod.refl _ _).alloc _)
  have z5 : decide ((0 : Int) < more.size) = false := decide_eq_false (by omega)
  have y5 : decide (0 < more.size) = false := decide_eq_false (by omega)
  have H5 := hide h5
  clear h5
  by_cases h6 : n = 0
  rotate_left
  · have HV : Hid (fmay ⟨k, a, b, e, false, data, more, list⟩ = false) := hide (by have hk := HK.out; subst hk <;> simp [fmay, fshape, fclear, flimits, fown, facks, HL0.out, h6])
    have z6 : decide ((0 : Int) < n) = true := decide_eq_true (by omega)
    have y6 : decide (0 < n) = true := decide_eq_true (by omega)
    clear h6
    go_enter Tryd.func21, Tryd.ntmps21
    go_wp2_with fail
    refine (HN.out _).mono ?_
    rintro e w1 ⟨rfl, rfl⟩
    simp only [List.append_eq, List.cons_append, List.nil_append] at *
    go_wp2_with fail
    refine (HD.out _).mono ?_
    rintro e w2 ⟨rfl, rfl⟩
    go_wp2_with fail
    go_ret
    exact RPost.of HV.out ((Mod.refl _ _).alloc _)
  have z6 : decide ((0 : Int) < n) = false := decide_eq_false (by omega)
  have y6 : decide (0 < n) = false := decide_eq_false (by omega)
  have H6 := hide h6
  clear h6
  have HV : Hid (fmay ⟨k, a, b, e, false, data, more, list⟩ = (decide (a + data.size < 4611686018427387904))) := hide (by have hk := HK.out; subst hk <;> simp [fmay, fshape, fclear, flimits, fown, facks, H1.out, H2.out, H5.out, HL0.out, H6.out, show a < 4611686018427387904 from ha, show b < 4611686018427387904 from hb, show e < 4611686018427387904 from he, show data.size ≤ 16384 from hd])
  obtain ⟨X, hX⟩ : ∃ X, decide (a + data.size < 4611686018427387904) = X := ⟨_, rfl⟩
  rw [hX] at HV
  have x1 : decide ((a : Int) + data.size < 4611686018427387904) = X := by rw [← hX]; exact decide_eq_decide.2 (by omega)
  clear hX
  go_enter Tryd.func21, Tryd.ntmps21
  go_wp2_with fail
  refine (HN.out _).mono ?_
  rintro e w1 ⟨rfl, rfl⟩
  simp only [List.append_eq, List.cons_append, List.nil_append] at *
  go_wp2_with fail
  refine (HD.out _).mono ?_
  rintro e w2 ⟨rfl, rfl⟩
  go_wp2_with fail
  go_ret
  exact RPost.of HV.out ((Mod.refl _ _).alloc _)

set_option maxRecDepth 100000 in
set_option maxHeartbeats 8000000 in
theorem rmay_app (w : World) (A : Option Addr) (n c : Nat) (k a b e : Nat) (fin : Bool) (data more : ByteArray) (list : List (Nat × Nat)) (hr : Rngs w A n list) (hk : k = 29) (ha : a < 4611686018427387904) (hb : b < 4611686018427387904) (he : e < 4611686018427387904) (hd : data.size ≤ 16384) :
    Calls Tryd.prog 21 #[fval A n c ⟨k, a, b, e, fin, data, more, list⟩] w (RPost w (fmay ⟨k, a, b, e, fin, data, more, list⟩)) := by
  have hn62 := hr.2.1
  have hln := hr.1
  have hl0 : list = [] ↔ n = 0 := by
    constructor
    · intro h; rw [h] at hln; simpa using hln.symm
    · intro h; exact List.eq_nil_of_length_eq_zero (by omega)
  have HK := hide hk
  have HL0 := hide hl0
  have HR := hide hr
  have HN := hide (fun w => rnumbers_any w k)
  have HD := hide (fun w => rdata_any w k)
  rw [show fnumI k = 1 by subst hk; rfl] at HN
  rw [show fdata k = true by subst hk; rfl] at HD
  have a1 : decide ((4611686018427387904 : Int) ≤ a) = false := decide_eq_false (by omega)
  have a2 : decide (4611686018427387904 ≤ a) = false := decide_eq_false (by omega)
  have b1 : decide ((4611686018427387904 : Int) ≤ b) = false := decide_eq_false (by omega)
  have b2 : decide (4611686018427387904 ≤ b) = false := decide_eq_false (by omega)
  have e1 : decide ((4611686018427387904 : Int) ≤ e) = false := decide_eq_false (by omega)
  have e2 : decide (4611686018427387904 ≤ e) = false := decide_eq_false (by omega)
  have d1 : decide ((16384 : Int) < data.size) = false := decide_eq_false (by omega)
  have d2 : decide (16384 < data.size) = false := decide_eq_false (by omega)
  have k0 : ((k : Int) == 0) = false := by simp; omega
  have k2 : ((k : Int) == 2) = false := by simp; omega
  have m2 : ((k : Int) != 2) = true := by simp; omega
  have k3 : ((k : Int) == 3) = false := by simp; omega
  have m3 : ((k : Int) != 3) = true := by simp; omega
  have k6 : ((k : Int) == 6) = false := by simp; omega
  have k7 : ((k : Int) == 7) = false := by simp; omega
  have k8 : ((k : Int) == 8) = false := by simp; omega
  have m8 : ((k : Int) != 8) = true := by simp; omega
  have k18 : ((k : Int) == 18) = false := by simp; omega
  have k19 : ((k : Int) == 19) = false := by simp; omega
  have k22 : ((k : Int) == 22) = false := by simp; omega
  have k23 : ((k : Int) == 23) = false := by simp; omega
  have k24 : ((k : Int) == 24) = false := by simp; omega
  have m24 : ((k : Int) != 24) = true := by simp; omega
  have k26 : ((k : Int) == 26) = false := by simp; omega
  have k27 : ((k : Int) == 27) = false := by simp; omega
  unfold fval fcs
  simp only
  clear hr hln hl0 hk
  by_cases h1 : b = 0
  rotate_left
  · have HV : Hid (fmay ⟨k, a, b, e, fin, data, more, list⟩ = false) := hide (by have hk := HK.out; subst hk <;> simp [fmay, fshape, fclear, flimits, fown, facks, h1])
    have z1 : ((b : Int) != 0) = true := by simp; omega
    have y1 : (b != 0) = true := by simp; omega
    clear h1
    go_enter Tryd.func21, Tryd.ntmps21
    go_wp2_with fail
    refine (HN.out _).mono ?_
    rintro e w1 ⟨rfl, rfl⟩
    simp only [List.append_eq, List.cons_append, List.nil_append] at *
    go_wp2_with fail
    go_ret
    exact RPost.of HV.out ((Mod.refl _ _).alloc _)
  have z1 : ((b : Int) != 0) = false := by simp; omega
  have y1 : (b != 0) = false := by simp; omega
  have H1 := hide h1
  clear h1
  by_cases h2 : e = 0
  rotate_left
  · have HV : Hid (fmay ⟨k, a, b, e, fin, data, more, list⟩ = false) := hide (by have hk := HK.out; subst hk <;> simp [fmay, fshape, fclear, flimits, fown, facks, h2])
    have z2 : ((e : Int) != 0) = true := by simp; omega
    have y2 : (e != 0) = true := by simp; omega
    clear h2
    go_enter Tryd.func21, Tryd.ntmps21
    go_wp2_with fail
    refine (HN.out _).mono ?_
    rintro e w1 ⟨rfl, rfl⟩
    simp only [List.append_eq, List.cons_append, List.nil_append] at *
    go_wp2_with fail
    go_ret
    exact RPost.of HV.out ((Mod.refl _ _).alloc _)
  have z2 : ((e : Int) != 0) = false := by simp; omega
  have y2 : (e != 0) = false := by simp; omega
  have H2 := hide h2
  clear h2
  by_cases h4 : fin = false
  rotate_left
  · have HV : Hid (fmay ⟨k, a, b, e, fin, data, more, list⟩ = false) := hide (by have hk := HK.out; subst hk <;> simp [fmay, fshape, fclear, flimits, fown, facks, h4])
    obtain rfl : fin = true := by simpa using h4
    clear h4
    go_enter Tryd.func21, Tryd.ntmps21
    go_wp2_with fail
    refine (HN.out _).mono ?_
    rintro e w1 ⟨rfl, rfl⟩
    simp only [List.append_eq, List.cons_append, List.nil_append] at *
    go_wp2_with fail
    refine (HD.out _).mono ?_
    rintro e w2 ⟨rfl, rfl⟩
    go_wp2_with fail
    go_ret
    exact RPost.of HV.out ((Mod.refl _ _).alloc _)
  subst h4
  by_cases h5 : more.size = 0
  rotate_left
  · have HV : Hid (fmay ⟨k, a, b, e, false, data, more, list⟩ = false) := hide (by have hk := HK.out; subst hk <;> simp [fmay, fshape, fclear, flimits, fown, facks, h5])
    have z5 : decide ((0 : Int) < more.size) = true := decide_eq_true (by omega)
    have y5 : decide (0 < more.size) = true := decide_eq_true (by omega)
    clear h5
    go_enter Tryd.func21, Tryd.ntmps21
    go_wp2_with fail
    refine (HN.out _).mono ?_
    rintro e w1 ⟨rfl, rfl⟩
    simp only [List.append_eq, List.cons_append, List.nil_append] at *
    go_wp2_with fail
    refine (HD.out _).mono ?_
    rintro e w2 ⟨rfl, rfl⟩
    go_wp2_with fail
    go_ret
    exact RPost.of HV.out ((Mod.refl _ _).alloc _)
  have z5 : decide ((0 : Int) < more.size) = false := decide_eq_false (by omega)
  have y5 : decide (0 < more.size) = false := decide_eq_false (by omega)
  have H5 := hide h5
  clear h5
  by_cases h6 : n = 0
  rotate_left
  · have HV : Hid (fmay ⟨k, a, b, e, false, data, more, list⟩ = false) := hide (by have hk := HK.out; subst hk <;> simp [fmay, fshape, fclear, flimits, fown, facks, HL0.out, h6])
    have z6 : decide ((0 : Int) < n) = true := decide_eq_true (by omega)
    have y6 : decide (0 < n) = true := decide_eq_true (by omega)
    clear h6
    go_enter Tryd.func21, Tryd.ntmps21
    go_wp2_with fail
    refine (HN.out _).mono ?_
    rintro e w1 ⟨rfl, rfl⟩
    simp only [List.append_eq, List.cons_append, List.nil_append] at *
    go_wp2_with fail
    refine (HD.out _).mono ?_
    rintro e w2 ⟨rfl, rfl⟩
    go_wp2_with fail
    go_ret
    exact RPost.of HV.out ((Mod.refl _ _).alloc _)
  have z6 : decide ((0 : Int) < n) = false := decide_eq_false (by omega)
  have y6 : decide (0 < n) = false := decide_eq_false (by omega)
  have H6 := hide h6
  clear h6
  have HV : Hid (fmay ⟨k, a, b, e, false, data, more, list⟩ = (true)) := hide (by have hk := HK.out; subst hk <;> simp [fmay, fshape, fclear, flimits, fown, facks, H1.out, H2.out, H5.out, HL0.out, H6.out, show a < 4611686018427387904 from ha, show b < 4611686018427387904 from hb, show e < 4611686018427387904 from he, show data.size ≤ 16384 from hd])
  go_enter Tryd.func21, Tryd.ntmps21
  go_wp2_with fail
  refine (HN.out _).mono ?_
  rintro e w1 ⟨rfl, rfl⟩
  simp only [List.append_eq, List.cons_append, List.nil_append] at *
  go_wp2_with fail
  refine (HD.out _).mono ?_
  rintro e w2 ⟨rfl, rfl⟩
  go_wp2_with fail
  go_ret
  exact RPost.of HV.out ((Mod.refl _ _).alloc _)

set_option maxRecDepth 100000 in
set_option maxHeartbeats 8000000 in
theorem rmay_two (w : World) (A : Option Addr) (n c : Nat) (k a b e : Nat) (fin : Bool) (data more : ByteArray) (list : List (Nat × Nat)) (hr : Rngs w A n list) (hk : k = 5 ∨ k = 17 ∨ k = 21) (ha : a < 4611686018427387904) (hb : b < 4611686018427387904) (he : e < 4611686018427387904) (hd : data.size ≤ 16384) :
    Calls Tryd.prog 21 #[fval A n c ⟨k, a, b, e, fin, data, more, list⟩] w (RPost w (fmay ⟨k, a, b, e, fin, data, more, list⟩)) := by
  have hn62 := hr.2.1
  have hln := hr.1
  have hl0 : list = [] ↔ n = 0 := by
    constructor
    · intro h; rw [h] at hln; simpa using hln.symm
    · intro h; exact List.eq_nil_of_length_eq_zero (by omega)
  have HK := hide hk
  have HL0 := hide hl0
  have HR := hide hr
  have HN := hide (fun w => rnumbers_any w k)
  have HD := hide (fun w => rdata_any w k)
  rw [show fnumI k = 2 by rcases hk with rfl | rfl | rfl <;> rfl] at HN
  rw [show fdata k = false by rcases hk with rfl | rfl | rfl <;> rfl] at HD
  have a1 : decide ((4611686018427387904 : Int) ≤ a) = false := decide_eq_false (by omega)
  have a2 : decide (4611686018427387904 ≤ a) = false := decide_eq_false (by omega)
  have b1 : decide ((4611686018427387904 : Int) ≤ b) = false := decide_eq_false (by omega)
  have b2 : decide (4611686018427387904 ≤ b) = false := decide_eq_false (by omega)
  have e1 : decide ((4611686018427387904 : Int) ≤ e) = false := decide_eq_false (by omega)
  have e2 : decide (4611686018427387904 ≤ e) = false := decide_eq_false (by omega)
  have d1 : decide ((16384 : Int) < data.size) = false := decide_eq_false (by omega)
  have d2 : decide (16384 < data.size) = false := decide_eq_false (by omega)
  have k0 : ((k : Int) == 0) = false := by simp; omega
  have k2 : ((k : Int) == 2) = false := by simp; omega
  have m2 : ((k : Int) != 2) = true := by simp; omega
  have k3 : ((k : Int) == 3) = false := by simp; omega
  have m3 : ((k : Int) != 3) = true := by simp; omega
  have k6 : ((k : Int) == 6) = false := by simp; omega
  have k7 : ((k : Int) == 7) = false := by simp; omega
  have k8 : ((k : Int) == 8) = false := by simp; omega
  have m8 : ((k : Int) != 8) = true := by simp; omega
  have k18 : ((k : Int) == 18) = false := by simp; omega
  have k19 : ((k : Int) == 19) = false := by simp; omega
  have k22 : ((k : Int) == 22) = false := by simp; omega
  have k23 : ((k : Int) == 23) = false := by simp; omega
  have k24 : ((k : Int) == 24) = false := by simp; omega
  have m24 : ((k : Int) != 24) = true := by simp; omega
  have k26 : ((k : Int) == 26) = false := by simp; omega
  have k27 : ((k : Int) == 27) = false := by simp; omega
  unfold fval fcs
  simp only
  clear hr hln hl0 hk
  by_cases h2 : e = 0
  rotate_left
  · have HV : Hid (fmay ⟨k, a, b, e, fin, data, more, list⟩ = false) := hide (by have hk := HK.out; rcases hk with rfl | rfl | rfl <;> simp [fmay, fshape, fclear, flimits, fown, facks, h2])
    have z2 : ((e : Int) != 0) = true := by simp; omega
    have y2 : (e != 0) = true := by simp; omega
    clear h2
    go_enter Tryd.func21, Tryd.ntmps21
    go_wp2_with fail
    refine (HN.out _).mono ?_
    rintro e w1 ⟨rfl, rfl⟩
    simp only [List.append_eq, List.cons_append, List.nil_append] at *
    go_wp2_with fail
    go_ret
    exact RPost.of HV.out ((Mod.refl _ _).alloc _)
  have z2 : ((e : Int) != 0) = false := by simp; omega
  have y2 : (e != 0) = false := by simp; omega
  have H2 := hide h2
  clear h2
  by_cases h3 : data.size = 0
  rotate_left
  · have HV : Hid (fmay ⟨k, a, b, e, fin, data, more, list⟩ = false) := hide (by have hk := HK.out; rcases hk with rfl | rfl | rfl <;> simp [fmay, fshape, fclear, flimits, fown, facks, h3])
    have z3 : decide ((0 : Int) < data.size) = true := decide_eq_true (by omega)
    have y3 : decide (0 < data.size) = true := decide_eq_true (by omega)
    clear h3
    go_enter Tryd.func21, Tryd.ntmps21
    go_wp2_with fail
    refine (HN.out _).mono ?_
    rintro e w1 ⟨rfl, rfl⟩
    simp only [List.append_eq, List.cons_append, List.nil_append] at *
    go_wp2_with fail
    refine (HD.out _).mono ?_
    rintro e w2 ⟨rfl, rfl⟩
    go_wp2_with fail
    go_ret
    exact RPost.of HV.out ((Mod.refl _ _).alloc _)
  have z3 : decide ((0 : Int) < data.size) = false := decide_eq_false (by omega)
  have y3 : decide (0 < data.size) = false := decide_eq_false (by omega)
  have H3 := hide h3
  clear h3
  by_cases h4 : fin = false
  rotate_left
  · have HV : Hid (fmay ⟨k, a, b, e, fin, data, more, list⟩ = false) := hide (by have hk := HK.out; rcases hk with rfl | rfl | rfl <;> simp [fmay, fshape, fclear, flimits, fown, facks, h4])
    obtain rfl : fin = true := by simpa using h4
    clear h4
    go_enter Tryd.func21, Tryd.ntmps21
    go_wp2_with fail
    refine (HN.out _).mono ?_
    rintro e w1 ⟨rfl, rfl⟩
    simp only [List.append_eq, List.cons_append, List.nil_append] at *
    go_wp2_with fail
    refine (HD.out _).mono ?_
    rintro e w2 ⟨rfl, rfl⟩
    go_wp2_with fail
    go_ret
    exact RPost.of HV.out ((Mod.refl _ _).alloc _)
  subst h4
  by_cases h5 : more.size = 0
  rotate_left
  · have HV : Hid (fmay ⟨k, a, b, e, false, data, more, list⟩ = false) := hide (by have hk := HK.out; rcases hk with rfl | rfl | rfl <;> simp [fmay, fshape, fclear, flimits, fown, facks, h5])
    have z5 : decide ((0 : Int) < more.size) = true := decide_eq_true (by omega)
    have y5 : decide (0 < more.size) = true := decide_eq_true (by omega)
    clear h5
    go_enter Tryd.func21, Tryd.ntmps21
    go_wp2_with fail
    refine (HN.out _).mono ?_
    rintro e w1 ⟨rfl, rfl⟩
    simp only [List.append_eq, List.cons_append, List.nil_append] at *
    go_wp2_with fail
    refine (HD.out _).mono ?_
    rintro e w2 ⟨rfl, rfl⟩
    go_wp2_with fail
    go_ret
    exact RPost.of HV.out ((Mod.refl _ _).alloc _)
  have z5 : decide ((0 : Int) < more.size) = false := decide_eq_false (by omega)
  have y5 : decide (0 < more.size) = false := decide_eq_false (by omega)
  have H5 := hide h5
  clear h5
  by_cases h6 : n = 0
  rotate_left
  · have HV : Hid (fmay ⟨k, a, b, e, false, data, more, list⟩ = false) := hide (by have hk := HK.out; rcases hk with rfl | rfl | rfl <;> simp [fmay, fshape, fclear, flimits, fown, facks, HL0.out, h6])
    have z6 : decide ((0 : Int) < n) = true := decide_eq_true (by omega)
    have y6 : decide (0 < n) = true := decide_eq_true (by omega)
    clear h6
    go_enter Tryd.func21, Tryd.ntmps21
    go_wp2_with fail
    refine (HN.out _).mono ?_
    rintro e w1 ⟨rfl, rfl⟩
    simp only [List.append_eq, List.cons_append, List.nil_append] at *
    go_wp2_with fail
    refine (HD.out _).mono ?_
    rintro e w2 ⟨rfl, rfl⟩
    go_wp2_with fail
    go_ret
    exact RPost.of HV.out ((Mod.refl _ _).alloc _)
  have z6 : decide ((0 : Int) < n) = false := decide_eq_false (by omega)
  have y6 : decide (0 < n) = false := decide_eq_false (by omega)
  have H6 := hide h6
  clear h6
  have HV : Hid (fmay ⟨k, a, b, e, false, data, more, list⟩ = (true)) := hide (by have hk := HK.out; rcases hk with rfl | rfl | rfl <;> simp [fmay, fshape, fclear, flimits, fown, facks, H2.out, H3.out, H5.out, HL0.out, H6.out, show a < 4611686018427387904 from ha, show b < 4611686018427387904 from hb, show e < 4611686018427387904 from he, show data.size ≤ 16384 from hd])
  go_enter Tryd.func21, Tryd.ntmps21
  go_wp2_with fail
  refine (HN.out _).mono ?_
  rintro e w1 ⟨rfl, rfl⟩
  simp only [List.append_eq, List.cons_append, List.nil_append] at *
  go_wp2_with fail
  refine (HD.out _).mono ?_
  rintro e w2 ⟨rfl, rfl⟩
  go_wp2_with fail
  go_ret
  exact RPost.of HV.out ((Mod.refl _ _).alloc _)

set_option maxRecDepth 100000 in
set_option maxHeartbeats 8000000 in
theorem rmay_strm (w : World) (A : Option Addr) (n c : Nat) (k a b e : Nat) (fin : Bool) (data more : ByteArray) (list : List (Nat × Nat)) (hr : Rngs w A n list) (hk : k = 8) (ha : a < 4611686018427387904) (hb : b < 4611686018427387904) (he : e < 4611686018427387904) (hd : data.size ≤ 16384) :
    Calls Tryd.prog 21 #[fval A n c ⟨k, a, b, e, fin, data, more, list⟩] w (RPost w (fmay ⟨k, a, b, e, fin, data, more, list⟩)) := by
  have hn62 := hr.2.1
  have hln := hr.1
  have hl0 : list = [] ↔ n = 0 := by
    constructor
    · intro h; rw [h] at hln; simpa using hln.symm
    · intro h; exact List.eq_nil_of_length_eq_zero (by omega)
  have HK := hide hk
  have HL0 := hide hl0
  have HR := hide hr
  have HN := hide (fun w => rnumbers_any w k)
  have HD := hide (fun w => rdata_any w k)
  rw [show fnumI k = 2 by subst hk; rfl] at HN
  rw [show fdata k = true by subst hk; rfl] at HD
  have a1 : decide ((4611686018427387904 : Int) ≤ a) = false := decide_eq_false (by omega)
  have a2 : decide (4611686018427387904 ≤ a) = false := decide_eq_false (by omega)
  have b1 : decide ((4611686018427387904 : Int) ≤ b) = false := decide_eq_false (by omega)
  have b2 : decide (4611686018427387904 ≤ b) = false := decide_eq_false (by omega)
  have e1 : decide ((4611686018427387904 : Int) ≤ e) = false := decide_eq_false (by omega)
  have e2 : decide (4611686018427387904 ≤ e) = false := decide_eq_false (by omega)
  have d1 : decide ((16384 : Int) < data.size) = false := decide_eq_false (by omega)
  have d2 : decide (16384 < data.size) = false := decide_eq_false (by omega)
  have k0 : ((k : Int) == 0) = false := by simp; omega
  have k2 : ((k : Int) == 2) = false := by simp; omega
  have m2 : ((k : Int) != 2) = true := by simp; omega
  have k3 : ((k : Int) == 3) = false := by simp; omega
  have m3 : ((k : Int) != 3) = true := by simp; omega
  have k6 : ((k : Int) == 6) = false := by simp; omega
  have k7 : ((k : Int) == 7) = false := by simp; omega
  have k8 : ((k : Int) == 8) = true := by simp; omega
  have m8 : ((k : Int) != 8) = false := by simp; omega
  have k18 : ((k : Int) == 18) = false := by simp; omega
  have k19 : ((k : Int) == 19) = false := by simp; omega
  have k22 : ((k : Int) == 22) = false := by simp; omega
  have k23 : ((k : Int) == 23) = false := by simp; omega
  have k24 : ((k : Int) == 24) = false := by simp; omega
  have m24 : ((k : Int) != 24) = true := by simp; omega
  have k26 : ((k : Int) == 26) = false := by simp; omega
  have k27 : ((k : Int) == 27) = false := by simp; omega
  unfold fval fcs
  simp only
  clear hr hln hl0 hk
  by_cases h2 : e = 0
  rotate_left
  · have HV : Hid (fmay ⟨k, a, b, e, fin, data, more, list⟩ = false) := hide (by have hk := HK.out; subst hk <;> simp [fmay, fshape, fclear, flimits, fown, facks, h2])
    have z2 : ((e : Int) != 0) = true := by simp; omega
    have y2 : (e != 0) = true := by simp; omega
    clear h2
    go_enter Tryd.func21, Tryd.ntmps21
    go_wp2_with fail
    refine (HN.out _).mono ?_
    rintro e w1 ⟨rfl, rfl⟩
    simp only [List.append_eq, List.cons_append, List.nil_append] at *
    go_wp2_with fail
    go_ret
    exact RPost.of HV.out ((Mod.refl _ _).alloc _)
  have z2 : ((e : Int) != 0) = false := by simp; omega
  have y2 : (e != 0) = false := by simp; omega
  have H2 := hide h2
  clear h2
  by_cases h5 : more.size = 0
  rotate_left
  · have HV : Hid (fmay ⟨k, a, b, e, fin, data, more, list⟩ = false) := hide (by have hk := HK.out; subst hk <;> simp [fmay, fshape, fclear, flimits, fown, facks, h5])
    have z5 : decide ((0 : Int) < more.size) = true := decide_eq_true (by omega)
    have y5 : decide (0 < more.size) = true := decide_eq_true (by omega)
    clear h5
    go_enter Tryd.func21, Tryd.ntmps21
    go_wp2_with fail
    refine (HN.out _).mono ?_
    rintro e w1 ⟨rfl, rfl⟩
    simp only [List.append_eq, List.cons_append, List.nil_append] at *
    go_wp2_with fail
    refine (HD.out _).mono ?_
    rintro e w2 ⟨rfl, rfl⟩
    go_wp2_with fail
    go_ret
    exact RPost.of HV.out ((Mod.refl _ _).alloc _)
  have z5 : decide ((0 : Int) < more.size) = false := decide_eq_false (by omega)
  have y5 : decide (0 < more.size) = false := decide_eq_false (by omega)
  have H5 := hide h5
  clear h5
  by_cases h6 : n = 0
  rotate_left
  · have HV : Hid (fmay ⟨k, a, b, e, fin, data, more, list⟩ = false) := hide (by have hk := HK.out; subst hk <;> simp [fmay, fshape, fclear, flimits, fown, facks, HL0.out, h6])
    have z6 : decide ((0 : Int) < n) = true := decide_eq_true (by omega)
    have y6 : decide (0 < n) = true := decide_eq_true (by omega)
    clear h6
    go_enter Tryd.func21, Tryd.ntmps21
    go_wp2_with fail
    refine (HN.out _).mono ?_
    rintro e w1 ⟨rfl, rfl⟩
    simp only [List.append_eq, List.cons_append, List.nil_append] at *
    go_wp2_with fail
    refine (HD.out _).mono ?_
    rintro e w2 ⟨rfl, rfl⟩
    go_wp2_with fail
    go_ret
    exact RPost.of HV.out ((Mod.refl _ _).alloc _)
  have z6 : decide ((0 : Int) < n) = false := decide_eq_false (by omega)
  have y6 : decide (0 < n) = false := decide_eq_false (by omega)
  have H6 := hide h6
  clear h6
  have HV : Hid (fmay ⟨k, a, b, e, fin, data, more, list⟩ = (decide (b + data.size < 4611686018427387904))) := hide (by have hk := HK.out; subst hk <;> simp [fmay, fshape, fclear, flimits, fown, facks, H2.out, H5.out, HL0.out, H6.out, show a < 4611686018427387904 from ha, show b < 4611686018427387904 from hb, show e < 4611686018427387904 from he, show data.size ≤ 16384 from hd])
  obtain ⟨X, hX⟩ : ∃ X, decide (b + data.size < 4611686018427387904) = X := ⟨_, rfl⟩
  rw [hX] at HV
  have x1 : decide ((b : Int) + data.size < 4611686018427387904) = X := by rw [← hX]; exact decide_eq_decide.2 (by omega)
  clear hX
  go_enter Tryd.func21, Tryd.ntmps21
  go_wp2_with fail
  refine (HN.out _).mono ?_
  rintro e w1 ⟨rfl, rfl⟩
  simp only [List.append_eq, List.cons_append, List.nil_append] at *
  go_wp2_with fail
  refine (HD.out _).mono ?_
  rintro e w2 ⟨rfl, rfl⟩
  go_wp2_with fail
  go_ret
  exact RPost.of HV.out ((Mod.refl _ _).alloc _)
end Go.Proofs.YtbjmcnmcodbkdaaDoor
