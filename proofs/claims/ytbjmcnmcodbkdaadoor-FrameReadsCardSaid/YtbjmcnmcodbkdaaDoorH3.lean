/-
  Contracts of the document's package, part 3 of 8: FrRf3d, FrRf3, FrRf4.
-/
import Derived.Test.YtbjmcnmcodbkdaaDoorH1
import Derived.Test.YtbjmcnmcodbkdaaDoorG3
import Derived.Deep.Cut
import Derived.Outline
import Derived.Test.YtbjmcnmcodbkdaaDoorH2
import Derived.Test.YtbjmcnmcodbkdaaDoorG4
import Derived.Test.YtbjmcnmcodbkdaaDoorG8

/-
  frames: the document's package: May, kinds cid, clo, ecn, rst.
-/
namespace Go.Proofs.YtbjmcnmcodbkdaaDoor
open Go.RowKit
set_option linter.unusedSimpArgs false

set_option maxRecDepth 100000 in
set_option maxHeartbeats 8000000 in
theorem rmay_cid (w : World) (A : Option Addr) (n c : Nat) (k a b e : Nat) (fin : Bool) (data more : ByteArray) (list : List (Nat × Nat)) (hr : Rngs w A n list) (hk : k = 24) (ha : a < 4611686018427387904) (hb : b < 4611686018427387904) (he : e < 4611686018427387904) (hd : data.size ≤ 16384) :
    Calls Tryd.prog 21 #[fval A n c ⟨k, a, b, e, fin, data, more, list⟩] w (RPost w (fmay ⟨k, a, b, e, fin, data, more, list⟩)) := by
  have hn62 := hr.2.1
  have hln := hr.1
  have hl0 : list = [] ↔ n = 0 := by
    constructor
    · intro h; rw [h] at hln; simpa using hln.symm
    · intro h; exact List.eq_nil_of_length_eq_zero (by omega)
  have HK := hide hk
  have HL0 := hide hl0
  have HR := hide hr
  have HN := hide (fun w => rnumbers_any w k)
  have HD := hide (fun w => rdata_any w k)
  rw [show fnumI k = 2 by subst hk; rfl] at HN
  rw [show fdata k = true by subst hk; rfl] at HD
  have a1 : decide ((4611686018427387904 : Int) ≤ a) = false := decide_eq_false (by omega)
  have a2 : decide (4611686018427387904 ≤ a) = false := decide_eq_false (by omega)
  have b1 : decide ((4611686018427387904 : Int) ≤ b) = false := decide_eq_false (by omega)
  have b2 : decide (4611686018427387904 ≤ b) = false := decide_eq_false (by omega)
  have e1 : decide ((4611686018427387904 : Int) ≤ e) = false := decide_eq_false (by omega)
  have e2 : decide (4611686018427387904 ≤ e) = false := decide_eq_false (by omega)
  have d1 : decide ((16384 : Int) < data.size) = false := decide_eq_false (by omega)
  have d2 : decide (16384 < data.size) = false := decide_eq_false (by omega)
  have k0 : ((k : Int) == 0) = false := by simp; omega
  have k2 : ((k : Int) == 2) = false := by simp; omega
  have m2 : ((k : Int) != 2) = true := by simp; omega
  have k3 : ((k : Int) == 3) = false := by simp; omega
  have m3 : ((k : Int) != 3) = true := by simp; omega
  have k6 : ((k : Int) == 6) = false := by simp; omega
  have k7 : ((k : Int) == 7) = false := by simp; omega
  have k8 : ((k : Int) == 8) = false := by simp; omega
  have m8 : ((k : Int) != 8) = true := by simp; omega
  have k18 : ((k : Int) == 18) = false := by simp; omega
  have k19 : ((k : Int) == 19) = false := by simp; omega
  have k22 : ((k : Int) == 22) = false := by simp; omega
  have k23 : ((k : Int) == 23) = false := by simp; omega
  have k24 : ((k : Int) == 24) = true := by simp; omega
  have m24 : ((k : Int) != 24) = false := by simp; omega
  have k26 : ((k : Int) == 26) = false := by simp; omega
  have k27 : ((k : Int) == 27) = false := by simp; omega
  unfold fval fcs
  simp only
  clear hr hln hl0 hk
  by_cases h2 : e = 0
  rotate_left
  · have HV : Hid (fmay ⟨k, a, b, e, fin, data, more, list⟩ = false) := hide (by have hk := HK.out; subst hk <;> simp [fmay, fshape, fclear, flimits, fown, facks, h2])
    have z2 : ((e : Int) != 0) = true := by simp; omega
    have y2 : (e != 0) = true := by simp; omega
    clear h2
    go_enter Tryd.func21, Tryd.ntmps21
    go_wp2_with fail
    refine (HN.out _).mono ?_
    rintro e w1 ⟨rfl, rfl⟩
    simp only [List.append_eq, List.cons_append, List.nil_append] at *
    go_wp2_with fail
    go_ret
    exact RPost.of HV.out ((Mod.refl _ _).alloc _)
  have z2 : ((e : Int) != 0) = false := by simp; omega
  have y2 : (e != 0) = false := by simp; omega
  have H2 := hide h2
  clear h2
  by_cases h4 : fin = false
  rotate_left
  · have HV : Hid (fmay ⟨k, a, b, e, fin, data, more, list⟩ = false) := hide (by have hk := HK.out; subst hk <;> simp [fmay, fshape, fclear, flimits, fown, facks, h4])
    obtain rfl : fin = true := by simpa using h4
    clear h4
    go_enter Tryd.func21, Tryd.ntmps21
    go_wp2_with fail
    refine (HN.out _).mono ?_
    rintro e w1 ⟨rfl, rfl⟩
    simp only [List.append_eq, List.cons_append, List.nil_append] at *
    go_wp2_with fail
    refine (HD.out _).mono ?_
    rintro e w2 ⟨rfl, rfl⟩
    go_wp2_with fail
    go_ret
    exact RPost.of HV.out ((Mod.refl _ _).alloc _)
  subst h4
  by_cases h6 : n = 0
  rotate_left
  · have HV : Hid (fmay ⟨k, a, b, e, false, data, more, list⟩ = false) := hide (by have hk := HK.out; subst hk <;> simp [fmay, fshape, fclear, flimits, fown, facks, HL0.out, h6])
    have z6 : decide ((0 : Int) < n) = true := decide_eq_true (by omega)
    have y6 : decide (0 < n) = true := decide_eq_true (by omega)
    clear h6
    go_enter Tryd.func21, Tryd.ntmps21
    go_wp2_with fail
    refine (HN.out _).mono ?_
    rintro e w1 ⟨rfl, rfl⟩
    simp only [List.append_eq, List.cons_append, List.nil_append] at *
    go_wp2_with fail
    refine (HD.out _).mono ?_
    rintro e w2 ⟨rfl, rfl⟩
    go_wp2_with fail
    go_ret
    exact RPost.of HV.out ((Mod.refl _ _).alloc _)
  have z6 : decide ((0 : Int) < n) = false := decide_eq_false (by omega)
  have y6 : decide (0 < n) = false := decide_eq_false (by omega)
  have H6 := hide h6
  clear h6
  have HV0 : Hid (fmay ⟨k, a, b, e, false, data, more, list⟩ = (decide (b ≤ a) && (decide (1 ≤ data.size) && (decide (data.size ≤ 20) && decide (more.size = 16))))) := hide (by have hk := HK.out; subst hk <;> simp [fmay, fshape, fclear, flimits, fown, facks, H2.out, HL0.out, H6.out, show a < 4611686018427387904 from ha, show b < 4611686018427387904 from hb, show e < 4611686018427387904 from he, show data.size ≤ 16384 from hd, Bool.and_assoc])
  by_cases g0 : b ≤ a
  rotate_left
  · have HV : Hid (fmay ⟨k, a, b, e, false, data, more, list⟩ = false) := hide (by rw [HV0.out, decide_eq_false g0]; simp)
    have x0 : decide ((b : Int) ≤ a) = false := decide_eq_false (by omega)
    have w0 : decide (b ≤ a) = false := decide_eq_false (by omega)
    clear g0 HV0
    go_enter Tryd.func21, Tryd.ntmps21
    go_wp2_with fail
    refine (HN.out _).mono ?_
    rintro e w1 ⟨rfl, rfl⟩
    simp only [List.append_eq, List.cons_append, List.nil_append] at *
    go_wp2_with fail
    refine (HD.out _).mono ?_
    rintro e w2 ⟨rfl, rfl⟩
    go_wp2_with fail
    go_ret
    exact RPost.of HV.out ((Mod.refl _ _).alloc _)
  have x0 : decide ((b : Int) ≤ a) = true := decide_eq_true (by omega)
  have w0 : decide (b ≤ a) = true := decide_eq_true (by omega)
  by_cases g1 : 1 ≤ data.size
  rotate_left
  · have HV : Hid (fmay ⟨k, a, b, e, false, data, more, list⟩ = false) := hide (by rw [HV0.out, decide_eq_false g1]; simp)
    have x1 : decide ((1 : Int) ≤ data.size) = false := decide_eq_false (by omega)
    have w1 : decide (1 ≤ data.size) = false := decide_eq_false (by omega)
    have x9 : decide ((0 : Int) < data.size) = false := decide_eq_false (by omega)
    have w9 : decide (0 < data.size) = false := decide_eq_false (by omega)
    clear g1 HV0
    go_enter Tryd.func21, Tryd.ntmps21
    go_wp2_with fail
    refine (HN.out _).mono ?_
    rintro e w1 ⟨rfl, rfl⟩
    simp only [List.append_eq, List.cons_append, List.nil_append] at *
    go_wp2_with fail
    refine (HD.out _).mono ?_
    rintro e w2 ⟨rfl, rfl⟩
    go_wp2_with fail
    go_ret
    exact RPost.of HV.out ((Mod.refl _ _).alloc _)
  have x1 : decide ((1 : Int) ≤ data.size) = true := decide_eq_true (by omega)
  have w1 : decide (1 ≤ data.size) = true := decide_eq_true (by omega)
  have x9 : decide ((0 : Int) < data.size) = true := decide_eq_true (by omega)
  have w9 : decide (0 < data.size) = true := decide_eq_true (by omega)
  by_cases g2 : data.size ≤ 20
  rotate_left
  · have HV : Hid (fmay ⟨k, a, b, e, false, data, more, list⟩ = false) := hide (by rw [HV0.out, decide_eq_false g2]; simp)
    have x2 : decide ((data.size : Int) ≤ 20) = false := decide_eq_false (by omega)
    have w2 : decide (data.size ≤ 20) = false := decide_eq_false (by omega)
    clear g2 HV0
    go_enter Tryd.func21, Tryd.ntmps21
    go_wp2_with fail
    refine (HN.out _).mono ?_
    rintro e w1 ⟨rfl, rfl⟩
    simp only [List.append_eq, List.cons_append, List.nil_append] at *
    go_wp2_with fail
    refine (HD.out _).mono ?_
    rintro e w2 ⟨rfl, rfl⟩
    go_wp2_with fail
    go_ret
    exact RPost.of HV.out ((Mod.refl _ _).alloc _)
  have x2 : decide ((data.size : Int) ≤ 20) = true := decide_eq_true (by omega)
  have w2 : decide (data.size ≤ 20) = true := decide_eq_true (by omega)
  have HV : Hid (fmay ⟨k, a, b, e, false, data, more, list⟩ = decide (more.size = 16)) := hide (by rw [HV0.out, decide_eq_true g0, decide_eq_true g1, decide_eq_true g2]; rfl)
  obtain ⟨X, hX⟩ : ∃ X, decide (more.size = 16) = X := ⟨_, rfl⟩
  rw [hX] at HV
  have v1 : ((more.size : Int) == 16) = X := by rw [← hX, Bool.eq_iff_iff]; simp; omega
  have v2 : (more.size == 16) = X := by rw [← hX, Bool.eq_iff_iff]; simp
  clear g0 g1 g2 HV0 hX
  go_enter Tryd.func21, Tryd.ntmps21
  go_wp2_with fail
  refine (HN.out _).mono ?_
  rintro e w1 ⟨rfl, rfl⟩
  simp only [List.append_eq, List.cons_append, List.nil_append] at *
  go_wp2_with fail
  refine (HD.out _).mono ?_
  rintro e w2 ⟨rfl, rfl⟩
  go_wp2_with fail
  go_ret
  exact RPost.of HV.out ((Mod.refl _ _).alloc _)

set_option maxRecDepth 100000 in
set_option maxHeartbeats 8000000 in
theorem rmay_clo (w : World) (A : Option Addr) (n c : Nat) (k a b e : Nat) (fin : Bool) (data more : ByteArray) (list : List (Nat × Nat)) (hr : Rngs w A n list) (hk : k = 28) (ha : a < 4611686018427387904) (hb : b < 4611686018427387904) (he : e < 4611686018427387904) (hd : data.size ≤ 16384) :
    Calls Tryd.prog 21 #[fval A n c ⟨k, a, b, e, fin, data, more, list⟩] w (RPost w (fmay ⟨k, a, b, e, fin, data, more, list⟩)) := by
  have hn62 := hr.2.1
  have hln := hr.1
  have hl0 : list = [] ↔ n = 0 := by
    constructor
    · intro h; rw [h] at hln; simpa using hln.symm
    · intro h; exact List.eq_nil_of_length_eq_zero (by omega)
  have HK := hide hk
  have HL0 := hide hl0
  have HR := hide hr
  have HN := hide (fun w => rnumbers_any w k)
  have HD := hide (fun w => rdata_any w k)
  rw [show fnumI k = 2 by subst hk; rfl] at HN
  rw [show fdata k = true by subst hk; rfl] at HD
  have a1 : decide ((4611686018427387904 : Int) ≤ a) = false := decide_eq_false (by omega)
  have a2 : decide (4611686018427387904 ≤ a) = false := decide_eq_false (by omega)
  have b1 : decide ((4611686018427387904 : Int) ≤ b) = false := decide_eq_false (by omega)
  have b2 : decide (4611686018427387904 ≤ b) = false := decide_eq_false (by omega)
  have e1 : decide ((4611686018427387904 : Int) ≤ e) = false := decide_eq_false (by omega)
  have e2 : decide (4611686018427387904 ≤ e) = false := decide_eq_false (by omega)
  have d1 : decide ((16384 : Int) < data.size) = false := decide_eq_false (by omega)
  have d2 : decide (16384 < data.size) = false := decide_eq_false (by omega)
  have k0 : ((k : Int) == 0) = false := by simp; omega
  have k2 : ((k : Int) == 2) = false := by simp; omega
  have m2 : ((k : Int) != 2) = true := by simp; omega
  have k3 : ((k : Int) == 3) = false := by simp; omega
  have m3 : ((k : Int) != 3) = true := by simp; omega
  have k6 : ((k : Int) == 6) = false := by simp; omega
  have k7 : ((k : Int) == 7) = false := by simp; omega
  have k8 : ((k : Int) == 8) = false := by simp; omega
  have m8 : ((k : Int) != 8) = true := by simp; omega
  have k18 : ((k : Int) == 18) = false := by simp; omega
  have k19 : ((k : Int) == 19) = false := by simp; omega
  have k22 : ((k : Int) == 22) = false := by simp; omega
  have k23 : ((k : Int) == 23) = false := by simp; omega
  have k24 : ((k : Int) == 24) = false := by simp; omega
  have m24 : ((k : Int) != 24) = true := by simp; omega
  have k26 : ((k : Int) == 26) = false := by simp; omega
  have k27 : ((k : Int) == 27) = false := by simp; omega
  unfold fval fcs
  simp only
  clear hr hln hl0 hk
  by_cases h2 : e = 0
  rotate_left
  · have HV : Hid (fmay ⟨k, a, b, e, fin, data, more, list⟩ = false) := hide (by have hk := HK.out; subst hk <;> simp [fmay, fshape, fclear, flimits, fown, facks, h2])
    have z2 : ((e : Int) != 0) = true := by simp; omega
    have y2 : (e != 0) = true := by simp; omega
    clear h2
    go_enter Tryd.func21, Tryd.ntmps21
    go_wp2_with fail
    refine (HN.out _).mono ?_
    rintro e w1 ⟨rfl, rfl⟩
    simp only [List.append_eq, List.cons_append, List.nil_append] at *
    go_wp2_with fail
    go_ret
    exact RPost.of HV.out ((Mod.refl _ _).alloc _)
  have z2 : ((e : Int) != 0) = false := by simp; omega
  have y2 : (e != 0) = false := by simp; omega
  have H2 := hide h2
  clear h2
  by_cases h4 : fin = false
  rotate_left
  · have HV : Hid (fmay ⟨k, a, b, e, fin, data, more, list⟩ = false) := hide (by have hk := HK.out; subst hk <;> simp [fmay, fshape, fclear, flimits, fown, facks, h4])
    obtain rfl : fin = true := by simpa using h4
    clear h4
    go_enter Tryd.func21, Tryd.ntmps21
    go_wp2_with fail
    refine (HN.out _).mono ?_
    rintro e w1 ⟨rfl, rfl⟩
    simp only [List.append_eq, List.cons_append, List.nil_append] at *
    go_wp2_with fail
    refine (HD.out _).mono ?_
    rintro e w2 ⟨rfl, rfl⟩
    go_wp2_with fail
    go_ret
    exact RPost.of HV.out ((Mod.refl _ _).alloc _)
  subst h4
  by_cases h5 : more.size = 0
  rotate_left
  · have HV : Hid (fmay ⟨k, a, b, e, false, data, more, list⟩ = false) := hide (by have hk := HK.out; subst hk <;> simp [fmay, fshape, fclear, flimits, fown, facks, h5])
    have z5 : decide ((0 : Int) < more.size) = true := decide_eq_true (by omega)
    have y5 : decide (0 < more.size) = true := decide_eq_true (by omega)
    clear h5
    go_enter Tryd.func21, Tryd.ntmps21
    go_wp2_with fail
    refine (HN.out _).mono ?_
    rintro e w1 ⟨rfl, rfl⟩
    simp only [List.append_eq, List.cons_append, List.nil_append] at *
    go_wp2_with fail
    refine (HD.out _).mono ?_
    rintro e w2 ⟨rfl, rfl⟩
    go_wp2_with fail
    go_ret
    exact RPost.of HV.out ((Mod.refl _ _).alloc _)
  have z5 : decide ((0 : Int) < more.size) = false := decide_eq_false (by omega)
  have y5 : decide (0 < more.size) = false := decide_eq_false (by omega)
  have H5 := hide h5
  clear h5
  by_cases h6 : n = 0
  rotate_left
  · have HV : Hid (fmay ⟨k, a, b, e, false, data, more, list⟩ = false) := hide (by have hk := HK.out; subst hk <;> simp [fmay, fshape, fclear, flimits, fown, facks, HL0.out, h6])
    have z6 : decide ((0 : Int) < n) = true := decide_eq_true (by omega)
    have y6 : decide (0 < n) = true := decide_eq_true (by omega)
    clear h6
    go_enter Tryd.func21, Tryd.ntmps21
    go_wp2_with fail
    refine (HN.out _).mono ?_
    rintro e w1 ⟨rfl, rfl⟩
    simp only [List.append_eq, List.cons_append, List.nil_append] at *
    go_wp2_with fail
    refine (HD.out _).mono ?_
    rintro e w2 ⟨rfl, rfl⟩
    go_wp2_with fail
    go_ret
    exact RPost.of HV.out ((Mod.refl _ _).alloc _)
  have z6 : decide ((0 : Int) < n) = false := decide_eq_false (by omega)
  have y6 : decide (0 < n) = false := decide_eq_false (by omega)
  have H6 := hide h6
  clear h6
  have HV : Hid (fmay ⟨k, a, b, e, false, data, more, list⟩ = (true)) := hide (by have hk := HK.out; subst hk <;> simp [fmay, fshape, fclear, flimits, fown, facks, H2.out, H5.out, HL0.out, H6.out, show a < 4611686018427387904 from ha, show b < 4611686018427387904 from hb, show e < 4611686018427387904 from he, show data.size ≤ 16384 from hd])
  go_enter Tryd.func21, Tryd.ntmps21
  go_wp2_with fail
  refine (HN.out _).mono ?_
  rintro e w1 ⟨rfl, rfl⟩
  simp only [List.append_eq, List.cons_append, List.nil_append] at *
  go_wp2_with fail
  refine (HD.out _).mono ?_
  rintro e w2 ⟨rfl, rfl⟩
  go_wp2_with fail
  go_ret
  exact RPost.of HV.out ((Mod.refl _ _).alloc _)

set_option maxRecDepth 100000 in
set_option maxHeartbeats 8000000 in
theorem rmay_ecn (w : World) (A : Option Addr) (n c : Nat) (k a b e : Nat) (fin : Bool) (data more : ByteArray) (list : List (Nat × Nat)) (hr : Rngs w A n list) (hk : k = 3) (ha : a < 4611686018427387904) (hb : b < 4611686018427387904) (he : e < 4611686018427387904) (hd : data.size ≤ 16384) :
    Calls Tryd.prog 21 #[fval A n c ⟨k, a, b, e, fin, data, more, list⟩] w (RPost w (fmay ⟨k, a, b, e, fin, data, more, list⟩)) := by
  have hn62 := hr.2.1
  have hln := hr.1
  have hl0 : list = [] ↔ n = 0 := by
    constructor
    · intro h; rw [h] at hln; simpa using hln.symm
    · intro h; exact List.eq_nil_of_length_eq_zero (by omega)
  have HK := hide hk
  have HL0 := hide hl0
  have HR := hide hr
  have HN := hide (fun w => rnumbers_any w k)
  have HD := hide (fun w => rdata_any w k)
  rw [show fnumI k = 3 by subst hk; rfl] at HN
  rw [show fdata k = false by subst hk; rfl] at HD
  have a1 : decide ((4611686018427387904 : Int) ≤ a) = false := decide_eq_false (by omega)
  have a2 : decide (4611686018427387904 ≤ a) = false := decide_eq_false (by omega)
  have b1 : decide ((4611686018427387904 : Int) ≤ b) = false := decide_eq_false (by omega)
  have b2 : decide (4611686018427387904 ≤ b) = false := decide_eq_false (by omega)
  have e1 : decide ((4611686018427387904 : Int) ≤ e) = false := decide_eq_false (by omega)
  have e2 : decide (4611686018427387904 ≤ e) = false := decide_eq_false (by omega)
  have d1 : decide ((16384 : Int) < data.size) = false := decide_eq_false (by omega)
  have d2 : decide (16384 < data.size) = false := decide_eq_false (by omega)
  have k0 : ((k : Int) == 0) = false := by simp; omega
  have k2 : ((k : Int) == 2) = false := by simp; omega
  have m2 : ((k : Int) != 2) = true := by simp; omega
  have k3 : ((k : Int) == 3) = true := by simp; omega
  have m3 : ((k : Int) != 3) = false := by simp; omega
  have k6 : ((k : Int) == 6) = false := by simp; omega
  have k7 : ((k : Int) == 7) = false := by simp; omega
  have k8 : ((k : Int) == 8) = false := by simp; omega
  have m8 : ((k : Int) != 8) = true := by simp; omega
  have k18 : ((k : Int) == 18) = false := by simp; omega
  have k19 : ((k : Int) == 19) = false := by simp; omega
  have k22 : ((k : Int) == 22) = false := by simp; omega
  have k23 : ((k : Int) == 23) = false := by simp; omega
  have k24 : ((k : Int) == 24) = false := by simp; omega
  have m24 : ((k : Int) != 24) = true := by simp; omega
  have k26 : ((k : Int) == 26) = false := by simp; omega
  have k27 : ((k : Int) == 27) = false := by simp; omega
  unfold fval fcs
  simp only
  clear hr hln hl0 hk
  by_cases h3 : data.size = 0
  rotate_left
  · have HV : Hid (fmay ⟨k, a, b, e, fin, data, more, list⟩ = false) := hide (by have hk := HK.out; subst hk <;> simp [fmay, fshape, fclear, flimits, fown, facks, h3])
    have z3 : decide ((0 : Int) < data.size) = true := decide_eq_true (by omega)
    have y3 : decide (0 < data.size) = true := decide_eq_true (by omega)
    clear h3
    go_enter Tryd.func21, Tryd.ntmps21
    go_wp2_with fail
    refine (HN.out _).mono ?_
    rintro e w1 ⟨rfl, rfl⟩
    simp only [List.append_eq, List.cons_append, List.nil_append] at *
    go_wp2_with fail
    refine (HD.out _).mono ?_
    rintro e w2 ⟨rfl, rfl⟩
    go_wp2_with fail
    go_ret
    exact RPost.of HV.out ((Mod.refl _ _).alloc _)
  have z3 : decide ((0 : Int) < data.size) = false := decide_eq_false (by omega)
  have y3 : decide (0 < data.size) = false := decide_eq_false (by omega)
  have H3 := hide h3
  clear h3
  by_cases h4 : fin = false
  rotate_left
  · have HV : Hid (fmay ⟨k, a, b, e, fin, data, more, list⟩ = false) := hide (by have hk := HK.out; subst hk <;> simp [fmay, fshape, fclear, flimits, fown, facks, h4])
    obtain rfl : fin = true := by simpa using h4
    clear h4
    go_enter Tryd.func21, Tryd.ntmps21
    go_wp2_with fail
    refine (HN.out _).mono ?_
    rintro e w1 ⟨rfl, rfl⟩
    simp only [List.append_eq, List.cons_append, List.nil_append] at *
    go_wp2_with fail
    refine (HD.out _).mono ?_
    rintro e w2 ⟨rfl, rfl⟩
    go_wp2_with fail
    go_ret
    exact RPost.of HV.out ((Mod.refl _ _).alloc _)
  subst h4
  have HV0 : Hid (fmay ⟨k, a, b, e, false, data, more, list⟩ = (rngs list && (decide (more.size = 8) && decide (numF 0 more.data.toList < 4611686018427387904)))) := hide (by have hk := HK.out; subst hk <;> simp [fmay, fshape, fclear, flimits, fown, facks, H3.out, show a < 4611686018427387904 from ha, show b < 4611686018427387904 from hb, show e < 4611686018427387904 from he, show data.size ≤ 16384 from hd, Bool.and_assoc, Bool.and_comm, Bool.and_left_comm])
  have HRg := hide (fun w' (h : Rngs w' A n list) => rfranges_any w' A n c list h _ rfl)
  have HNm := hide (fun w' (h : more.size ≤ 8) => rnumber_any w' more h)
  cases hrg : rngs list with
  | false =>
    rw [hrg] at HRg
    have HV : Hid (fmay ⟨k, a, b, e, false, data, more, list⟩ = false) := hide (by rw [HV0.out, hrg]; rfl)
    clear hrg HV0
    go_enter Tryd.func21, Tryd.ntmps21
    go_wp2_with fail
    refine (HN.out _).mono ?_
    rintro e w1 ⟨rfl, rfl⟩
    simp only [List.append_eq, List.cons_append, List.nil_append] at *
    go_wp2_with fail
    refine (HD.out _).mono ?_
    rintro e w2 ⟨rfl, rfl⟩
    go_wp2_with fail
    refine (HRg.out _ (HR.out.new ((Mod.refl [] w).alloc _))).mono ?_
    rintro e w3 ⟨rfl, m3⟩
    go_wp2_with fail
    go_ret
    exact RPost.of HV.out (((Mod.refl _ _).alloc _).trans m3 (by simp))
  | true =>
    rw [hrg] at HRg
    by_cases g1 : more.size = 8
    rotate_left
    · have HV : Hid (fmay ⟨k, a, b, e, false, data, more, list⟩ = false) := hide (by rw [HV0.out, hrg, decide_eq_false g1]; rfl)
      have x1 : ((more.size : Int) == 8) = false := by simp; omega
      have x2 : (more.size == 8) = false := by simpa using g1
      clear hrg HV0 g1
      go_enter Tryd.func21, Tryd.ntmps21
      go_wp2_with fail
      refine (HN.out _).mono ?_
      rintro e w1 ⟨rfl, rfl⟩
      simp only [List.append_eq, List.cons_append, List.nil_append] at *
      go_wp2_with fail
      refine (HD.out _).mono ?_
      rintro e w2 ⟨rfl, rfl⟩
      go_wp2_with fail
      refine (HRg.out _ (HR.out.new ((Mod.refl [] w).alloc _))).mono ?_
      rintro e w3 ⟨rfl, m3⟩
      have B3 := m3.blk (Blk.new w 26 #[.int .u64 (k : Nat), .int .u64 (a : Nat), .int .u64 (b : Nat), .int .u64 (e : Nat), .bool false, .string data, .string more, .slice A n c]) (by simp)
      have y6 := B3.cell 6
      have hl := B3.lt
      clear B3
      go_wp2_with fail
      go_ret
      exact RPost.of HV.out (((Mod.refl _ _).alloc _).trans m3 (by simp))
    have HV : Hid (fmay ⟨k, a, b, e, false, data, more, list⟩ = decide (numF 0 more.data.toList < 4611686018427387904)) := hide (by rw [HV0.out, hrg, decide_eq_true g1]; rfl)
    have HNm2 := hide (fun w' => HNm.out w' (by omega))
    obtain ⟨N, hN⟩ : ∃ N, numF 0 more.data.toList = N := ⟨_, rfl⟩
    rw [hN] at HNm2 HV
    obtain ⟨X, hX⟩ : ∃ X, decide (N < 4611686018427387904) = X := ⟨_, rfl⟩
    rw [hX] at HV
    have x0 : decide ((N : Int) < 4611686018427387904) = X := by rw [← hX]; exact decide_eq_decide.2 (by omega)
    have x1 : ((more.size : Int) == 8) = true := by simp; omega
    have x2 : (more.size == 8) = true := by simpa using g1
    clear hrg HV0 hN HNm g1
    go_enter Tryd.func21, Tryd.ntmps21
    go_wp2_with fail
    refine (HN.out _).mono ?_
    rintro e w1 ⟨rfl, rfl⟩
    simp only [List.append_eq, List.cons_append, List.nil_append] at *
    go_wp2_with fail
    refine (HD.out _).mono ?_
    rintro e w2 ⟨rfl, rfl⟩
    go_wp2_with fail
    refine (HRg.out _ (HR.out.new ((Mod.refl [] w).alloc _))).mono ?_
    rintro e w3 ⟨rfl, m3⟩
    have B3 := m3.blk (Blk.new w 26 #[.int .u64 (k : Nat), .int .u64 (a : Nat), .int .u64 (b : Nat), .int .u64 (e : Nat), .bool false, .string data, .string more, .slice A n c]) (by simp)
    have y6 := B3.cell 6
    have hl := B3.lt
    clear B3
    go_wp2_with fail
    refine (HNm2.out _).mono ?_
    rintro e w4 ⟨rfl, rfl⟩
    go_wp2_with fail
    go_ret
    exact RPost.of HV.out (((Mod.refl _ _).alloc _).trans m3 (by simp))

set_option maxRecDepth 100000 in
set_option maxHeartbeats 8000000 in
theorem rmay_rst (w : World) (A : Option Addr) (n c : Nat) (k a b e : Nat) (fin : Bool) (data more : ByteArray) (list : List (Nat × Nat)) (hr : Rngs w A n list) (hk : k = 4) (ha : a < 4611686018427387904) (hb : b < 4611686018427387904) (he : e < 4611686018427387904) (hd : data.size ≤ 16384) :
    Calls Tryd.prog 21 #[fval A n c ⟨k, a, b, e, fin, data, more, list⟩] w (RPost w (fmay ⟨k, a, b, e, fin, data, more, list⟩)) := by
  have hn62 := hr.2.1
  have hln := hr.1
  have hl0 : list = [] ↔ n = 0 := by
    constructor
    · intro h; rw [h] at hln; simpa using hln.symm
    · intro h; exact List.eq_nil_of_length_eq_zero (by omega)
  have HK := hide hk
  have HL0 := hide hl0
  have HR := hide hr
  have HN := hide (fun w => rnumbers_any w k)
  have HD := hide (fun w => rdata_any w k)
  rw [show fnumI k = 3 by subst hk; rfl] at HN
  rw [show fdata k = false by subst hk; rfl] at HD
  have a1 : decide ((4611686018427387904 : Int) ≤ a) = false := decide_eq_false (by omega)
  have a2 : decide (4611686018427387904 ≤ a) = false := decide_eq_false (by omega)
  have b1 : decide ((4611686018427387904 : Int) ≤ b) = false := decide_eq_false (by omega)
  have b2 : decide (4611686018427387904 ≤ b) = false := decide_eq_false (by omega)
  have e1 : decide ((4611686018427387904 : Int) ≤ e) = false := decide_eq_false (by omega)
  have e2 : decide (4611686018427387904 ≤ e) = false := decide_eq_false (by omega)
  have d1 : decide ((16384 : Int) < data.size) = false := decide_eq_false (by omega)
  have d2 : decide (16384 < data.size) = false := decide_eq_false (by omega)
  have k0 : ((k : Int) == 0) = false := by simp; omega
  have k2 : ((k : Int) == 2) = false := by simp; omega
  have m2 : ((k : Int) != 2) = true := by simp; omega
  have k3 : ((k : Int) == 3) = false := by simp; omega
  have m3 : ((k : Int) != 3) = true := by simp; omega
  have k6 : ((k : Int) == 6) = false := by simp; omega
  have k7 : ((k : Int) == 7) = false := by simp; omega
  have k8 : ((k : Int) == 8) = false := by simp; omega
  have m8 : ((k : Int) != 8) = true := by simp; omega
  have k18 : ((k : Int) == 18) = false := by simp; omega
  have k19 : ((k : Int) == 19) = false := by simp; omega
  have k22 : ((k : Int) == 22) = false := by simp; omega
  have k23 : ((k : Int) == 23) = false := by simp; omega
  have k24 : ((k : Int) == 24) = false := by simp; omega
  have m24 : ((k : Int) != 24) = true := by simp; omega
  have k26 : ((k : Int) == 26) = false := by simp; omega
  have k27 : ((k : Int) == 27) = false := by simp; omega
  unfold fval fcs
  simp only
  clear hr hln hl0 hk
  by_cases h3 : data.size = 0
  rotate_left
  · have HV : Hid (fmay ⟨k, a, b, e, fin, data, more, list⟩ = false) := hide (by have hk := HK.out; subst hk <;> simp [fmay, fshape, fclear, flimits, fown, facks, h3])
    have z3 : decide ((0 : Int) < data.size) = true := decide_eq_true (by omega)
    have y3 : decide (0 < data.size) = true := decide_eq_true (by omega)
    clear h3
    go_enter Tryd.func21, Tryd.ntmps21
    go_wp2_with fail
    refine (HN.out _).mono ?_
    rintro e w1 ⟨rfl, rfl⟩
    simp only [List.append_eq, List.cons_append, List.nil_append] at *
    go_wp2_with fail
    refine (HD.out _).mono ?_
    rintro e w2 ⟨rfl, rfl⟩
    go_wp2_with fail
    go_ret
    exact RPost.of HV.out ((Mod.refl _ _).alloc _)
  have z3 : decide ((0 : Int) < data.size) = false := decide_eq_false (by omega)
  have y3 : decide (0 < data.size) = false := decide_eq_false (by omega)
  have H3 := hide h3
  clear h3
  by_cases h4 : fin = false
  rotate_left
  · have HV : Hid (fmay ⟨k, a, b, e, fin, data, more, list⟩ = false) := hide (by have hk := HK.out; subst hk <;> simp [fmay, fshape, fclear, flimits, fown, facks, h4])
    obtain rfl : fin = true := by simpa using h4
    clear h4
    go_enter Tryd.func21, Tryd.ntmps21
    go_wp2_with fail
    refine (HN.out _).mono ?_
    rintro e w1 ⟨rfl, rfl⟩
    simp only [List.append_eq, List.cons_append, List.nil_append] at *
    go_wp2_with fail
    refine (HD.out _).mono ?_
    rintro e w2 ⟨rfl, rfl⟩
    go_wp2_with fail
    go_ret
    exact RPost.of HV.out ((Mod.refl _ _).alloc _)
  subst h4
  by_cases h5 : more.size = 0
  rotate_left
  · have HV : Hid (fmay ⟨k, a, b, e, false, data, more, list⟩ = false) := hide (by have hk := HK.out; subst hk <;> simp [fmay, fshape, fclear, flimits, fown, facks, h5])
    have z5 : decide ((0 : Int) < more.size) = true := decide_eq_true (by omega)
    have y5 : decide (0 < more.size) = true := decide_eq_true (by omega)
    clear h5
    go_enter Tryd.func21, Tryd.ntmps21
    go_wp2_with fail
    refine (HN.out _).mono ?_
    rintro e w1 ⟨rfl, rfl⟩
    simp only [List.append_eq, List.cons_append, List.nil_append] at *
    go_wp2_with fail
    refine (HD.out _).mono ?_
    rintro e w2 ⟨rfl, rfl⟩
    go_wp2_with fail
    go_ret
    exact RPost.of HV.out ((Mod.refl _ _).alloc _)
  have z5 : decide ((0 : Int) < more.size) = false := decide_eq_false (by omega)
  have y5 : decide (0 < more.size) = false := decide_eq_false (by omega)
  have H5 := hide h5
  clear h5
  by_cases h6 : n = 0
  rotate_left
  · have HV : Hid (fmay ⟨k, a, b, e, false, data, more, list⟩ = false) := hide (by have hk := HK.out; subst hk <;> simp [fmay, fshape, fclear, flimits, fown, facks, HL0.out, h6])
    have z6 : decide ((0 : Int) < n) = true := decide_eq_true (by omega)
    have y6 : decide (0 < n) = true := decide_eq_true (by omega)
    clear h6
    go_enter Tryd.func21, Tryd.ntmps21
    go_wp2_with fail
    refine (HN.out _).mono ?_
    rintro e w1 ⟨rfl, rfl⟩
    simp only [List.append_eq, List.cons_append, List.nil_append] at *
    go_wp2_with fail
    refine (HD.out _).mono ?_
    rintro e w2 ⟨rfl, rfl⟩
    go_wp2_with fail
    go_ret
    exact RPost.of HV.out ((Mod.refl _ _).alloc _)
  have z6 : decide ((0 : Int) < n) = false := decide_eq_false (by omega)
  have y6 : decide (0 < n) = false := decide_eq_false (by omega)
  have H6 := hide h6
  clear h6
  have HV : Hid (fmay ⟨k, a, b, e, false, data, more, list⟩ = (true)) := hide (by have hk := HK.out; subst hk <;> simp [fmay, fshape, fclear, flimits, fown, facks, H3.out, H5.out, HL0.out, H6.out, show a < 4611686018427387904 from ha, show b < 4611686018427387904 from hb, show e < 4611686018427387904 from he, show data.size ≤ 16384 from hd])
  go_enter Tryd.func21, Tryd.ntmps21
  go_wp2_with fail
  refine (HN.out _).mono ?_
  rintro e w1 ⟨rfl, rfl⟩
  simp only [List.append_eq, List.cons_append, List.nil_append] at *
  go_wp2_with fail
  refine (HD.out _).mono ?_
  rintro e w2 ⟨rfl, rfl⟩
  go_wp2_with fail
  go_ret
  exact RPost.of HV.out ((Mod.refl _ _).alloc _)
end Go.Proofs.YtbjmcnmcodbkdaaDoor

/-
  frames: the document's package: May, kinds joined.
-/
namespace Go.Proofs.YtbjmcnmcodbkdaaDoor
open Go.RowKit
set_option linter.unusedSimpArgs false

theorem fmay_kind {f : Fr} (h : fnumbers f.kind = none) : fmay f = false := by
  have hk : ¬ (f.kind = 5 ∨ f.kind = 8 ∨ f.kind = 17 ∨ f.kind = 21 ∨ f.kind = 24 ∨ f.kind = 28 ∨ f.kind = 1 ∨ f.kind = 7 ∨ f.kind = 26 ∨ f.kind = 27 ∨ f.kind = 30 ∨ f.kind = 0 ∨ f.kind = 2 ∨ f.kind = 6 ∨ f.kind = 16 ∨ f.kind = 18 ∨ f.kind = 19 ∨ f.kind = 20 ∨ f.kind = 22 ∨ f.kind = 23 ∨ f.kind = 25 ∨ f.kind = 29 ∨ f.kind = 3 ∨ f.kind = 4) := by
    rintro (h2 | h2 | h2 | h2 | h2 | h2 | h2 | h2 | h2 | h2 | h2 | h2 | h2 | h2 | h2 | h2 | h2 | h2 | h2 | h2 | h2 | h2 | h2 | h2) <;> (rw [h2] at h; cases h)
  have hs : fshape f.kind = none := fshape_none (by omega)
  unfold fmay fown
  rw [hs]
  simp only
  rw [if_neg (by omega), if_neg (by omega), if_neg (by omega), if_neg (by omega)]
  simp

set_option maxRecDepth 100000 in
set_option maxHeartbeats 8000000 in
theorem rmay_low (w : World) (A : Option Addr) (n c : Nat) (k a b e : Nat) (fin : Bool) (data more : ByteArray) (list : List (Nat × Nat)) (hbad : fnumbers k = none ∨ ¬ a < 4611686018427387904 ∨ ¬ b < 4611686018427387904 ∨ ¬ e < 4611686018427387904 ∨ ¬ data.size ≤ 16384) :
    Calls Tryd.prog 21 #[fval A n c ⟨k, a, b, e, fin, data, more, list⟩] w (RPost w (fmay ⟨k, a, b, e, fin, data, more, list⟩)) := by
  have HN := hide (fun w => rnumbers_any w k)
  cases hnum : fnumbers k with
  | none =>
    have HV : Hid (fmay ⟨k, a, b, e, fin, data, more, list⟩ = false) := hide (fmay_kind hnum)
    rw [show fnumI k = -1 by unfold fnumI; rw [hnum]] at HN
    unfold fval fcs
    simp only
    clear hbad hnum
    go_enter Tryd.func21, Tryd.ntmps21
    go_wp2_with fail
    refine (HN.out _).mono ?_
    rintro e w1 ⟨rfl, rfl⟩
    go_wp2_with fail
    go_ret
    exact RPost.of HV.out ((Mod.refl _ _).alloc _)
  | some m =>
    rw [show fnumI k = (m : Nat) by unfold fnumI; rw [hnum]] at HN
    have hbad2 : ¬ a < 4611686018427387904 ∨ ¬ b < 4611686018427387904 ∨ ¬ e < 4611686018427387904 ∨ ¬ data.size ≤ 16384 := by
      rcases hbad with h | h
      · rw [hnum] at h; cases h
      · exact h
    have HV : Hid (fmay ⟨k, a, b, e, fin, data, more, list⟩ = false) := hide (by
      unfold fmay
      simp only
      rcases hbad2 with h | h | h | h <;> simp [h])
    clear hbad hnum
    have n1 : decide ((m : Int) < 0) = false := decide_eq_false (by omega)
    unfold fval fcs
    simp only
    by_cases g0 : a < 4611686018427387904
    rotate_left
    · have x0 : decide ((4611686018427387904 : Int) ≤ a) = true := decide_eq_true (by omega)
      have y0 : decide (4611686018427387904 ≤ a) = true := decide_eq_true (by omega)
      clear g0 hbad2
      go_enter Tryd.func21, Tryd.ntmps21
      go_wp2_with fail
      refine (HN.out _).mono ?_
      rintro e w1 ⟨rfl, rfl⟩
      go_wp2_with fail
      go_ret
      exact RPost.of HV.out ((Mod.refl _ _).alloc _)
    have x0 : decide ((4611686018427387904 : Int) ≤ a) = false := decide_eq_false (by omega)
    have y0 : decide (4611686018427387904 ≤ a) = false := decide_eq_false (by omega)
    by_cases g1 : b < 4611686018427387904
    rotate_left
    · have x1 : decide ((4611686018427387904 : Int) ≤ b) = true := decide_eq_true (by omega)
      have y1 : decide (4611686018427387904 ≤ b) = true := decide_eq_true (by omega)
      clear g1 hbad2
      go_enter Tryd.func21, Tryd.ntmps21
      go_wp2_with fail
      refine (HN.out _).mono ?_
      rintro e w1 ⟨rfl, rfl⟩
      go_wp2_with fail
      go_ret
      exact RPost.of HV.out ((Mod.refl _ _).alloc _)
    have x1 : decide ((4611686018427387904 : Int) ≤ b) = false := decide_eq_false (by omega)
    have y1 : decide (4611686018427387904 ≤ b) = false := decide_eq_false (by omega)
    by_cases g2 : e < 4611686018427387904
    rotate_left
    · have x2 : decide ((4611686018427387904 : Int) ≤ e) = true := decide_eq_true (by omega)
      have y2 : decide (4611686018427387904 ≤ e) = true := decide_eq_true (by omega)
      clear g2 hbad2
      go_enter Tryd.func21, Tryd.ntmps21
      go_wp2_with fail
      refine (HN.out _).mono ?_
      rintro e w1 ⟨rfl, rfl⟩
      go_wp2_with fail
      go_ret
      exact RPost.of HV.out ((Mod.refl _ _).alloc _)
    have x2 : decide ((4611686018427387904 : Int) ≤ e) = false := decide_eq_false (by omega)
    have y2 : decide (4611686018427387904 ≤ e) = false := decide_eq_false (by omega)
    have x3 : decide ((16384 : Int) < data.size) = true := decide_eq_true (by omega)
    have y3 : decide (16384 < data.size) = true := decide_eq_true (by omega)
    clear g0 g1 g2 hbad2
    go_enter Tryd.func21, Tryd.ntmps21
    go_wp2_with fail
    refine (HN.out _).mono ?_
    rintro e w1 ⟨rfl, rfl⟩
    go_wp2_with fail
    go_ret
    exact RPost.of HV.out ((Mod.refl _ _).alloc _)

/-- May: what may be -/
theorem rfmay_any (w : World) (A : Option Addr) (n c : Nat) (f : Fr) (hr : Rngs w A n f.list) :
    Calls Tryd.prog 21 #[fval A n c f] w (RPost w (fmay f)) := by
  obtain ⟨k, a, b, e, fin, data, more, list⟩ := f
  by_cases hbad : fnumbers k = none ∨ ¬ a < 4611686018427387904 ∨ ¬ b < 4611686018427387904 ∨ ¬ e < 4611686018427387904 ∨ ¬ data.size ≤ 16384
  · exact rmay_low w A n c k a b e fin data more list hbad
  · have hs : fnumbers k ≠ none := fun h => hbad (.inl h)
    have hk : k = 5 ∨ k = 8 ∨ k = 17 ∨ k = 21 ∨ k = 24 ∨ k = 28 ∨ k = 1 ∨ k = 7 ∨ k = 26 ∨ k = 27 ∨ k = 30 ∨ k = 0 ∨ k = 2 ∨ k = 6 ∨ k = 16 ∨ k = 18 ∨ k = 19 ∨ k = 20 ∨ k = 22 ∨ k = 23 ∨ k = 25 ∨ k = 29 ∨ k = 3 ∨ k = 4 := by
      refine Decidable.byContradiction fun h => hs (fnumbers_none h)
    have ha : a < 4611686018427387904 := by omega
    have hb : b < 4611686018427387904 := by omega
    have he : e < 4611686018427387904 := by omega
    have hd : data.size ≤ 16384 := by omega
    rcases hk with rfl | rfl | rfl | rfl | rfl | rfl | rfl | rfl | rfl | rfl | rfl | rfl | rfl | rfl | rfl | rfl | rfl | rfl | rfl | rfl | rfl | rfl | rfl | rfl
    · exact rmay_two w A n c _ a b e fin data more list hr (by omega) ha hb he hd
    · exact rmay_strm w A n c _ a b e fin data more list hr (by omega) ha hb he hd
    · exact rmay_two w A n c _ a b e fin data more list hr (by omega) ha hb he hd
    · exact rmay_two w A n c _ a b e fin data more list hr (by omega) ha hb he hd
    · exact rmay_cid w A n c _ a b e fin data more list hr (by omega) ha hb he hd
    · exact rmay_clo w A n c _ a b e fin data more list hr (by omega) ha hb he hd
    · exact rmay_ping w A n c _ a b e fin data more list hr (by omega) ha hb he hd
    · exact rmay_tok w A n c _ a b e fin data more list hr (by omega) ha hb he hd
    · exact rmay_chal w A n c _ a b e fin data more list hr (by omega) ha hb he hd
    · exact rmay_chal w A n c _ a b e fin data more list hr (by omega) ha hb he hd
    · exact rmay_ping w A n c _ a b e fin data more list hr (by omega) ha hb he hd
    · exact rmay_pad w A n c _ a b e fin data more list hr (by omega) ha hb he hd
    · exact rmay_ack w A n c _ a b e fin data more list hr (by omega) ha hb he hd
    · exact rmay_cry w A n c _ a b e fin data more list hr (by omega) ha hb he hd
    · exact rmay_one w A n c _ a b e fin data more list hr (by omega) ha hb he hd
    · exact rmay_lim w A n c _ a b e fin data more list hr (by omega) ha hb he hd
    · exact rmay_lim w A n c _ a b e fin data more list hr (by omega) ha hb he hd
    · exact rmay_one w A n c _ a b e fin data more list hr (by omega) ha hb he hd
    · exact rmay_lim w A n c _ a b e fin data more list hr (by omega) ha hb he hd
    · exact rmay_lim w A n c _ a b e fin data more list hr (by omega) ha hb he hd
    · exact rmay_one w A n c _ a b e fin data more list hr (by omega) ha hb he hd
    · exact rmay_app w A n c _ a b e fin data more list hr (by omega) ha hb he hd
    · exact rmay_ecn w A n c _ a b e fin data more list hr (by omega) ha hb he hd
    · exact rmay_rst w A n c _ a b e fin data more list hr (by omega) ha hb he hd
end Go.Proofs.YtbjmcnmcodbkdaaDoor

/-
  frames: the document's package: Write, but for acknowledgements and new ids.
-/
namespace Go.Proofs.YtbjmcnmcodbkdaaDoor
open Go.RowKit Go.Sort
set_option linter.unusedVariables false

/-- what the document's Write tells -/
def RWr (w : World) (f : Fr) (e : Ending) (w' : World) : Prop := e = .returned (.tuple #[str (fwS f), .int .i64 (fwE f)]) ∧ Mod [] w w'
theorem RWr.yes {w w' : World} {f : Fr} {O : ByteArray} (hm : fmay f = true) (ho : fbytes f = O.data.toList) (m : Mod [] w w') : RWr w f (.returned (.tuple #[.string O, .int .i64 0])) w' := by
  refine ⟨?_, m⟩
  unfold fwS fwE str
  rw [hm, if_pos rfl, if_pos rfl, ho, eta_bytes]
theorem RWr.no {w w' : World} {f : Fr} (hm : fmay f = false) (m : Mod [] w w') : RWr w f (.returned (.tuple #[.string ⟨#[]⟩, .int .i64 2])) w' := by
  refine ⟨?_, m⟩
  unfold fwS fwE str
  rw [hm]
  rfl
theorem c8 {w : World} {g : Nat} {t : TypeId} {x0 x1 x2 x3 x4 x5 x6 x7 : Value} (h : Blk w g t #[x0, x1, x2, x3, x4, x5, x6, x7]) :
    w.cell? ⟨g, 0, none⟩ = some x0 ∧ w.cell? ⟨g, 1, none⟩ = some x1 ∧ w.cell? ⟨g, 2, none⟩ = some x2 ∧ w.cell? ⟨g, 3, none⟩ = some x3 ∧ w.cell? ⟨g, 4, none⟩ = some x4 ∧ w.cell? ⟨g, 5, none⟩ = some x5 ∧ w.cell? ⟨g, 6, none⟩ = some x6 ∧ w.cell? ⟨g, 7, none⟩ = some x7 :=
  ⟨h.cell 0, h.cell 1, h.cell 2, h.cell 3, h.cell 4, h.cell 5, h.cell 6, h.cell 7⟩
/-- the bytes of a number, named -/
theorem putB (n : Nat) : ∃ K : ByteArray, K = ⟨(vputS n).toArray⟩ ∧ str (vputS n) = .string K ∧ K.size ≤ 8 ∧ K.data.toList = vputS n := ⟨_, rfl, rfl, vputS_le n, by simp⟩
theorem putB2 (l : List UInt8) : ∃ K : ByteArray, str l = .string K ∧ K.size = l.length ∧ K.data.toList = l := ⟨⟨l.toArray⟩, rfl, by simp [ByteArray.size], by simp⟩

set_option maxRecDepth 100000 in
set_option maxHeartbeats 2000000 in
theorem rwr_no (w : World) (A : Option Addr) (n c : Nat) (k a b e : Nat) (fin : Bool) (data more : ByteArray) (list : List (Nat × Nat)) (hr : Rngs w A n list) (hm : fmay ⟨k, a, b, e, fin, data, more, list⟩ = false) : Calls Tryd.prog 18 #[fval A n c ⟨k, a, b, e, fin, data, more, list⟩] w (RWr w ⟨k, a, b, e, fin, data, more, list⟩) := by
  have HMay := hide (fun w' (h : Rngs w' A n list) => rfmay_any w' A n c ⟨k, a, b, e, fin, data, more, list⟩ h)
  rw [hm] at HMay
  have HR := hide (hr.new ((Mod.refl [] w).alloc (.cells (fcs A n c ⟨k, a, b, e, fin, data, more, list⟩) 26)))
  have HBx := hide (Blk.new w 26 (fcs A n c ⟨k, a, b, e, fin, data, more, list⟩))
  have HN := hide hm
  clear hm hr
  unfold fval fcs at *
  simp only at *
  go_enter Tryd.func18, Tryd.ntmps18
  go_wp2_with fail
  refine (HMay.out _ HR.out).mono ?_
  rintro e0 w1 ⟨rfl, m1⟩
  have HM := hide (((Mod.refl [] w).alloc _).trans m1 (by simp))
  have HB := hide (m1.blk HBx.out (by simp))
  have HR1 := hide (HR.out.new m1)
  have hgl := HB.out.lt
  obtain ⟨p0, p1, p2, p3, p4, p5, p6, p7⟩ := c8 HB.out
  clear m1
  go_wp2_with fail
  go_ret2
  exact RWr.no HN.out HM.out

set_option maxRecDepth 100000 in
set_option maxHeartbeats 4000000 in
theorem rwr_0 (w : World) (A : Option Addr) (n c : Nat) (a b e : Nat) (fin : Bool) (data more : ByteArray) (list : List (Nat × Nat)) (hr : Rngs w A n list) (hm : fmay ⟨0, a, b, e, fin, data, more, list⟩ = true) : Calls Tryd.prog 18 #[fval A n c ⟨0, a, b, e, fin, data, more, list⟩] w (RWr w ⟨0, a, b, e, fin, data, more, list⟩) := by
  have ha : 1 ≤ a ∧ a ≤ 16384 := by
    have := (fmay_parts hm).2.2.2.2
    simp [fshape, fown] at this
    omega
  have ha1 := ha.1
  have ha2 := ha.2
  clear ha
  have HMay := hide (fun w' (h : Rngs w' A n list) => rfmay_any w' A n c ⟨0, a, b, e, fin, data, more, list⟩ h)
  rw [hm] at HMay
  have HR := hide (hr.new ((Mod.refl [] w).alloc (.cells (fcs A n c ⟨0, a, b, e, fin, data, more, list⟩) 26)))
  have HBx := hide (Blk.new w 26 (fcs A n c ⟨0, a, b, e, fin, data, more, list⟩))
  have HN := hide hm
  have HP := hide (fun w n => rfput_any w n)
  obtain ⟨K, -, hK, hKs, -⟩ := putB 0
  have HK := hide hK
  have hmk := fun w => (Go.run_make_row' (P := Tryd.prog) 55 5 (.int .u8 0) 1 Tryd.underlying55 u8info rfl .i64 .i64 a (by omega) (by omega) w).trans (by rw [madeCells_one])
  have hcv := fun (w : World) => conv_bytes (w.alloc (.cells (Array.replicate a (.int .u8 0)) 5)) w.heap.size (List.replicate a 0) [] a (by
    have := Blk.new w 5 (Array.replicate a (.int .u8 0))
    rw [show (List.map bv (List.replicate a (0 : UInt8)) ++ ([] : List Value)).toArray = Array.replicate a (Value.int .u8 0) by simp [bv]]
    exact this)
  simp only [List.length_replicate] at hcv
  obtain ⟨O, hO, -, hOl⟩ := putB2 (List.replicate a 0)
  rw [hO] at hcv
  have HO := hide hOl
  clear hm hr hK hO hOl
  unfold fval fcs at *
  simp only at *
  go_enter Tryd.func18, Tryd.ntmps18
  go_wp2_with fail
  refine (HMay.out _ HR.out).mono ?_
  rintro e0 w1 ⟨rfl, m1⟩
  have HM := hide (((Mod.refl [] w).alloc _).trans m1 (by simp))
  have HB := hide (m1.blk HBx.out (by simp))
  have HR1 := hide (HR.out.new m1)
  have hgl := HB.out.lt
  obtain ⟨p0, p1, p2, p3, p4, p5, p6, p7⟩ := c8 HB.out
  clear m1
  go_wp2_with fail
  refine (HP.out _ 0).mono ?_
  rintro e0 w2 ⟨rfl, m2⟩
  rw [HK.out]
  have HM2 := hide (HM.out.trans m2 (by simp))
  have HB2 := hide (m2.blk HB.out (by simp))
  have hgl2 := HB2.out.lt
  clear m2 p0 p1 p2 p3 p4 p5 p6 p7 hgl
  obtain ⟨p0, p1, p2, p3, p4, p5, p6, p7⟩ := c8 HB2.out
  go_wp2_with fail
  go_ret2
  exact RWr.yes HN.out (by rw [HO.out]; rfl) (HM2.out.alloc _)

set_option maxRecDepth 100000 in
set_option maxHeartbeats 4000000 in
theorem rwr_26 (w : World) (A : Option Addr) (n c : Nat) (k a b e : Nat) (fin : Bool) (data more : ByteArray) (list : List (Nat × Nat)) (hr : Rngs w A n list) (hk : k = 26 ∨ k = 27) (hm : fmay ⟨k, a, b, e, fin, data, more, list⟩ = true) : Calls Tryd.prog 18 #[fval A n c ⟨k, a, b, e, fin, data, more, list⟩] w (RWr w ⟨k, a, b, e, fin, data, more, list⟩) := by
  have hd := (fmay_parts hm).2.2.2.1
  simp only at hd
  have HMay := hide (fun w' (h : Rngs w' A n list) => rfmay_any w' A n c ⟨k, a, b, e, fin, data, more, list⟩ h)
  rw [hm] at HMay
  have HR := hide (hr.new ((Mod.refl [] w).alloc (.cells (fcs A n c ⟨k, a, b, e, fin, data, more, list⟩) 26)))
  have HBx := hide (Blk.new w 26 (fcs A n c ⟨k, a, b, e, fin, data, more, list⟩))
  have HN := hide hm
  have HP := hide (fun w n => rfput_any w n)
  obtain ⟨K, -, hK, hKs, hKl⟩ := putB k
  have HK := hide hK
  have hq : K.size + data.size ≤ 9223372036854775807 := by omega
  have HF : Hid (fbytes ⟨k, a, b, e, fin, data, more, list⟩ = (K ++ data).data.toList) := hide (by
    rw [ByteArray.data_append, Array.toList_append, hKl]
    rcases hk with rfl | rfl <;> simp [fbytes, fshape, fnums, ftail])
  clear hm hr hK hKl
  rcases hk with rfl | rfl
  all_goals
    unfold fval fcs at *
    simp only at *
    go_enter Tryd.func18, Tryd.ntmps18
    go_wp2_with fail
    refine (HMay.out _ HR.out).mono ?_
    rintro e0 w1 ⟨rfl, m1⟩
    have HM := hide (((Mod.refl [] w).alloc _).trans m1 (by simp))
    have HB := hide (m1.blk HBx.out (by simp))
    have HR1 := hide (HR.out.new m1)
    have hgl := HB.out.lt
    obtain ⟨p0, p1, p2, p3, p4, p5, p6, p7⟩ := c8 HB.out
    clear m1
    go_wp2_with fail
    refine (HP.out _ _).mono ?_
    rintro e0 w2 ⟨rfl, m2⟩
    rw [HK.out]
    have HM2 := hide (HM.out.trans m2 (by simp))
    have HB2 := hide (m2.blk HB.out (by simp))
    have hgl2 := HB2.out.lt
    clear m2 p0 p1 p2 p3 p4 p5 p6 p7 hgl
    obtain ⟨p0, p1, p2, p3, p4, p5, p6, p7⟩ := c8 HB2.out
    go_wp2_with fail
    go_ret2
    exact RWr.yes HN.out HF.out HM2.out

set_option maxRecDepth 100000 in
set_option maxHeartbeats 8000000 in
theorem rwr_8 (w : World) (A : Option Addr) (n c : Nat) (a b e : Nat) (fin : Bool) (data more : ByteArray) (list : List (Nat × Nat)) (hr : Rngs w A n list) (hm : fmay ⟨8, a, b, e, fin, data, more, list⟩ = true) : Calls Tryd.prog 18 #[fval A n c ⟨8, a, b, e, fin, data, more, list⟩] w (RWr w ⟨8, a, b, e, fin, data, more, list⟩) := by
  have hd := (fmay_parts hm).2.2.2.1
  simp only at hd
  have HMay := hide (fun w' (h : Rngs w' A n list) => rfmay_any w' A n c ⟨8, a, b, e, fin, data, more, list⟩ h)
  rw [hm] at HMay
  have HR := hide (hr.new ((Mod.refl [] w).alloc (.cells (fcs A n c ⟨8, a, b, e, fin, data, more, list⟩) 26)))
  have HBx := hide (Blk.new w 26 (fcs A n c ⟨8, a, b, e, fin, data, more, list⟩))
  have HN := hide hm
  have HP := hide (fun w n => rfput_any w n)
  have HT := hide (fun w => rftext_any w data (by omega))
  obtain ⟨K, -, hK, hKs, -⟩ := putB 8
  have HK := hide hK
  obtain ⟨A1, -, hA1, hAs, hAl⟩ := putB a
  have HA1 := hide hA1
  obtain ⟨B1, -, hB1, hBs, hBl⟩ := putB b
  have HB1 := hide hB1
  obtain ⟨T1, hT1, hTs, hTl⟩ := putB2 (vputS data.size ++ data.data.toList)
  have hTs2 : T1.size ≤ 16400 := by
    rw [hTs, List.length_append, bytes_len]
    have := vputS_le data.size
    omega
  rw [hT1] at HT
  have HTl := hide hTl
  have HAl := hide hAl
  have HBl := hide hBl
  clear hm hr hK hA1 hB1 hT1 hTs hTl hAl hBl
  by_cases hb0 : b = 0
  · subst hb0
    cases fin
    · obtain ⟨X1, -, hX1, hXs, hXl⟩ := putB 10
      have HX1 := hide hX1
      have HXl := hide hXl
      clear hX1 hXl
      have HF : Hid (fbytes ⟨8, a, 0, e, false, data, more, list⟩ = (X1 ++ A1 ++ (⟨#[]⟩ : ByteArray) ++ T1).data.toList) := hide (by
        simp only [ByteArray.data_append, Array.toList_append, HXl.out, HAl.out, HTl.out]
        simp [fbytes, fshape, fway, fstream, ftext])
      have q1 : X1.size + A1.size ≤ 9223372036854775807 := by omega
      have q2 : (X1 ++ A1).size + (⟨#[]⟩ : ByteArray).size ≤ 9223372036854775807 := by rw [ByteArray.size_append, show (⟨#[]⟩ : ByteArray).size = 0 from rfl]; omega
      have q3 : (X1 ++ A1 ++ (⟨#[]⟩ : ByteArray)).size + T1.size ≤ 9223372036854775807 := by rw [ByteArray.size_append, ByteArray.size_append, show (⟨#[]⟩ : ByteArray).size = 0 from rfl]; omega
      clear HXl HAl HBl HTl
      unfold fval fcs at *
      simp only at *
      go_enter Tryd.func18, Tryd.ntmps18
      go_wp2_with fail
      refine (HMay.out _ HR.out).mono ?_
      rintro e0 w1 ⟨rfl, m1⟩
      have HM := hide (((Mod.refl [] w).alloc _).trans m1 (by simp))
      have HB := hide (m1.blk HBx.out (by simp))
      have HR1 := hide (HR.out.new m1)
      have hgl := HB.out.lt
      obtain ⟨p0, p1, p2, p3, p4, p5, p6, p7⟩ := c8 HB.out
      clear m1
      go_wp2_with fail
      refine (HP.out _ 8).mono ?_
      rintro e0 w2 ⟨rfl, m2⟩
      rw [HK.out]
      have HM2 := hide (HM.out.trans m2 (by simp))
      have HB2 := hide (m2.blk HB.out (by simp))
      have hgl2 := HB2.out.lt
      clear m2 p0 p1 p2 p3 p4 p5 p6 p7 hgl
      obtain ⟨p0, p1, p2, p3, p4, p5, p6, p7⟩ := c8 HB2.out
      clear p0 p1 p2 p3 p4 p5 p6 p7 hgl2
      have hgl3 := HB2.out.lt
      obtain ⟨p0, p1, p2, p3, p4, p5, p6, p7⟩ := c8 HB2.out
      have u0 := cell_regrown p0
      have u1 := cell_regrown p1
      have u2 := cell_regrown p2
      have u3 := cell_regrown p3
      have u4 := cell_regrown p4
      have u5 := cell_regrown p5
      have u6 := cell_regrown p6
      have u7 := cell_regrown p7
      have cx : ∀ d os, Calls Tryd.prog 32 #[.int .u64 10] (grow (redrawn w2 d) os) fun e0 w'' => e0 = .returned (.string X1) ∧ ∃ p : Regrown, w'' = grow (redrawn w2 p.d) p.os := fun d os => Calls.regrown_of ((HP.out _ 10).mono fun _ _ h => ⟨by rw [h.1, HX1.out], h.2.below (Nat.le_refl _) (by simp)⟩)
      have ca : ∀ d os, Calls Tryd.prog 32 #[.int .u64 (a : Nat)] (grow (redrawn w2 d) os) fun e0 w'' => e0 = .returned (.string A1) ∧ ∃ p : Regrown, w'' = grow (redrawn w2 p.d) p.os := fun d os => Calls.regrown_of ((HP.out _ a).mono fun _ _ h => ⟨by rw [h.1, HA1.out], h.2.below (Nat.le_refl _) (by simp)⟩)
      have ct : ∀ d os, Calls Tryd.prog 34 #[.string data] (grow (redrawn w2 d) os) fun e0 w'' => e0 = .returned (.string T1) ∧ ∃ p : Regrown, w'' = grow (redrawn w2 p.d) p.os := fun d os => Calls.regrown_of ((HT.out _).mono fun _ _ h => ⟨h.1, h.2.below (Nat.le_refl _) (by simp)⟩)
      have CX := hide cx
      have CA := hide ca
      have CT := hide ct
      clear cx ca ct
      go_wp2_with fail
      refine wp_region_below (by kernel_rfl) (by kernel_rfl) (by kernel_rfl) ?_
      repeat (go_big_quiet_step (first | with_reducible exact CX.out _ _ | with_reducible exact CA.out _ _ | with_reducible exact CT.out _ _))
      refine wpQuiet_nil ?_
      intro _ hw'
      obtain ⟨⟨dq, osq⟩, hw''⟩ := hw'
      subst hw''
      have HMi := hide (HM2.out.trans (Mod.of_below (F := []) (below_regrown w2 dq osq)) (by simp))
      go_wp2_with fail
      go_ret2
      exact RWr.yes HN.out HF.out HMi.out
    · obtain ⟨X1, -, hX1, hXs, hXl⟩ := putB 11
      have HX1 := hide hX1
      have HXl := hide hXl
      clear hX1 hXl
      have HF : Hid (fbytes ⟨8, a, 0, e, true, data, more, list⟩ = (X1 ++ A1 ++ (⟨#[]⟩ : ByteArray) ++ T1).data.toList) := hide (by
        simp only [ByteArray.data_append, Array.toList_append, HXl.out, HAl.out, HTl.out]
        simp [fbytes, fshape, fway, fstream, ftext])
      have q1 : X1.size + A1.size ≤ 9223372036854775807 := by omega
      have q2 : (X1 ++ A1).size + (⟨#[]⟩ : ByteArray).size ≤ 9223372036854775807 := by rw [ByteArray.size_append, show (⟨#[]⟩ : ByteArray).size = 0 from rfl]; omega
      have q3 : (X1 ++ A1 ++ (⟨#[]⟩ : ByteArray)).size + T1.size ≤ 9223372036854775807 := by rw [ByteArray.size_append, ByteArray.size_append, show (⟨#[]⟩ : ByteArray).size = 0 from rfl]; omega
      clear HXl HAl HBl HTl
      unfold fval fcs at *
      simp only at *
      go_enter Tryd.func18, Tryd.ntmps18
      go_wp2_with fail
      refine (HMay.out _ HR.out).mono ?_
      rintro e0 w1 ⟨rfl, m1⟩
      have HM := hide (((Mod.refl [] w).alloc _).trans m1 (by simp))
      have HB := hide (m1.blk HBx.out (by simp))
      have HR1 := hide (HR.out.new m1)
      have hgl := HB.out.lt
      obtain ⟨p0, p1, p2, p3, p4, p5, p6, p7⟩ := c8 HB.out
      clear m1
      go_wp2_with fail
      refine (HP.out _ 8).mono ?_
      rintro e0 w2 ⟨rfl, m2⟩
      rw [HK.out]
      have HM2 := hide (HM.out.trans m2 (by simp))
      have HB2 := hide (m2.blk HB.out (by simp))
      have hgl2 := HB2.out.lt
      clear m2 p0 p1 p2 p3 p4 p5 p6 p7 hgl
      obtain ⟨p0, p1, p2, p3, p4, p5, p6, p7⟩ := c8 HB2.out
      clear p0 p1 p2 p3 p4 p5 p6 p7 hgl2
      have hgl3 := HB2.out.lt
      obtain ⟨p0, p1, p2, p3, p4, p5, p6, p7⟩ := c8 HB2.out
      have u0 := cell_regrown p0
      have u1 := cell_regrown p1
      have u2 := cell_regrown p2
      have u3 := cell_regrown p3
      have u4 := cell_regrown p4
      have u5 := cell_regrown p5
      have u6 := cell_regrown p6
      have u7 := cell_regrown p7
      have cx : ∀ d os, Calls Tryd.prog 32 #[.int .u64 11] (grow (redrawn w2 d) os) fun e0 w'' => e0 = .returned (.string X1) ∧ ∃ p : Regrown, w'' = grow (redrawn w2 p.d) p.os := fun d os => Calls.regrown_of ((HP.out _ 11).mono fun _ _ h => ⟨by rw [h.1, HX1.out], h.2.below (Nat.le_refl _) (by simp)⟩)
      have ca : ∀ d os, Calls Tryd.prog 32 #[.int .u64 (a : Nat)] (grow (redrawn w2 d) os) fun e0 w'' => e0 = .returned (.string A1) ∧ ∃ p : Regrown, w'' = grow (redrawn w2 p.d) p.os := fun d os => Calls.regrown_of ((HP.out _ a).mono fun _ _ h => ⟨by rw [h.1, HA1.out], h.2.below (Nat.le_refl _) (by simp)⟩)
      have ct : ∀ d os, Calls Tryd.prog 34 #[.string data] (grow (redrawn w2 d) os) fun e0 w'' => e0 = .returned (.string T1) ∧ ∃ p : Regrown, w'' = grow (redrawn w2 p.d) p.os := fun d os => Calls.regrown_of ((HT.out _).mono fun _ _ h => ⟨h.1, h.2.below (Nat.le_refl _) (by simp)⟩)
      have CX := hide cx
      have CA := hide ca
      have CT := hide ct
      clear cx ca ct
      go_wp2_with fail
      refine wp_region_below (by kernel_rfl) (by kernel_rfl) (by kernel_rfl) ?_
      repeat (go_big_quiet_step (first | with_reducible exact CX.out _ _ | with_reducible exact CA.out _ _ | with_reducible exact CT.out _ _))
      refine wpQuiet_nil ?_
      intro _ hw'
      obtain ⟨⟨dq, osq⟩, hw''⟩ := hw'
      subst hw''
      have HMi := hide (HM2.out.trans (Mod.of_below (F := []) (below_regrown w2 dq osq)) (by simp))
      go_wp2_with fail
      go_ret2
      exact RWr.yes HN.out HF.out HMi.out
  · cases fin
    · obtain ⟨X1, -, hX1, hXs, hXl⟩ := putB 14
      have HX1 := hide hX1
      have HXl := hide hXl
      clear hX1 hXl
      have HF : Hid (fbytes ⟨8, a, b, e, false, data, more, list⟩ = (X1 ++ A1 ++ B1 ++ T1).data.toList) := hide (by
        simp only [ByteArray.data_append, Array.toList_append, HXl.out, HAl.out, HBl.out, HTl.out]
        simp [fbytes, fshape, fway, fstream, ftext, hb0])
      have q1 : X1.size + A1.size ≤ 9223372036854775807 := by omega
      have q2 : (X1 ++ A1).size + B1.size ≤ 9223372036854775807 := by rw [ByteArray.size_append]; omega
      have q3 : (X1 ++ A1 ++ B1).size + T1.size ≤ 9223372036854775807 := by rw [ByteArray.size_append, ByteArray.size_append]; omega
      have b1 : decide ((0 : Int) < b) = true := decide_eq_true (by omega)
      have b2 : decide (0 < b) = true := decide_eq_true (by omega)
      clear HXl HAl HBl HTl hb0
      unfold fval fcs at *
      simp only at *
      go_enter Tryd.func18, Tryd.ntmps18
      go_wp2_with fail
      refine (HMay.out _ HR.out).mono ?_
      rintro e0 w1 ⟨rfl, m1⟩
      have HM := hide (((Mod.refl [] w).alloc _).trans m1 (by simp))
      have HB := hide (m1.blk HBx.out (by simp))
      have HR1 := hide (HR.out.new m1)
      have hgl := HB.out.lt
      obtain ⟨p0, p1, p2, p3, p4, p5, p6, p7⟩ := c8 HB.out
      clear m1
      go_wp2_with fail
      refine (HP.out _ 8).mono ?_
      rintro e0 w2 ⟨rfl, m2⟩
      rw [HK.out]
      have HM2 := hide (HM.out.trans m2 (by simp))
      have HB2 := hide (m2.blk HB.out (by simp))
      have hgl2 := HB2.out.lt
      clear m2 p0 p1 p2 p3 p4 p5 p6 p7 hgl
      obtain ⟨p0, p1, p2, p3, p4, p5, p6, p7⟩ := c8 HB2.out
      go_wp2_with fail
      refine (HP.out _ b).mono ?_
      rintro e0 w3 ⟨rfl, m3⟩
      rw [HB1.out]
      have HM3 := hide (HM2.out.trans m3 (by simp))
      have HB3 := hide (m3.blk HB2.out (by simp))
      clear m3 p0 p1 p2 p3 p4 p5 p6 p7 hgl2
      have hgl3 := HB3.out.lt
      obtain ⟨p0, p1, p2, p3, p4, p5, p6, p7⟩ := c8 HB3.out
      have u0 := cell_regrown p0
      have u1 := cell_regrown p1
      have u2 := cell_regrown p2
      have u3 := cell_regrown p3
      have u4 := cell_regrown p4
      have u5 := cell_regrown p5
      have u6 := cell_regrown p6
      have u7 := cell_regrown p7
      have cx : ∀ d os, Calls Tryd.prog 32 #[.int .u64 14] (grow (redrawn w3 d) os) fun e0 w'' => e0 = .returned (.string X1) ∧ ∃ p : Regrown, w'' = grow (redrawn w3 p.d) p.os := fun d os => Calls.regrown_of ((HP.out _ 14).mono fun _ _ h => ⟨by rw [h.1, HX1.out], h.2.below (Nat.le_refl _) (by simp)⟩)
      have ca : ∀ d os, Calls Tryd.prog 32 #[.int .u64 (a : Nat)] (grow (redrawn w3 d) os) fun e0 w'' => e0 = .returned (.string A1) ∧ ∃ p : Regrown, w'' = grow (redrawn w3 p.d) p.os := fun d os => Calls.regrown_of ((HP.out _ a).mono fun _ _ h => ⟨by rw [h.1, HA1.out], h.2.below (Nat.le_refl _) (by simp)⟩)
      have ct : ∀ d os, Calls Tryd.prog 34 #[.string data] (grow (redrawn w3 d) os) fun e0 w'' => e0 = .returned (.string T1) ∧ ∃ p : Regrown, w'' = grow (redrawn w3 p.d) p.os := fun d os => Calls.regrown_of ((HT.out _).mono fun _ _ h => ⟨h.1, h.2.below (Nat.le_refl _) (by simp)⟩)
      have CX := hide cx
      have CA := hide ca
      have CT := hide ct
      clear cx ca ct
      go_wp2_with fail
      refine wp_region_below (by kernel_rfl) (by kernel_rfl) (by kernel_rfl) ?_
      repeat (go_big_quiet_step (first | with_reducible exact CX.out _ _ | with_reducible exact CA.out _ _ | with_reducible exact CT.out _ _))
      refine wpQuiet_nil ?_
      intro _ hw'
      obtain ⟨⟨dq, osq⟩, hw''⟩ := hw'
      subst hw''
      have HMi := hide (HM3.out.trans (Mod.of_below (F := []) (below_regrown w3 dq osq)) (by simp))
      go_wp2_with fail
      go_ret2
      exact RWr.yes HN.out HF.out HMi.out
    · obtain ⟨X1, -, hX1, hXs, hXl⟩ := putB 15
      have HX1 := hide hX1
      have HXl := hide hXl
      clear hX1 hXl
      have HF : Hid (fbytes ⟨8, a, b, e, true, data, more, list⟩ = (X1 ++ A1 ++ B1 ++ T1).data.toList) := hide (by
        simp only [ByteArray.data_append, Array.toList_append, HXl.out, HAl.out, HBl.out, HTl.out]
        simp [fbytes, fshape, fway, fstream, ftext, hb0])
      have q1 : X1.size + A1.size ≤ 9223372036854775807 := by omega
      have q2 : (X1 ++ A1).size + B1.size ≤ 9223372036854775807 := by rw [ByteArray.size_append]; omega
      have q3 : (X1 ++ A1 ++ B1).size + T1.size ≤ 9223372036854775807 := by rw [ByteArray.size_append, ByteArray.size_append]; omega
      have b1 : decide ((0 : Int) < b) = true := decide_eq_true (by omega)
      have b2 : decide (0 < b) = true := decide_eq_true (by omega)
      clear HXl HAl HBl HTl hb0
      unfold fval fcs at *
      simp only at *
      go_enter Tryd.func18, Tryd.ntmps18
      go_wp2_with fail
      refine (HMay.out _ HR.out).mono ?_
      rintro e0 w1 ⟨rfl, m1⟩
      have HM := hide (((Mod.refl [] w).alloc _).trans m1 (by simp))
      have HB := hide (m1.blk HBx.out (by simp))
      have HR1 := hide (HR.out.new m1)
      have hgl := HB.out.lt
      obtain ⟨p0, p1, p2, p3, p4, p5, p6, p7⟩ := c8 HB.out
      clear m1
      go_wp2_with fail
      refine (HP.out _ 8).mono ?_
      rintro e0 w2 ⟨rfl, m2⟩
      rw [HK.out]
      have HM2 := hide (HM.out.trans m2 (by simp))
      have HB2 := hide (m2.blk HB.out (by simp))
      have hgl2 := HB2.out.lt
      clear m2 p0 p1 p2 p3 p4 p5 p6 p7 hgl
      obtain ⟨p0, p1, p2, p3, p4, p5, p6, p7⟩ := c8 HB2.out
      go_wp2_with fail
      refine (HP.out _ b).mono ?_
      rintro e0 w3 ⟨rfl, m3⟩
      rw [HB1.out]
      have HM3 := hide (HM2.out.trans m3 (by simp))
      have HB3 := hide (m3.blk HB2.out (by simp))
      clear m3 p0 p1 p2 p3 p4 p5 p6 p7 hgl2
      have hgl3 := HB3.out.lt
      obtain ⟨p0, p1, p2, p3, p4, p5, p6, p7⟩ := c8 HB3.out
      have u0 := cell_regrown p0
      have u1 := cell_regrown p1
      have u2 := cell_regrown p2
      have u3 := cell_regrown p3
      have u4 := cell_regrown p4
      have u5 := cell_regrown p5
      have u6 := cell_regrown p6
      have u7 := cell_regrown p7
      have cx : ∀ d os, Calls Tryd.prog 32 #[.int .u64 15] (grow (redrawn w3 d) os) fun e0 w'' => e0 = .returned (.string X1) ∧ ∃ p : Regrown, w'' = grow (redrawn w3 p.d) p.os := fun d os => Calls.regrown_of ((HP.out _ 15).mono fun _ _ h => ⟨by rw [h.1, HX1.out], h.2.below (Nat.le_refl _) (by simp)⟩)
      have ca : ∀ d os, Calls Tryd.prog 32 #[.int .u64 (a : Nat)] (grow (redrawn w3 d) os) fun e0 w'' => e0 = .returned (.string A1) ∧ ∃ p : Regrown, w'' = grow (redrawn w3 p.d) p.os := fun d os => Calls.regrown_of ((HP.out _ a).mono fun _ _ h => ⟨by rw [h.1, HA1.out], h.2.below (Nat.le_refl _) (by simp)⟩)
      have ct : ∀ d os, Calls Tryd.prog 34 #[.string data] (grow (redrawn w3 d) os) fun e0 w'' => e0 = .returned (.string T1) ∧ ∃ p : Regrown, w'' = grow (redrawn w3 p.d) p.os := fun d os => Calls.regrown_of ((HT.out _).mono fun _ _ h => ⟨h.1, h.2.below (Nat.le_refl _) (by simp)⟩)
      have CX := hide cx
      have CA := hide ca
      have CT := hide ct
      clear cx ca ct
      go_wp2_with fail
      refine wp_region_below (by kernel_rfl) (by kernel_rfl) (by kernel_rfl) ?_
      repeat (go_big_quiet_step (first | with_reducible exact CX.out _ _ | with_reducible exact CA.out _ _ | with_reducible exact CT.out _ _))
      refine wpQuiet_nil ?_
      intro _ hw'
      obtain ⟨⟨dq, osq⟩, hw''⟩ := hw'
      subst hw''
      have HMi := hide (HM3.out.trans (Mod.of_below (F := []) (below_regrown w3 dq osq)) (by simp))
      go_wp2_with fail
      go_ret2
      exact RWr.yes HN.out HF.out HMi.out

set_option maxRecDepth 100000 in
set_option maxHeartbeats 8000000 in
theorem rwr_s (w : World) (A : Option Addr) (n c : Nat) (k a b e : Nat) (fin : Bool) (data more : ByteArray) (list : List (Nat × Nat)) (hr : Rngs w A n list) (s : Shp) (hs : fshape k = some s) (hx : s.x = 0) (hm : fmay ⟨k, a, b, e, fin, data, more, list⟩ = true) : Calls Tryd.prog 18 #[fval A n c ⟨k, a, b, e, fin, data, more, list⟩] w (RWr w ⟨k, a, b, e, fin, data, more, list⟩) := by
  have hd := (fmay_parts hm).2.2.2.1
  simp only at hd
  obtain ⟨f1, _, f3, f4, f5, f6, f7, f8, _, f10⟩ := fshape_facts hs
  have hk26 : k ≠ 26 ∧ k ≠ 27 := by
    cases ht : s.t with
    | true => exact (f8 ht).2.2
    | false => exact (f10 ht hx).2
  have hdt : fdata k = s.t := by
    cases ht : s.t with
    | true => exact (f8 ht).2.1
    | false => exact (f10 ht hx).1
  have hn3 := (fshape_lt hs).2.1
  obtain ⟨m, hmn⟩ : ∃ m, s.n = m := ⟨_, rfl⟩
  rw [hmn] at hn3
  have HMay := hide (fun w' (h : Rngs w' A n list) => rfmay_any w' A n c ⟨k, a, b, e, fin, data, more, list⟩ h)
  rw [hm] at HMay
  have HR := hide (hr.new ((Mod.refl [] w).alloc (.cells (fcs A n c ⟨k, a, b, e, fin, data, more, list⟩) 26)))
  have HBx := hide (Blk.new w 26 (fcs A n c ⟨k, a, b, e, fin, data, more, list⟩))
  have HN := hide hm
  have HP := hide (fun w n => rfput_any w n)
  have HT := hide (fun w => rftext_any w data (by omega))
  have HNum := hide (fun w => rnumbers_any w k)
  rw [show fnumI k = (m : Nat) by unfold fnumI; rw [f1, hmn]] at HNum
  have HDat := hide (fun w => rdata_any w k)
  rw [hdt] at HDat
  obtain ⟨K, -, hK, hKs, hKl⟩ := putB k
  have HK := hide hK
  obtain ⟨T1, hT1, hTs, hTl⟩ := putB2 (vputS data.size ++ data.data.toList)
  have hTs2 : T1.size ≤ 16400 := by
    rw [hTs, List.length_append, bytes_len]
    have := vputS_le data.size
    omega
  rw [hT1] at HT
  have HF : Hid (fbytes ⟨k, a, b, e, fin, data, more, list⟩ = K.data.toList ++ (fnums m ⟨k, a, b, e, fin, data, more, list⟩ ++ (if s.t then T1.data.toList else []))) := hide (by
    unfold fbytes
    simp only
    rw [hs]
    simp only
    rw [hKl, hTl, hmn]
    unfold ftail ftext
    rw [hx]
    simp)
  have b0 : ((k : Int) == 0) = false := by simp; omega
  have b2 : ((k : Int) == 2) = false := by simp; omega
  have b3 : ((k : Int) == 3) = false := by simp; omega
  have b8 : ((k : Int) == 8) = false := by simp; omega
  have b24 : ((k : Int) == 24) = false := by simp; omega
  have b26 : ((k : Int) == 26) = false := by simp; omega
  have b27 : ((k : Int) == 27) = false := by simp; omega
  obtain ⟨t, ht⟩ : ∃ t, s.t = t := ⟨_, rfl⟩
  rw [ht] at HF HDat
  clear hm hr hK hKl hT1 hTs hTl f1 f3 f4 f5 f6 f7 f8 f10 hdt hk26 hs hx hmn ht
  unfold fval fcs at *
  simp only at *
  go_enter Tryd.func18, Tryd.ntmps18
  go_wp2_with fail
  refine (HMay.out _ HR.out).mono ?_
  rintro e0 w1 ⟨rfl, m1⟩
  have HM := hide (((Mod.refl [] w).alloc _).trans m1 (by simp))
  have HB := hide (m1.blk HBx.out (by simp))
  have HR1 := hide (HR.out.new m1)
  have hgl := HB.out.lt
  obtain ⟨p0, p1, p2, p3, p4, p5, p6, p7⟩ := c8 HB.out
  clear m1
  go_wp2_with fail
  refine (HP.out _ k).mono ?_
  rintro e0 w2 ⟨rfl, m2⟩
  rw [HK.out]
  have HM2 := hide (HM.out.trans m2 (by simp))
  have HB2 := hide (m2.blk HB.out (by simp))
  have hgl2 := HB2.out.lt
  clear m2 p0 p1 p2 p3 p4 p5 p6 p7 hgl
  obtain ⟨p0, p1, p2, p3, p4, p5, p6, p7⟩ := c8 HB2.out
  go_wp2_with fail
  obtain ⟨g2, hg2⟩ : ∃ g2, w2.heap.size = g2 := ⟨_, rfl⟩
  obtain ⟨W3, hW3⟩ : ∃ W3, w2.alloc (.cells #[.int .u64 (a : Nat), .int .u64 (b : Nat), .int .u64 (e : Nat)] 23) = W3 := ⟨_, rfl⟩
  have HB3 := hide (HB2.out.alloc (.cells #[.int .u64 (a : Nat), .int .u64 (b : Nat), .int .u64 (e : Nat)] 23))
  have HL := hide (Blk.new w2 23 #[.int .u64 (a : Nat), .int .u64 (b : Nat), .int .u64 (e : Nat)])
  have HM3 := hide (HM2.out.alloc (.cells #[.int .u64 (a : Nat), .int .u64 (b : Nat), .int .u64 (e : Nat)] 23))
  rw [hg2] at HL
  rw [hg2, hW3]
  rw [hW3] at HB3 HL HM3
  clear hW3 hg2 p0 p1 p2 p3 p4 p5 p6 p7 hgl2
  go_loopw [4, 9] (fun ov iv wr => ∃ (j : Nat) (O : ByteArray), j ≤ m ∧ iv = .int .i64 (j : Int) ∧ ov = .string O ∧ Hid (O.data.toList = K.data.toList ++ fnums j ⟨k, a, b, e, fin, data, more, list⟩) ∧ O.size ≤ 8 + 8 * j ∧ Mod [] W3 wr) (fun _ iv _ => m - (intOf iv).toNat)
  case atStart => exact ⟨0, K, by omega, rfl, rfl, hide (by simp [fnums]), by omega, Mod.refl _ _⟩
  case round =>
    obtain ⟨j, O, hj, rfl, rfl, hO, hOs, hm⟩ := hrel
    have HMw := hide hm
    have hb3 := hm.blk HB3.out (by simp)
    have hl3 := hm.blk HL.out (by simp)
    have hgl := hb3.lt
    have hgl2 := hl3.lt
    obtain ⟨p0, p1, p2, p3, p4, p5, p6, p7⟩ := c8 hb3
    clear hm hb3
    by_cases h : j < m
    · obtain ⟨x, hx, hxs⟩ : ∃ x : Nat, wr.cell? ⟨g2, j, none⟩ = some (.int .u64 (x : Nat)) ∧ fnums (j + 1) ⟨k, a, b, e, fin, data, more, list⟩ = fnums j ⟨k, a, b, e, fin, data, more, list⟩ ++ vputS x := by
        have : j = 0 ∨ j = 1 ∨ j = 2 := by omega
        rcases this with rfl | rfl | rfl
        · exact ⟨a, hl3.cell 0, by simp [fnums]⟩
        · exact ⟨b, hl3.cell 1, by simp [fnums]⟩
        · exact ⟨e, hl3.cell 2, by simp [fnums]⟩
      obtain ⟨X, -, hX, hXs, hXl⟩ := putB x
      have HX := hide hX
      have HO2 : Hid ((O ++ X).data.toList = K.data.toList ++ fnums (j + 1) ⟨k, a, b, e, fin, data, more, list⟩) := hide (by
        rw [ByteArray.data_append, Array.toList_append, hO.out, hXl, hxs, List.append_assoc])
      have HS2 : Hid ((O ++ X).size ≤ 8 + 8 * (j + 1)) := hide (by simp; omega)
      have hq : O.size + X.size ≤ 9223372036854775807 := by omega
      have hlt : decide (j < m) = true := decide_eq_true h
      have h3 : j < 3 := by omega
      have h3i : (j : Int) < 3 := by omega
      clear hl3 hX hXl hxs hO
      go_wp2_with fail
      refine (HNum.out _).mono ?_
      rintro e0 w4 ⟨rfl, rfl⟩
      go_wp2_with fail
      refine (HP.out _ x).mono ?_
      rintro e0 w5 ⟨rfl, m5⟩
      rw [HX.out]
      have HM5 := hide (HMw.out.trans m5 (by simp))
      clear m5 p0 p1 p2 p3 p4 p5 p6 p7 hx hgl hgl2
      go_wp2_with fail
      go_roundw
      case rel => exact ⟨j + 1, O ++ X, by omega, by go_num, by trivial, HO2, HS2.out, HM5.out⟩
      case measure => simp [intOf]; omega
    · obtain rfl : j = m := by omega
      have hlt : decide (j < j) = false := decide_eq_false (Nat.lt_irrefl _)
      clear hl3 h
      go_wp2_with fail
      refine (HNum.out _).mono ?_
      rintro e0 w4 ⟨rfl, rfl⟩
      go_wp2_with fail
      refine (HDat.out _).mono ?_
      rintro e0 w4 ⟨rfl, rfl⟩
      cases t
      · have HF2 : Hid (fbytes ⟨k, a, b, e, fin, data, more, list⟩ = O.data.toList) := hide (by rw [HF.out, hO.out]; simp)
        clear hO
        go_wp2_with fail
        go_ret2
        exact RWr.yes HN.out HF2.out (HM3.out.trans HMw.out (by simp))
      · have HF2 : Hid (fbytes ⟨k, a, b, e, fin, data, more, list⟩ = (O ++ T1).data.toList) := hide (by rw [HF.out, ByteArray.data_append, Array.toList_append, hO.out]; simp)
        have hq : O.size + T1.size ≤ 9223372036854775807 := by omega
        clear hO
        go_wp2_with fail
        refine (HT.out _).mono ?_
        rintro e0 w5 ⟨rfl, m5⟩
        have HM5 := hide (HMw.out.trans m5 (by simp))
        clear m5 p0 p1 p2 p3 p4 p5 p6 p7 hgl hgl2
        go_wp2_with fail
        go_ret2
        exact RWr.yes HN.out HF2.out (HM3.out.trans HM5.out (by simp))
end Go.Proofs.YtbjmcnmcodbkdaaDoor
