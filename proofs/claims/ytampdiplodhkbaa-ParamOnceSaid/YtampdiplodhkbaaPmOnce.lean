/-
  ParamOnce: the walk: no parameter stands twice.
-/
import Derived.Test.YtampdiplodhkbaaPmTake
namespace Go.Proofs.Ytampdiplodhkbaa
open Go.RowKit

set_option maxRecDepth 100000 in
set_option maxHeartbeats 8000000 in
theorem walkParamOnce (p : PP) (a : Nat) (ha : a ≤ 255) (W : World) (hok : p.OK) (hstd : p.Std) :
    Calls Try.prog 7 #[pval p, .int .u8 a] W fun e w' => e = .returned (.bool true) ∧ Below W.heap.size W w' := by
  have hb0 : Blk (W.alloc (.cells (pcells p) 25)) W.heap.size 25 (pcells p) := Blk.new _ _ _
  have hm0 : Mod [] W (W.alloc (.cells (pcells p) 25)) := (Mod.refl _ _).alloc _
  obtain ⟨w0, hw0⟩ : ∃ w0, W.alloc (.cells (pcells p) 25) = w0 := ⟨_, rfl⟩
  rw [hw0] at hb0 hm0
  have HB0 := hide hb0
  have hss := hok.s
  have HW0 := hide hw0
  have HStd := hide hstd
  clear hok hb0 hw0 hstd
  unfold pval pcells at *
  go_enter Try.func7, Try.ntmps7
  go_wp2_with fail
  have hw0 := HW0.out
  unfold pcells at hw0
  rw [hw0]
  refine (awake_any _).mono ?_
  rintro e w1 ⟨rfl, m1⟩
  have hb := m1.blk HB0.out (by simp)
  have hm := hm0.trans m1 (by simp)
  have hpl := hb.lt
  have HB := hide hb
  clear hw0 HW0 HB0 m1 hm0 hb
  have s12 : w1.cell? ⟨W.heap.size, 12, none⟩ = some (.string p.src) := HB.out.cell 12
  by_cases hbig : 1024 < p.src.size
  · have HM := hide hm
    clear hm
    go_wp2_with fail
    go_ret
    exact ⟨rfl, HM.out.below (Nat.le_refl _) (by simp)⟩
  have hsw := hide (show p.src.size ≤ 65536 by omega)
  have c0 : w1.cell? ⟨W.heap.size, 0, none⟩ = some (.int .u64 (p.N 1 : Nat)) := HB.out.cell 0
  have c1 : w1.cell? ⟨W.heap.size, 1, none⟩ = some (.int .u64 (p.N 3 : Nat)) := HB.out.cell 1
  have c2 : w1.cell? ⟨W.heap.size, 2, none⟩ = some (.int .u64 (p.N 4 : Nat)) := HB.out.cell 2
  have c3 : w1.cell? ⟨W.heap.size, 3, none⟩ = some (.int .u64 (p.N 5 : Nat)) := HB.out.cell 3
  have c4 : w1.cell? ⟨W.heap.size, 4, none⟩ = some (.int .u64 (p.N 6 : Nat)) := HB.out.cell 4
  have c5 : w1.cell? ⟨W.heap.size, 5, none⟩ = some (.int .u64 (p.N 7 : Nat)) := HB.out.cell 5
  have c6 : w1.cell? ⟨W.heap.size, 6, none⟩ = some (.int .u64 (p.N 8 : Nat)) := HB.out.cell 6
  have c7 : w1.cell? ⟨W.heap.size, 7, none⟩ = some (.int .u64 (p.N 9 : Nat)) := HB.out.cell 7
  have c8 : w1.cell? ⟨W.heap.size, 8, none⟩ = some (.int .u64 (p.N 10 : Nat)) := HB.out.cell 8
  have c9 : w1.cell? ⟨W.heap.size, 9, none⟩ = some (.int .u64 (p.N 11 : Nat)) := HB.out.cell 9
  have c10 : w1.cell? ⟨W.heap.size, 10, none⟩ = some (.int .u64 (p.N 14 : Nat)) := HB.out.cell 10
  have c11 : w1.cell? ⟨W.heap.size, 11, none⟩ = some (.bool p.mig) := HB.out.cell 11
  have c12 : w1.cell? ⟨W.heap.size, 12, none⟩ = some (.string p.src) := HB.out.cell 12
  clear s12
  go_wp2_with fail
  refine (write_any w1 p hsw.out).mono ?_
  clear c0 c1 c2 c3 c4 c5 c6 c7 c8 c9 c10 c11 c12
  rintro e w2 h2
  have hm2 : Mod [] w1 w2 := h2.1
  replace hm := hm.trans hm2 (by simp)
  have hb2 := hm2.blk HB.out (by simp)
  replace hpl := hb2.lt
  clear HB
  have HB := hide hb2
  clear hb2 hm2
  cases hmy : may p
  · obtain ⟨rfl, _⟩ := ww_no hmy h2
    have HM := hide hm
    clear hmy hm h2
    go_wp2_with fail
    go_ret
    exact ⟨rfl, HM.out.below (Nat.le_refl _) (by simp)⟩
  obtain ⟨rfl, _⟩ := ww_yes hmy h2
  obtain ⟨S, hS⟩ : ∃ S : ByteArray, S = ⟨(pwrite p).toArray⟩ := ⟨_, rfl⟩
  have hsS : str (pwrite p) = .string S := by rw [hS]; rfl
  have hSd : S.data.toList = flat (ilist p) := by rw [hS, ← pwrite_flat]
  have hSz : S.size ≤ 20000 := by rw [hS]; exact pwrite_le (p := p) (by omega)
  have hsm := ilist_small (p := p) (by omega)
  have hit : pitems S.data.toList = some (ilist p) := by rw [hSd, pitems_flat' _ hsm]
  rw [hsS]
  have hids := hide (ids_any w2 S (by omega))
  have HIt := hide hit
  have Hmy := hide hmy
  have HSd := hide hSd
  have HSm := hide hsm
  clear h2 hmy hS hsS hSd hit hsm
  go_wp2_with fail
  refine hids.out.mono ?_
  rintro e w3 ⟨m3, h3⟩
  obtain ⟨A, c, rfl, _, _⟩ := ids_some HIt.out h3
  replace hm := hm.trans m3 (by simp)
  have hb3 := m3.blk HB.out (by simp)
  have hpos := ilist_pos p
  have hle16 := ilist_le p
  obtain ⟨m, hmd⟩ : ∃ m, a % (ilist p).length = m := ⟨_, rfl⟩
  have hml : m < (ilist p).length := by rw [← hmd]; exact Nat.mod_lt _ hpos
  have hnone := once_none (p := p) (by omega) hml
  obtain ⟨l, hl⟩ : ∃ l, ilist p = l := ⟨_, rfl⟩
  rw [hl] at hpos hle16 hmd hml HSd HSm
  have hnone2 : pread (flat l ++ flat [l[m]]) = none := by
    rw [← hnone]
    simp only [hl]
  rw [hl]
  obtain ⟨n, hn⟩ : ∃ n, l.length = n := ⟨_, rfl⟩
  rw [hn] at hpos hle16 hmd ⊢
  have hmn : m < n := by omega
  have hmod : (a : Int) % (n : Int) = (m : Int) := by rw [← hmd]; exact (Int.natCast_emod a n).symm
  have hn0 : ((n : Int) == 0) = false := by simp; omega
  have HN := hide hn
  have HMod := hide hmod
  have HNone := hide hnone2
  have HM := hide hm
  clear h3 m3 hnone hnone2 hl hn hmd hids HIt hm hb3 HB hmod HStd Hmy hsw
  go_wp2_with fail
  have hmod := HMod.out
  go_loopw [9, 10, 11] (fun sv ov iv wr => ∃ (j : Nat) (R O : ByteArray), j ≤ m + 1 ∧ iv = .int .i64 (j : Int) ∧ sv = .string R ∧ ov = .string O ∧ R.data.toList = flat (l.drop j) ∧ O.data.toList = flat ((l.take j).drop (j - 1)) ∧ R.size ≤ 20000 ∧ Mod [] W wr) (fun _ _ iv _ => m + 1 - (intOf iv).toNat)
  case atStart => exact ⟨0, S, ⟨#[]⟩, by omega, rfl, rfl, rfl, HSd.out, by simp [flat], by omega, HM.out⟩
  case round =>
    clear HM
    obtain ⟨j, R, O, hj, rfl, rfl, rfl, hR, hO, hRs, hm⟩ := hrel
    by_cases h : j ≤ m
    · have hjl : j < l.length := by omega
      obtain ⟨X, Y, T, O2, t1, t2, sY, sR, eT, dT, eO, dO, hv1, hv2⟩ := step_take HSm.out hjl hR
      have hnext : (l.take (j + 1)).drop (j + 1 - 1) = [l[j]] := by
        rw [← List.take_append_getElem hjl, Nat.add_sub_cancel, List.drop_append, List.drop_of_length_le (by rw [List.length_take]; omega), List.length_take, Nat.min_eq_left (by omega)]
        simp
      rw [← hnext] at dO
      obtain ⟨id, hid⟩ : ∃ id, l[j].1 = id := ⟨_, rfl⟩
      obtain ⟨vn, hvn⟩ : ∃ vn, l[j].2.length = vn := ⟨_, rfl⟩
      rw [hid] at t1 hv2
      rw [hvn] at t2 sY eT hv1
      have T1 := hide (fun w => rtake_str (w := w) t1)
      have T2 := hide (fun w => rtake_str (w := w) t2)
      have hh : (j : Int) ≤ m := by omega
      have ecut : (R.size : Int) - (Y.size : Int) + vn = (O2.size : Int) := by omega
      have hwn : IntKind.i64.wrap (vn : Int) = vn := IntWalk.i64_in _ (by omega)
      have ET := hide eT
      have EO := hide eO
      have DT := hide dT
      have DO := hide dO
      have SR := hide sR
      have SY := hide sY
      have hYs : Y.size ≤ 20000 := by omega
      have hvY : vn ≤ Y.size := by omega
      have hOR : O2.size ≤ R.size := by omega
      have hYR : Y.size ≤ R.size := by omega
      clear t1 t2 eT eO dT dO hid hvn hnext sR sY hR hO hjl
      go_wp2_with fail
      refine (T1.out _).mono ?_
      rintro e w5 ⟨rfl, m5⟩
      go_wp2_with fail
      refine (T2.out _).mono ?_
      rintro e w6 ⟨rfl, m6⟩
      have HM6 := hide ((hm.trans m5 (by simp)).trans m6 (by simp))
      clear m5 m6 hm T1 T2
      go_wp2_with fail
      rw [ET.out, EO.out]
      go_roundw
      case rel => exact ⟨j + 1, T, O2, by omega, by go_num, by trivial, by trivial, DT.out, DO.out, by have := SR.out; omega, HM6.out⟩
      case measure => simp [intOf]; omega
    · have hjm : j = m + 1 := by omega
      subst hjm
      have hml2 : m < l.length := hml
      have hlast : (l.take (m + 1)).drop (m + 1 - 1) = [l[m]] := by
        rw [← List.take_append_getElem hml, Nat.add_sub_cancel, List.drop_append, List.drop_of_length_le (by rw [List.length_take]; omega), List.length_take, Nat.min_eq_left (by omega)]
        simp
      rw [hlast] at hO
      have hcat : (S ++ O).data.toList = flat l ++ flat [l[m]] := by
        simp [HSd.out, hO]
      have hOs : O.size ≤ 20000 := by
        rw [← bytes_len, hO]
        have h1 := congrArg List.length HSd.out
        rw [bytes_len] at h1
        have h2 : (flat l).length = (flat (l.take m)).length + ((flat [l[m]]).length + (flat (l.drop (m + 1))).length) := by
          rw [← List.length_append, ← List.length_append, ← flat_append, ← flat_append]
          congr 2
          rw [List.singleton_append, ← List.drop_eq_getElem_cons hml, List.take_append_drop]
        omega
      have hsum : S.size + O.size ≤ 9223372036854775807 := by omega
      have hcs : (S ++ O).size ≤ 65536 := by simp; omega
      have HRd := hide (show pread (S ++ O).data.toList = none by rw [hcat]; exact HNone.out)
      obtain ⟨Z, hZ⟩ : ∃ Z, S ++ O = Z := ⟨_, rfl⟩
      rw [hZ] at hcs HRd
      have HZ := hide hZ
      have HC := hide (read_any wr Z hcs)
      have hh : ¬ ((m + 1 : Nat) : Int) ≤ m := by omega
      clear hlast hO hR hcat hZ
      go_wp2_with fail
      rw [HZ.out]
      refine HC.out.mono ?_
      rintro e w5 h5
      obtain ⟨rfl, m5⟩ := wr_none HRd.out h5
      rw [pz_val]
      have HM5 := hide (hm.trans m5 (by simp))
      clear h5 m5 hm
      go_wp2_with fail
      go_ret
      exact ⟨rfl, (HM5.out.alloc _).below (Nat.le_refl _) (by simp)⟩
end Go.Proofs.Ytampdiplodhkbaa
