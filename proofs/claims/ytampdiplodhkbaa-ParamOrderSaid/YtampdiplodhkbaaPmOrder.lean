/-
  ParamOrder: the walk: in which order parameters stand doesn't matter, nor what isn't known.
-/
import Derived.Test.YtampdiplodhkbaaPmTake
namespace Go.Proofs.Ytampdiplodhkbaa
open Go.RowKit

set_option maxRecDepth 100000 in
set_option maxHeartbeats 8000000 in
theorem walkParamOrder (p : PP) (a : Nat) (ha : a ≤ 255) (id : Nat) (hid : id ≤ 18446744073709551615) (v : ByteArray) (hvs : v.size ≤ 9223372036854775807) (W : World) (hok : p.OK) (hstd : p.Std) :
    Calls Try.prog 6 #[pval p, .int .u8 a, .int .u64 id, .string v] W fun e w' => e = .returned (.bool true) ∧ Below W.heap.size W w' := by
  have hb0 : Blk (W.alloc (.cells (pcells p) 25)) W.heap.size 25 (pcells p) := Blk.new _ _ _
  have hm0 : Mod [] W (W.alloc (.cells (pcells p) 25)) := (Mod.refl _ _).alloc _
  obtain ⟨w0, hw0⟩ : ∃ w0, W.alloc (.cells (pcells p) 25) = w0 := ⟨_, rfl⟩
  rw [hw0] at hb0 hm0
  have HB0 := hide hb0
  have hss := hok.s
  have HW0 := hide hw0
  have HStd := hide hstd
  clear hok hb0 hw0 hstd
  unfold pval pcells at *
  go_enter Try.func6, Try.ntmps6
  go_wp2_with fail
  have hw0 := HW0.out
  unfold pcells at hw0
  rw [hw0]
  refine (awake_any _).mono ?_
  rintro e w1 ⟨rfl, m1⟩
  have hb := m1.blk HB0.out (by simp)
  have hm := hm0.trans m1 (by simp)
  have hpl := hb.lt
  have HB := hide hb
  clear hw0 HW0 HB0 m1 hm0 hb
  have s12 : w1.cell? ⟨W.heap.size, 12, none⟩ = some (.string p.src) := HB.out.cell 12
  by_cases hbig : 1024 < p.src.size
  · have HM := hide hm
    clear hm
    go_wp2_with fail
    go_ret
    exact ⟨rfl, HM.out.below (Nat.le_refl _) (by simp)⟩
  by_cases hbig : 1024 < v.size
  · have HM := hide hm
    clear hm
    go_wp2_with fail
    go_ret
    exact ⟨rfl, HM.out.below (Nat.le_refl _) (by simp)⟩
  by_cases hbig : id ≤ 16
  · have HM := hide hm
    clear hm
    go_wp2_with fail
    go_ret
    exact ⟨rfl, HM.out.below (Nat.le_refl _) (by simp)⟩
  by_cases hbig : 4611686018427387903 < id
  · have HM := hide hm
    clear hm
    go_wp2_with fail
    go_ret
    exact ⟨rfl, HM.out.below (Nat.le_refl _) (by simp)⟩
  have hsw := hide (show p.src.size ≤ 65536 by omega)
  have c0 : w1.cell? ⟨W.heap.size, 0, none⟩ = some (.int .u64 (p.N 1 : Nat)) := HB.out.cell 0
  have c1 : w1.cell? ⟨W.heap.size, 1, none⟩ = some (.int .u64 (p.N 3 : Nat)) := HB.out.cell 1
  have c2 : w1.cell? ⟨W.heap.size, 2, none⟩ = some (.int .u64 (p.N 4 : Nat)) := HB.out.cell 2
  have c3 : w1.cell? ⟨W.heap.size, 3, none⟩ = some (.int .u64 (p.N 5 : Nat)) := HB.out.cell 3
  have c4 : w1.cell? ⟨W.heap.size, 4, none⟩ = some (.int .u64 (p.N 6 : Nat)) := HB.out.cell 4
  have c5 : w1.cell? ⟨W.heap.size, 5, none⟩ = some (.int .u64 (p.N 7 : Nat)) := HB.out.cell 5
  have c6 : w1.cell? ⟨W.heap.size, 6, none⟩ = some (.int .u64 (p.N 8 : Nat)) := HB.out.cell 6
  have c7 : w1.cell? ⟨W.heap.size, 7, none⟩ = some (.int .u64 (p.N 9 : Nat)) := HB.out.cell 7
  have c8 : w1.cell? ⟨W.heap.size, 8, none⟩ = some (.int .u64 (p.N 10 : Nat)) := HB.out.cell 8
  have c9 : w1.cell? ⟨W.heap.size, 9, none⟩ = some (.int .u64 (p.N 11 : Nat)) := HB.out.cell 9
  have c10 : w1.cell? ⟨W.heap.size, 10, none⟩ = some (.int .u64 (p.N 14 : Nat)) := HB.out.cell 10
  have c11 : w1.cell? ⟨W.heap.size, 11, none⟩ = some (.bool p.mig) := HB.out.cell 11
  have c12 : w1.cell? ⟨W.heap.size, 12, none⟩ = some (.string p.src) := HB.out.cell 12
  clear s12
  go_wp2_with fail
  refine (write_any w1 p hsw.out).mono ?_
  clear c0 c1 c2 c3 c4 c5 c6 c7 c8 c9 c10 c11 c12
  rintro e w2 h2
  have hm2 : Mod [] w1 w2 := h2.1
  replace hm := hm.trans hm2 (by simp)
  have hb2 := hm2.blk HB.out (by simp)
  replace hpl := hb2.lt
  clear HB
  have HB := hide hb2
  clear hb2 hm2
  cases hmy : may p
  · obtain ⟨rfl, _⟩ := ww_no hmy h2
    have HM := hide hm
    clear hmy hm h2
    go_wp2_with fail
    go_ret
    exact ⟨rfl, HM.out.below (Nat.le_refl _) (by simp)⟩
  obtain ⟨rfl, _⟩ := ww_yes hmy h2
  obtain ⟨S, hS⟩ : ∃ S : ByteArray, S = ⟨(pwrite p).toArray⟩ := ⟨_, rfl⟩
  have hsS : str (pwrite p) = .string S := by rw [hS]; rfl
  have hSd : S.data.toList = flat (ilist p) := by rw [hS, ← pwrite_flat]
  have hSz : S.size ≤ 20000 := by rw [hS]; exact pwrite_le (p := p) (by omega)
  have hsm := ilist_small (p := p) (by omega)
  have hit : pitems S.data.toList = some (ilist p) := by rw [hSd, pitems_flat' _ hsm]
  rw [hsS]
  have hids := hide (ids_any w2 S (by omega))
  have HIt := hide hit
  have Hmy := hide hmy
  have HSd := hide hSd
  have HSm := hide hsm
  clear h2 hmy hS hsS hSd hit hsm
  go_wp2_with fail
  refine hids.out.mono ?_
  rintro e w3 ⟨m3, h3⟩
  obtain ⟨A, c, rfl, _, _⟩ := ids_some HIt.out h3
  replace hm := hm.trans m3 (by simp)
  have hb3 := m3.blk HB.out (by simp)
  have hpos := ilist_pos p
  have hle16 := ilist_le p
  obtain ⟨m, hmd⟩ : ∃ m, a % (ilist p).length = m := ⟨_, rfl⟩
  have hml : m < (ilist p).length := by rw [← hmd]; exact Nat.mod_lt _ hpos
  have hvl := bytes_len v
  have hord := order_some HStd.out Hmy.out m id v.data.toList (by omega) (by omega) (by omega)
  obtain ⟨l, hl⟩ : ∃ l, ilist p = l := ⟨_, rfl⟩
  rw [hl] at hpos hle16 hmd hml HSd HSm hord
  rw [hl]
  obtain ⟨n, hn⟩ : ∃ n, l.length = n := ⟨_, rfl⟩
  rw [hn] at hpos hle16 hmd ⊢
  have hmn : m < n := by omega
  have hmod : (a : Int) % (n : Int) = (m : Int) := by rw [← hmd]; exact (Int.natCast_emod a n).symm
  have hn0 : ((n : Int) == 0) = false := by simp; omega
  have HN := hide hn
  have HMod := hide hmod
  have HOrd := hide hord
  have HM := hide hm
  have HB3 := hide hb3
  have HVl := hide hvl
  clear h3 m3 hord hl hn hmd hids HIt hm hb3 HB hmod HStd Hmy hsw hvl
  go_wp2_with fail
  have hmod := HMod.out
  go_loopw [13, 14] (fun sv iv wr => ∃ (j : Nat) (R : ByteArray), j ≤ m ∧ iv = .int .i64 (j : Int) ∧ sv = .string R ∧ R.data.toList = flat (l.drop j) ∧ R.size ≤ 20000 ∧ Mod [] W wr ∧ Blk wr W.heap.size 25 (pcells p)) (fun _ iv _ => m - (intOf iv).toNat)
  case atStart => exact ⟨0, S, by omega, rfl, rfl, HSd.out, by omega, HM.out, HB3.out⟩
  case round =>
    clear HM HB3
    obtain ⟨j, R, hj, rfl, rfl, hR, hRs, hm, hb⟩ := hrel
    have HBr := hide hb
    clear hb
    by_cases h : j < m
    · have hjl : j < l.length := by omega
      obtain ⟨X, Y, T, O2, t1, t2, sY, sR, eT, dT, eO, dO, hv1, hv2⟩ := step_take HSm.out hjl hR
      obtain ⟨k, hk⟩ : ∃ k, l[j].1 = k := ⟨_, rfl⟩
      obtain ⟨vn, hvn⟩ : ∃ vn, l[j].2.length = vn := ⟨_, rfl⟩
      rw [hk] at t1 hv2
      rw [hvn] at t2 sY eT hv1
      have T1 := hide (fun w => rtake_str (w := w) t1)
      have T2 := hide (fun w => rtake_str (w := w) t2)
      have hh : (j : Int) < m := by omega
      have hwn : IntKind.i64.wrap (vn : Int) = vn := IntWalk.i64_in _ (by omega)
      have ET := hide eT
      have DT := hide dT
      have SR := hide sR
      have hYs : Y.size ≤ 20000 := by omega
      have hvY : vn ≤ Y.size := by omega
      clear t1 t2 eT eO dT dO hk hvn sR sY hR hjl hv1
      go_wp2_with fail
      refine (T1.out _).mono ?_
      rintro e w5 ⟨rfl, m5⟩
      go_wp2_with fail
      refine (T2.out _).mono ?_
      rintro e w6 ⟨rfl, m6⟩
      have HM6 := hide ((hm.trans m5 (by simp)).trans m6 (by simp))
      have HB6 := hide (m6.blk (m5.blk HBr.out (by simp)) (by simp))
      clear m5 m6 hm T1 T2
      go_wp2_with fail
      rw [ET.out]
      go_roundw
      case rel => exact ⟨j + 1, T, by omega, by go_num, by trivial, DT.out, by have := SR.out; omega, HM6.out, HB6.out⟩
      case measure => simp [intOf]; omega
    · have hjm : j = m := by omega
      subst hjm
      have hRS : R.size ≤ S.size := by
        rw [← bytes_len, ← bytes_len, hR, HSd.out]
        have h2 : (flat l).length = (flat (l.take j)).length + (flat (l.drop j)).length := by
          rw [← List.length_append, ← flat_append, List.take_append_drop]
        omega
      have hpre : (S.extract 0 (S.size - R.size)).data.toList = flat (l.take j) := by
        rw [Lib.extract_data, List.drop_zero, Nat.sub_zero, HSd.out]
        have h2 : flat l = flat (l.take j) ++ flat (l.drop j) := by rw [← flat_append, List.take_append_drop]
        have h3 : S.size - R.size = (flat (l.take j)).length := by
          have h4 := congrArg List.length h2
          rw [List.length_append, ← hR, ← HSd.out, bytes_len, bytes_len] at h4
          omega
        rw [h2, h3, List.take_left' rfl]
      have hsub : (S.size : Int) - (R.size : Int) = ((S.size - R.size : Nat) : Int) := by omega
      obtain ⟨O, hO⟩ : ∃ O, S.extract 0 (S.size - R.size) = O := ⟨_, rfl⟩
      have hOs : O.size = S.size - R.size := by rw [← hO]; simp
      rw [hO] at hpre
      obtain ⟨A1, hA⟩ : ∃ A1 : ByteArray, A1 = ⟨(vputS id).toArray⟩ := ⟨_, rfl⟩
      obtain ⟨B1, hB⟩ : ∃ B1 : ByteArray, B1 = ⟨(vputS v.size).toArray⟩ := ⟨_, rfl⟩
      have hAs : A1.size ≤ 8 := by rw [hA]; exact vputS_le _
      have hBs : B1.size ≤ 8 := by rw [hB]; exact vputS_le _
      have P1 := rput_any
      have P2 := hide (P1 wr id)
      have P3 := hide (fun w => P1 w v.size)
      have HA : Hid (str (vputS id) = .string A1) := hide (by rw [hA]; rfl)
      have HBB : Hid (str (vputS v.size) = .string B1) := hide (by rw [hB]; rfl)
      have hcat : (R ++ A1 ++ B1 ++ v ++ O).data.toList = flat (l.drop j) ++ (pone id v.data.toList ++ flat (l.take j)) := by
        unfold pone
        rw [HVl.out]
        simp [hR, hpre, hA, hB]
      have hcs : (R ++ A1 ++ B1 ++ v ++ O).size ≤ 65536 := by simp; omega
      have hq1 : R.size + A1.size ≤ 9223372036854775807 := by omega
      have hq2 : (R ++ A1).size + B1.size ≤ 9223372036854775807 := by simp; omega
      have hq3 : (R ++ A1 ++ B1).size + v.size ≤ 9223372036854775807 := by simp; omega
      have hq4 : (R ++ A1 ++ B1 ++ v).size + O.size ≤ 9223372036854775807 := by simp; omega
      have HRd := hide (show pread (R ++ A1 ++ B1 ++ v ++ O).data.toList = some p by rw [hcat]; exact HOrd.out)
      obtain ⟨Z, hZ⟩ : ∃ Z, R ++ A1 ++ B1 ++ v ++ O = Z := ⟨_, rfl⟩
      rw [hZ] at hcs HRd
      have HZ := hide hZ
      have HO := hide hO
      have HC := hide (fun w => read_any w Z hcs)
      clear hR hpre hA hB hcat hZ hO P1 hOs
      have hsub2 := hsub
      go_wp2_with fail
      refine P2.out.mono ?_
      rintro e w5 ⟨rfl, m5⟩
      rw [HA.out]
      go_wp2_with fail
      refine (P3.out _).mono ?_
      rintro e w6 ⟨rfl, m6⟩
      rw [HBB.out]
      have HM6 := hide ((hm.trans m5 (by simp)).trans m6 (by simp))
      have HB6 := hide (m6.blk (m5.blk HBr.out (by simp)) (by simp))
      clear m5 m6 hm P2 P3
      go_wp2_with fail
      rw [HO.out, HZ.out]
      refine (HC.out _).mono ?_
      rintro e w7 h7
      obtain ⟨rfl, m7⟩ := wr_some HRd.out h7
      have HM7 := hide (HM6.out.trans m7 (by simp))
      have hb7 := m7.blk HB6.out (by simp)
      have hpl7 := hb7.lt
      have c0 : w7.cell? ⟨W.heap.size, 0, none⟩ = some (.int .u64 (p.N 1 : Nat)) := hb7.cell 0
      have c1 : w7.cell? ⟨W.heap.size, 1, none⟩ = some (.int .u64 (p.N 3 : Nat)) := hb7.cell 1
      have c2 : w7.cell? ⟨W.heap.size, 2, none⟩ = some (.int .u64 (p.N 4 : Nat)) := hb7.cell 2
      have c3 : w7.cell? ⟨W.heap.size, 3, none⟩ = some (.int .u64 (p.N 5 : Nat)) := hb7.cell 3
      have c4 : w7.cell? ⟨W.heap.size, 4, none⟩ = some (.int .u64 (p.N 6 : Nat)) := hb7.cell 4
      have c5 : w7.cell? ⟨W.heap.size, 5, none⟩ = some (.int .u64 (p.N 7 : Nat)) := hb7.cell 5
      have c6 : w7.cell? ⟨W.heap.size, 6, none⟩ = some (.int .u64 (p.N 8 : Nat)) := hb7.cell 6
      have c7 : w7.cell? ⟨W.heap.size, 7, none⟩ = some (.int .u64 (p.N 9 : Nat)) := hb7.cell 7
      have c8 : w7.cell? ⟨W.heap.size, 8, none⟩ = some (.int .u64 (p.N 10 : Nat)) := hb7.cell 8
      have c9 : w7.cell? ⟨W.heap.size, 9, none⟩ = some (.int .u64 (p.N 11 : Nat)) := hb7.cell 9
      have c10 : w7.cell? ⟨W.heap.size, 10, none⟩ = some (.int .u64 (p.N 14 : Nat)) := hb7.cell 10
      have c11 : w7.cell? ⟨W.heap.size, 11, none⟩ = some (.bool p.mig) := hb7.cell 11
      have c12 : w7.cell? ⟨W.heap.size, 12, none⟩ = some (.string p.src) := hb7.cell 12
      clear h7 m7 hb7 HM6 HB6
      unfold pval pcells
      go_wp2_with fail
      go_ret
      exact ⟨rfl, (HM7.out.alloc _).below (Nat.le_refl _) (by simp)⟩
end Go.Proofs.Ytampdiplodhkbaa
