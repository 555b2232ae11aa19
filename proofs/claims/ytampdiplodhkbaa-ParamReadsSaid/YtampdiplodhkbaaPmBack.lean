/-
  ParamBack: the walk: parameters are read as they were; and what is read is written, and read again, as the same, in no more bytes.
-/
import Derived.Test.YtampdiplodhkbaaPmOpen
import Derived.Deep.CutBlock
import Derived.Deep.DeepCutAuto
namespace Go.Proofs.Ytampdiplodhkbaa
open Go.RowKit

theorem write_form {w w' : World} {p : PP} {e : Ending} (h : WritePost w (may p) (pwrite p) e w') : ∃ (B : ByteArray) (E : Int), e = .returned (.tuple #[.string B, .int .i64 E]) ∧ ((may p = true ∧ B.data.toList = pwrite p ∧ E = 0) ∨ (may p = false ∧ B = ⟨#[]⟩ ∧ E = 2)) := by
  cases hm : may p
  · exact ⟨_, _, (ww_no hm h).1, .inr ⟨rfl, rfl, rfl⟩⟩
  · exact ⟨_, _, (ww_yes hm h).1, .inl ⟨rfl, rfl, rfl⟩⟩

set_option maxRecDepth 100000 in
set_option maxHeartbeats 8000000 in
theorem walkParamBack (p : PP) (x : ByteArray) (hxw : x.size ≤ 9223372036854775807) (W : World) (hok : p.OK) (hstd : p.Std) :
    Calls Try.prog 5 #[pval p, .string x] W fun e w' => e = .returned (.bool true) ∧ Below W.heap.size W w' := by
  have hb0 : Blk (W.alloc (.cells (pcells p) 25)) W.heap.size 25 (pcells p) := Blk.new _ _ _
  have hm0 : Mod [] W (W.alloc (.cells (pcells p) 25)) := (Mod.refl _ _).alloc _
  obtain ⟨w0, hw0⟩ : ∃ w0, W.alloc (.cells (pcells p) 25) = w0 := ⟨_, rfl⟩
  rw [hw0] at hb0 hm0
  have HB0 := hide hb0
  have hss := hok.s
  have HW0 := hide hw0
  have HStd := hide hstd
  clear hok hb0 hw0 hstd
  unfold pval pcells at *
  go_enter Try.func5, Try.ntmps5
  go_wp2_with fail
  have hw0 := HW0.out
  unfold pcells at hw0
  rw [hw0]
  refine (awake_any _).mono ?_
  rintro e w1 ⟨rfl, m1⟩
  have hb := m1.blk HB0.out (by simp)
  have hm := hm0.trans m1 (by simp)
  have hpl := hb.lt
  have HB := hide hb
  clear hw0 HW0 HB0 m1 hm0 hb
  have s12 : w1.cell? ⟨W.heap.size, 12, none⟩ = some (.string p.src) := HB.out.cell 12
  by_cases hbig : 1024 < p.src.size
  · have HM := hide hm
    clear hm
    go_wp2_with fail
    go_ret
    exact ⟨rfl, HM.out.below (Nat.le_refl _) (by simp)⟩
  by_cases hbig : 1024 < x.size
  · have HM := hide hm
    clear hm
    go_wp2_with fail
    go_ret
    exact ⟨rfl, HM.out.below (Nat.le_refl _) (by simp)⟩
  have hsw := hide (show p.src.size ≤ 65536 by omega)
  have c0 : w1.cell? ⟨W.heap.size, 0, none⟩ = some (.int .u64 (p.N 1 : Nat)) := HB.out.cell 0
  have c1 : w1.cell? ⟨W.heap.size, 1, none⟩ = some (.int .u64 (p.N 3 : Nat)) := HB.out.cell 1
  have c2 : w1.cell? ⟨W.heap.size, 2, none⟩ = some (.int .u64 (p.N 4 : Nat)) := HB.out.cell 2
  have c3 : w1.cell? ⟨W.heap.size, 3, none⟩ = some (.int .u64 (p.N 5 : Nat)) := HB.out.cell 3
  have c4 : w1.cell? ⟨W.heap.size, 4, none⟩ = some (.int .u64 (p.N 6 : Nat)) := HB.out.cell 4
  have c5 : w1.cell? ⟨W.heap.size, 5, none⟩ = some (.int .u64 (p.N 7 : Nat)) := HB.out.cell 5
  have c6 : w1.cell? ⟨W.heap.size, 6, none⟩ = some (.int .u64 (p.N 8 : Nat)) := HB.out.cell 6
  have c7 : w1.cell? ⟨W.heap.size, 7, none⟩ = some (.int .u64 (p.N 9 : Nat)) := HB.out.cell 7
  have c8 : w1.cell? ⟨W.heap.size, 8, none⟩ = some (.int .u64 (p.N 10 : Nat)) := HB.out.cell 8
  have c9 : w1.cell? ⟨W.heap.size, 9, none⟩ = some (.int .u64 (p.N 11 : Nat)) := HB.out.cell 9
  have c10 : w1.cell? ⟨W.heap.size, 10, none⟩ = some (.int .u64 (p.N 14 : Nat)) := HB.out.cell 10
  have c11 : w1.cell? ⟨W.heap.size, 11, none⟩ = some (.bool p.mig) := HB.out.cell 11
  have c12 : w1.cell? ⟨W.heap.size, 12, none⟩ = some (.string p.src) := HB.out.cell 12
  clear s12
  go_wp2_with fail
  refine (write_any w1 p hsw.out).mono ?_
  clear c0 c1 c2 c3 c4 c5 c6 c7 c8 c9 c10 c11 c12
  rintro e w2 h2
  have hm2 : Mod [] w1 w2 := h2.1
  replace hm := hm.trans hm2 (by simp)
  have hb2 := hm2.blk HB.out (by simp)
  replace hpl := hb2.lt
  clear HB
  have HB := hide hb2
  clear hb2 hm2
  obtain ⟨B, E, rfl, hBE⟩ := write_form h2
  have HBE := hide hBE
  clear hBE h2
  go_upto_if 32 with fail
  go_cut [] (fun wx => Mod [] W wx)
  case first =>
    rcases HBE.out with ⟨hmy, hB, rfl⟩ | ⟨hmy, rfl, rfl⟩
    rotate_left
    · have Hmy := hide hmy
      have c0 : w2.cell? ⟨W.heap.size, 0, none⟩ = some (.int .u64 (p.N 1 : Nat)) := HB.out.cell 0
      have c1 : w2.cell? ⟨W.heap.size, 1, none⟩ = some (.int .u64 (p.N 3 : Nat)) := HB.out.cell 1
      have c2 : w2.cell? ⟨W.heap.size, 2, none⟩ = some (.int .u64 (p.N 4 : Nat)) := HB.out.cell 2
      have c3 : w2.cell? ⟨W.heap.size, 3, none⟩ = some (.int .u64 (p.N 5 : Nat)) := HB.out.cell 3
      have c4 : w2.cell? ⟨W.heap.size, 4, none⟩ = some (.int .u64 (p.N 6 : Nat)) := HB.out.cell 4
      have c5 : w2.cell? ⟨W.heap.size, 5, none⟩ = some (.int .u64 (p.N 7 : Nat)) := HB.out.cell 5
      have c6 : w2.cell? ⟨W.heap.size, 6, none⟩ = some (.int .u64 (p.N 8 : Nat)) := HB.out.cell 6
      have c7 : w2.cell? ⟨W.heap.size, 7, none⟩ = some (.int .u64 (p.N 9 : Nat)) := HB.out.cell 7
      have c8 : w2.cell? ⟨W.heap.size, 8, none⟩ = some (.int .u64 (p.N 10 : Nat)) := HB.out.cell 8
      have c9 : w2.cell? ⟨W.heap.size, 9, none⟩ = some (.int .u64 (p.N 11 : Nat)) := HB.out.cell 9
      have c10 : w2.cell? ⟨W.heap.size, 10, none⟩ = some (.int .u64 (p.N 14 : Nat)) := HB.out.cell 10
      have c11 : w2.cell? ⟨W.heap.size, 11, none⟩ = some (.bool p.mig) := HB.out.cell 11
      have c12 : w2.cell? ⟨W.heap.size, 12, none⟩ = some (.string p.src) := HB.out.cell 12
      have HM := hide hm
      clear HBE hmy hm
      go_wp2_with fail
      refine (may_any w2 p).mono ?_
      rintro e w3 ⟨rfl, m3⟩
      rw [Hmy.out]
      go_wp2_with fail
      go_meet
      exact HM.out.trans m3 (by simp)
    · have hBl : B.data.toList.length = B.size := Array.length_toList
      rw [hB] at hBl
      have hle : (pwrite p).length ≤ 65536 := by
        unfold pwrite
        have e1 := flat_le (ppart p) 1100 (List.range 16) (fun x _ => by have := ppart_le p x; omega)
        rw [List.length_range] at e1
        omega
      have hrd : pread B.data.toList = some p := by rw [hB]; exact pread_write HStd.out hmy
      have hread := hide (read_any w2 B (by omega))
      have HRd := hide hrd
      have HM := hide hm
      clear HBE hmy hB hBl hle hrd hm
      go_wp2_with fail
      refine hread.out.mono ?_
      rintro e w3 h3
      obtain ⟨rfl, m3⟩ := wr_some HRd.out h3
      have hb3 := m3.blk HB.out (by simp)
      have hpl3 := hb3.lt
      have c0 : w3.cell? ⟨W.heap.size, 0, none⟩ = some (.int .u64 (p.N 1 : Nat)) := hb3.cell 0
      have c1 : w3.cell? ⟨W.heap.size, 1, none⟩ = some (.int .u64 (p.N 3 : Nat)) := hb3.cell 1
      have c2 : w3.cell? ⟨W.heap.size, 2, none⟩ = some (.int .u64 (p.N 4 : Nat)) := hb3.cell 2
      have c3 : w3.cell? ⟨W.heap.size, 3, none⟩ = some (.int .u64 (p.N 5 : Nat)) := hb3.cell 3
      have c4 : w3.cell? ⟨W.heap.size, 4, none⟩ = some (.int .u64 (p.N 6 : Nat)) := hb3.cell 4
      have c5 : w3.cell? ⟨W.heap.size, 5, none⟩ = some (.int .u64 (p.N 7 : Nat)) := hb3.cell 5
      have c6 : w3.cell? ⟨W.heap.size, 6, none⟩ = some (.int .u64 (p.N 8 : Nat)) := hb3.cell 6
      have c7 : w3.cell? ⟨W.heap.size, 7, none⟩ = some (.int .u64 (p.N 9 : Nat)) := hb3.cell 7
      have c8 : w3.cell? ⟨W.heap.size, 8, none⟩ = some (.int .u64 (p.N 10 : Nat)) := hb3.cell 8
      have c9 : w3.cell? ⟨W.heap.size, 9, none⟩ = some (.int .u64 (p.N 11 : Nat)) := hb3.cell 9
      have c10 : w3.cell? ⟨W.heap.size, 10, none⟩ = some (.int .u64 (p.N 14 : Nat)) := hb3.cell 10
      have c11 : w3.cell? ⟨W.heap.size, 11, none⟩ = some (.bool p.mig) := hb3.cell 11
      have c12 : w3.cell? ⟨W.heap.size, 12, none⟩ = some (.string p.src) := hb3.cell 12
      clear h3 hb3 HB hread HRd
      unfold pval pcells
      go_wp2_with fail
      go_meet
      exact (HM.out.trans m3 (by simp)).alloc _
  case rest =>
    clear HBE HB hpl hm
    have hmc := hcut
    have hread := hide (read_any wc x (by omega))
    have HM := hide hmc
    clear hmc hcut
    go_wp2_with fail
    refine hread.out.mono ?_
    rintro e w3 h3
    cases hrd : pread x.data.toList with
    | none =>
      obtain ⟨rfl, m3⟩ := wr_none hrd h3
      clear h3 hrd hread
      rw [pz_val]
      go_wp2_with fail
      go_ret
      exact ⟨rfl, ((HM.out.trans m3 (by simp)).alloc _).below (Nat.le_refl _) (by simp)⟩
    | some q =>
      obtain ⟨rfl, m3⟩ := wr_some hrd h3
      have hmy := pread_may hrd
      have hq20 := (may_parts hmy).2.2
      have elx : x.data.toList.length = x.size := Array.length_toList
      have hlen := pread_length (by rw [elx]; omega) hrd
      have hback := pread_write (pread_std hrd) hmy
      rw [elx] at hlen
      have hbq : Blk (w3.alloc (.cells (pcells q) 25)) w3.heap.size 25 (pcells q) := Blk.new _ _ _
      have hm4 := (HM.out.trans m3 (by simp)).alloc (.cells (pcells q) 25)
      obtain ⟨w4, hw4⟩ : ∃ w4, w3.alloc (.cells (pcells q) 25) = w4 := ⟨_, rfl⟩
      rw [hw4] at hbq hm4
      have HW4 := hide hw4
      have HBQ := hide hbq
      have Hmy := hide hmy
      have HBk := hide hback
      have HM4 := hide hm4
      clear h3 hrd hread elx hw4 hbq hmy hback hm4
      unfold pval pcells
      go_wp2_with fail
      have hw4 := HW4.out
      unfold pcells at hw4
      rw [hw4]
      refine (write_any w4 q (by omega)).mono ?_
      rintro e w5 h5
      obtain ⟨rfl, m5⟩ := ww_yes Hmy.out h5
      obtain ⟨S, hS⟩ : ∃ S : ByteArray, S = ⟨(pwrite q).toArray⟩ := ⟨_, rfl⟩
      have hsS : str (pwrite q) = .string S := by rw [hS]; rfl
      have hSd : S.data.toList = pwrite q := by rw [hS]
      have hSz : S.size = (pwrite q).length := by rw [hS]; rfl
      have hSx : S.size ≤ x.size := by omega
      rw [hsS]
      have HRd := hide (show pread S.data.toList = some q by rw [hSd]; exact HBk.out)
      have hread := hide (read_any w5 S (by omega))
      have hbq := m5.blk HBQ.out (by simp)
      have HM5 := hide (HM4.out.trans m5 (by simp))
      have HBQ5 := hide hbq
      clear h5 hS hsS hSd hSz hw4 HW4 hbq HBQ HM4 m5 hlen HBk
      go_wp2_with fail
      refine hread.out.mono ?_
      rintro e w6 h6
      obtain ⟨rfl, m6⟩ := wr_some HRd.out h6
      have hbq := m6.blk HBQ5.out (by simp)
      have hql := hbq.lt
      have c0 : w6.cell? ⟨w3.heap.size, 0, none⟩ = some (.int .u64 (q.N 1 : Nat)) := hbq.cell 0
      have c1 : w6.cell? ⟨w3.heap.size, 1, none⟩ = some (.int .u64 (q.N 3 : Nat)) := hbq.cell 1
      have c2 : w6.cell? ⟨w3.heap.size, 2, none⟩ = some (.int .u64 (q.N 4 : Nat)) := hbq.cell 2
      have c3 : w6.cell? ⟨w3.heap.size, 3, none⟩ = some (.int .u64 (q.N 5 : Nat)) := hbq.cell 3
      have c4 : w6.cell? ⟨w3.heap.size, 4, none⟩ = some (.int .u64 (q.N 6 : Nat)) := hbq.cell 4
      have c5 : w6.cell? ⟨w3.heap.size, 5, none⟩ = some (.int .u64 (q.N 7 : Nat)) := hbq.cell 5
      have c6 : w6.cell? ⟨w3.heap.size, 6, none⟩ = some (.int .u64 (q.N 8 : Nat)) := hbq.cell 6
      have c7 : w6.cell? ⟨w3.heap.size, 7, none⟩ = some (.int .u64 (q.N 9 : Nat)) := hbq.cell 7
      have c8 : w6.cell? ⟨w3.heap.size, 8, none⟩ = some (.int .u64 (q.N 10 : Nat)) := hbq.cell 8
      have c9 : w6.cell? ⟨w3.heap.size, 9, none⟩ = some (.int .u64 (q.N 11 : Nat)) := hbq.cell 9
      have c10 : w6.cell? ⟨w3.heap.size, 10, none⟩ = some (.int .u64 (q.N 14 : Nat)) := hbq.cell 10
      have c11 : w6.cell? ⟨w3.heap.size, 11, none⟩ = some (.bool q.mig) := hbq.cell 11
      have c12 : w6.cell? ⟨w3.heap.size, 12, none⟩ = some (.string q.src) := hbq.cell 12
      have HM6 := hide (HM5.out.trans m6 (by simp))
      clear h6 hbq HBQ5 hread HRd m6
      unfold pval pcells
      go_wp2_with fail
      go_ret
      exact ⟨rfl, (HM6.out.alloc _).below (Nat.le_refl _) (by simp)⟩
end Go.Proofs.Ytampdiplodhkbaa
