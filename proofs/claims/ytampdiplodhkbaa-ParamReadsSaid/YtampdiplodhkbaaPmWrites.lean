/-
  ParamWrites: the walk: parameters' bytes, or that they may not be, and those at first, are as the document says.
-/
import Derived.Test.YtampdiplodhkbaaPmRefW
import Derived.Deep.RegionHeld3
namespace Go.Proofs.Ytampdiplodhkbaa
open Go.RowKit

def wS (p : PP) : ByteArray := if may p then ⟨(pwrite p).toArray⟩ else ⟨#[]⟩
def wE (p : PP) : Int := if may p then 0 else 2
theorem write_val {w w' : World} {p : PP} {e : Ending} (h : WritePost w (may p) (pwrite p) e w') : e = .returned (.tuple #[.string (wS p), .int .i64 (wE p)]) ∧ Mod [] w w' := by
  unfold wS wE
  cases hm : may p
  · exact ww_no hm h
  · exact ww_yes hm h
theorem cells_blk {w' : World} {b : Nat} {p : PP} (h : Blk w' b 25 (pcells p)) : w'.cell? ⟨b, 0, none⟩ = some (.int .u64 (p.N 1 : Nat)) ∧ w'.cell? ⟨b, 1, none⟩ = some (.int .u64 (p.N 3 : Nat)) ∧ w'.cell? ⟨b, 2, none⟩ = some (.int .u64 (p.N 4 : Nat)) ∧ w'.cell? ⟨b, 3, none⟩ = some (.int .u64 (p.N 5 : Nat)) ∧ w'.cell? ⟨b, 4, none⟩ = some (.int .u64 (p.N 6 : Nat)) ∧ w'.cell? ⟨b, 5, none⟩ = some (.int .u64 (p.N 7 : Nat)) ∧ w'.cell? ⟨b, 6, none⟩ = some (.int .u64 (p.N 8 : Nat)) ∧ w'.cell? ⟨b, 7, none⟩ = some (.int .u64 (p.N 9 : Nat)) ∧ w'.cell? ⟨b, 8, none⟩ = some (.int .u64 (p.N 10 : Nat)) ∧ w'.cell? ⟨b, 9, none⟩ = some (.int .u64 (p.N 11 : Nat)) ∧ w'.cell? ⟨b, 10, none⟩ = some (.int .u64 (p.N 14 : Nat)) ∧ w'.cell? ⟨b, 11, none⟩ = some (.bool p.mig) ∧ w'.cell? ⟨b, 12, none⟩ = some (.string p.src) :=
  ⟨h.cell 0, h.cell 1, h.cell 2, h.cell 3, h.cell 4, h.cell 5, h.cell 6, h.cell 7, h.cell 8, h.cell 9, h.cell 10, h.cell 11, h.cell 12⟩
theorem sw_step {W w w' : World} {b : Nat} {p : PP} (h : (w.cell? ⟨b, 0, none⟩ = some (.int .u64 (p.N 1 : Nat)) ∧ w.cell? ⟨b, 1, none⟩ = some (.int .u64 (p.N 3 : Nat)) ∧ w.cell? ⟨b, 2, none⟩ = some (.int .u64 (p.N 4 : Nat)) ∧ w.cell? ⟨b, 3, none⟩ = some (.int .u64 (p.N 5 : Nat)) ∧ w.cell? ⟨b, 4, none⟩ = some (.int .u64 (p.N 6 : Nat)) ∧ w.cell? ⟨b, 5, none⟩ = some (.int .u64 (p.N 7 : Nat)) ∧ w.cell? ⟨b, 6, none⟩ = some (.int .u64 (p.N 8 : Nat)) ∧ w.cell? ⟨b, 7, none⟩ = some (.int .u64 (p.N 9 : Nat)) ∧ w.cell? ⟨b, 8, none⟩ = some (.int .u64 (p.N 10 : Nat)) ∧ w.cell? ⟨b, 9, none⟩ = some (.int .u64 (p.N 11 : Nat)) ∧ w.cell? ⟨b, 10, none⟩ = some (.int .u64 (p.N 14 : Nat)) ∧ w.cell? ⟨b, 11, none⟩ = some (.bool p.mig) ∧ w.cell? ⟨b, 12, none⟩ = some (.string p.src)) ∧ Mod [] W w) (hm : Mod [] w w') : (w'.cell? ⟨b, 0, none⟩ = some (.int .u64 (p.N 1 : Nat)) ∧ w'.cell? ⟨b, 1, none⟩ = some (.int .u64 (p.N 3 : Nat)) ∧ w'.cell? ⟨b, 2, none⟩ = some (.int .u64 (p.N 4 : Nat)) ∧ w'.cell? ⟨b, 3, none⟩ = some (.int .u64 (p.N 5 : Nat)) ∧ w'.cell? ⟨b, 4, none⟩ = some (.int .u64 (p.N 6 : Nat)) ∧ w'.cell? ⟨b, 5, none⟩ = some (.int .u64 (p.N 7 : Nat)) ∧ w'.cell? ⟨b, 6, none⟩ = some (.int .u64 (p.N 8 : Nat)) ∧ w'.cell? ⟨b, 7, none⟩ = some (.int .u64 (p.N 9 : Nat)) ∧ w'.cell? ⟨b, 8, none⟩ = some (.int .u64 (p.N 10 : Nat)) ∧ w'.cell? ⟨b, 9, none⟩ = some (.int .u64 (p.N 11 : Nat)) ∧ w'.cell? ⟨b, 10, none⟩ = some (.int .u64 (p.N 14 : Nat)) ∧ w'.cell? ⟨b, 11, none⟩ = some (.bool p.mig) ∧ w'.cell? ⟨b, 12, none⟩ = some (.string p.src)) ∧ Mod [] W w' := by
  obtain ⟨⟨h0, h1, h2, h3, h4, h5, h6, h7, h8, h9, h10, h11, h12⟩, hW⟩ := h
  have hb : b < w.heap.size := World.block_lt_of_cell? _ _ h0
  exact ⟨⟨(hm.cell hb (by simp)).trans h0, (hm.cell hb (by simp)).trans h1, (hm.cell hb (by simp)).trans h2, (hm.cell hb (by simp)).trans h3, (hm.cell hb (by simp)).trans h4, (hm.cell hb (by simp)).trans h5, (hm.cell hb (by simp)).trans h6, (hm.cell hb (by simp)).trans h7, (hm.cell hb (by simp)).trans h8, (hm.cell hb (by simp)).trans h9, (hm.cell hb (by simp)).trans h10, (hm.cell hb (by simp)).trans h11, (hm.cell hb (by simp)).trans h12⟩, hW.trans hm (by simp)⟩

set_option maxRecDepth 100000 in
set_option maxHeartbeats 8000000 in
theorem walkParamWrites (p : PP) (W : World) (hok : p.OK) (hstd : p.Std) :
    Calls Try.prog 4 #[pval p] W fun e w' => e = .returned (.bool true) ∧ Below W.heap.size W w' := by
  have hb0 : Blk (W.alloc (.cells (pcells p) 25)) W.heap.size 25 (pcells p) := Blk.new _ _ _
  have hm0 : Mod [] W (W.alloc (.cells (pcells p) 25)) := (Mod.refl _ _).alloc _
  obtain ⟨w0, hw0⟩ : ∃ w0, W.alloc (.cells (pcells p) 25) = w0 := ⟨_, rfl⟩
  rw [hw0] at hb0 hm0
  have HB0 := hide hb0
  have hss := hok.s
  have HW0 := hide hw0
  have HStd := hide hstd
  clear hok hb0 hw0 hstd
  unfold pval pcells at *
  go_enter Try.func4, Try.ntmps4
  go_wp2_with fail
  have hw0 := HW0.out
  unfold pcells at hw0
  rw [hw0]
  refine (awake_any _).mono ?_
  rintro e w1 ⟨rfl, m1⟩
  have hb := m1.blk HB0.out (by simp)
  have hm := hm0.trans m1 (by simp)
  have hpl := hb.lt
  have HB := hide hb
  clear hw0 HW0 HB0 m1 hm0 hb
  have s12 : w1.cell? ⟨W.heap.size, 12, none⟩ = some (.string p.src) := HB.out.cell 12
  by_cases hbig : 1024 < p.src.size
  · have HM := hide hm
    clear hm
    go_wp2_with fail
    go_ret
    exact ⟨rfl, HM.out.below (Nat.le_refl _) (by simp)⟩
  have hsw := hide (show p.src.size ≤ 65536 by omega)
  have c0 : w1.cell? ⟨W.heap.size, 0, none⟩ = some (.int .u64 (p.N 1 : Nat)) := HB.out.cell 0
  have c1 : w1.cell? ⟨W.heap.size, 1, none⟩ = some (.int .u64 (p.N 3 : Nat)) := HB.out.cell 1
  have c2 : w1.cell? ⟨W.heap.size, 2, none⟩ = some (.int .u64 (p.N 4 : Nat)) := HB.out.cell 2
  have c3 : w1.cell? ⟨W.heap.size, 3, none⟩ = some (.int .u64 (p.N 5 : Nat)) := HB.out.cell 3
  have c4 : w1.cell? ⟨W.heap.size, 4, none⟩ = some (.int .u64 (p.N 6 : Nat)) := HB.out.cell 4
  have c5 : w1.cell? ⟨W.heap.size, 5, none⟩ = some (.int .u64 (p.N 7 : Nat)) := HB.out.cell 5
  have c6 : w1.cell? ⟨W.heap.size, 6, none⟩ = some (.int .u64 (p.N 8 : Nat)) := HB.out.cell 6
  have c7 : w1.cell? ⟨W.heap.size, 7, none⟩ = some (.int .u64 (p.N 9 : Nat)) := HB.out.cell 7
  have c8 : w1.cell? ⟨W.heap.size, 8, none⟩ = some (.int .u64 (p.N 10 : Nat)) := HB.out.cell 8
  have c9 : w1.cell? ⟨W.heap.size, 9, none⟩ = some (.int .u64 (p.N 11 : Nat)) := HB.out.cell 9
  have c10 : w1.cell? ⟨W.heap.size, 10, none⟩ = some (.int .u64 (p.N 14 : Nat)) := HB.out.cell 10
  have c11 : w1.cell? ⟨W.heap.size, 11, none⟩ = some (.bool p.mig) := HB.out.cell 11
  have c12 : w1.cell? ⟨W.heap.size, 12, none⟩ = some (.string p.src) := HB.out.cell 12
  clear s12
  go_wp2_with fail
  refine (write_any w1 p hsw.out).mono ?_
  clear c0 c1 c2 c3 c4 c5 c6 c7 c8 c9 c10 c11 c12
  rintro e w2 h2
  have hm2 : Mod [] w1 w2 := h2.1
  replace hm := hm.trans hm2 (by simp)
  have hb2 := hm2.blk HB.out (by simp)
  replace hpl := hb2.lt
  clear HB
  have HB := hide hb2
  clear hb2 hm2
  obtain ⟨rfl, _⟩ := write_val h2
  have hb2 := HB.out
  have c0 : w2.cell? ⟨W.heap.size, 0, none⟩ = some (.int .u64 (p.N 1 : Nat)) := hb2.cell 0
  have c1 : w2.cell? ⟨W.heap.size, 1, none⟩ = some (.int .u64 (p.N 3 : Nat)) := hb2.cell 1
  have c2 : w2.cell? ⟨W.heap.size, 2, none⟩ = some (.int .u64 (p.N 4 : Nat)) := hb2.cell 2
  have c3 : w2.cell? ⟨W.heap.size, 3, none⟩ = some (.int .u64 (p.N 5 : Nat)) := hb2.cell 3
  have c4 : w2.cell? ⟨W.heap.size, 4, none⟩ = some (.int .u64 (p.N 6 : Nat)) := hb2.cell 4
  have c5 : w2.cell? ⟨W.heap.size, 5, none⟩ = some (.int .u64 (p.N 7 : Nat)) := hb2.cell 5
  have c6 : w2.cell? ⟨W.heap.size, 6, none⟩ = some (.int .u64 (p.N 8 : Nat)) := hb2.cell 6
  have c7 : w2.cell? ⟨W.heap.size, 7, none⟩ = some (.int .u64 (p.N 9 : Nat)) := hb2.cell 7
  have c8 : w2.cell? ⟨W.heap.size, 8, none⟩ = some (.int .u64 (p.N 10 : Nat)) := hb2.cell 8
  have c9 : w2.cell? ⟨W.heap.size, 9, none⟩ = some (.int .u64 (p.N 11 : Nat)) := hb2.cell 9
  have c10 : w2.cell? ⟨W.heap.size, 10, none⟩ = some (.int .u64 (p.N 14 : Nat)) := hb2.cell 10
  have c11 : w2.cell? ⟨W.heap.size, 11, none⟩ = some (.bool p.mig) := hb2.cell 11
  have c12 : w2.cell? ⟨W.heap.size, 12, none⟩ = some (.string p.src) := hb2.cell 12
  clear h2 hb2
  obtain ⟨S, hS⟩ : ∃ S, wS p = S := ⟨_, rfl⟩
  obtain ⟨E, hE⟩ : ∃ E, wE p = E := ⟨_, rfl⟩
  rw [hS, hE]
  have HSE := hide (show wS p = S ∧ wE p = E from ⟨hS, hE⟩)
  have HM := hide hm
  clear hS hE hm
  go_wp2_with fail
  refine (own_any _ p).mono ?_
  rintro e w3 ⟨g, rfl, hg, _, m3⟩
  have HM3 := hide (HM.out.trans m3 (by simp))
  have HB3 := hide (m3.blk HB.out (by simp))
  have HG := hide hg
  clear HM HB m3 hg c0 c1 c2 c3 c4 c5 c6 c7 c8 c9 c10 c11 c12
  have hsw2 := hide (show p.src.size ≤ 65536 by omega)
  go_wp2_with fail
  refine (rwrite_any w3 g p HStd.out hsw2.out HG.out).mono ?_
  rintro e w4 h4
  obtain ⟨rfl, m4⟩ := write_val h4
  rw [HSE.out.1, HSE.out.2]
  have hb4 := m4.blk HB3.out (by simp)
  have hm4 := HM3.out.trans m4 (by simp)
  have hS0 := (show (w4.drew.cell? ⟨W.heap.size, 0, none⟩ = some (.int .u64 (p.N 1 : Nat)) ∧ w4.drew.cell? ⟨W.heap.size, 1, none⟩ = some (.int .u64 (p.N 3 : Nat)) ∧ w4.drew.cell? ⟨W.heap.size, 2, none⟩ = some (.int .u64 (p.N 4 : Nat)) ∧ w4.drew.cell? ⟨W.heap.size, 3, none⟩ = some (.int .u64 (p.N 5 : Nat)) ∧ w4.drew.cell? ⟨W.heap.size, 4, none⟩ = some (.int .u64 (p.N 6 : Nat)) ∧ w4.drew.cell? ⟨W.heap.size, 5, none⟩ = some (.int .u64 (p.N 7 : Nat)) ∧ w4.drew.cell? ⟨W.heap.size, 6, none⟩ = some (.int .u64 (p.N 8 : Nat)) ∧ w4.drew.cell? ⟨W.heap.size, 7, none⟩ = some (.int .u64 (p.N 9 : Nat)) ∧ w4.drew.cell? ⟨W.heap.size, 8, none⟩ = some (.int .u64 (p.N 10 : Nat)) ∧ w4.drew.cell? ⟨W.heap.size, 9, none⟩ = some (.int .u64 (p.N 11 : Nat)) ∧ w4.drew.cell? ⟨W.heap.size, 10, none⟩ = some (.int .u64 (p.N 14 : Nat)) ∧ w4.drew.cell? ⟨W.heap.size, 11, none⟩ = some (.bool p.mig) ∧ w4.drew.cell? ⟨W.heap.size, 12, none⟩ = some (.string p.src)) ∧ Mod [] W w4.drew from ⟨cells_blk (w' := w4.drew) hb4, hm4.drew⟩)
  have HS0 := hide hS0
  clear h4 m4 HB3 HM3 HG hb4 hm4 hS0 hpl
  go_wp2_with fail
  go_region_held3 (fun w' => (w'.cell? ⟨W.heap.size, 0, none⟩ = some (.int .u64 (p.N 1 : Nat)) ∧ w'.cell? ⟨W.heap.size, 1, none⟩ = some (.int .u64 (p.N 3 : Nat)) ∧ w'.cell? ⟨W.heap.size, 2, none⟩ = some (.int .u64 (p.N 4 : Nat)) ∧ w'.cell? ⟨W.heap.size, 3, none⟩ = some (.int .u64 (p.N 5 : Nat)) ∧ w'.cell? ⟨W.heap.size, 4, none⟩ = some (.int .u64 (p.N 6 : Nat)) ∧ w'.cell? ⟨W.heap.size, 5, none⟩ = some (.int .u64 (p.N 7 : Nat)) ∧ w'.cell? ⟨W.heap.size, 6, none⟩ = some (.int .u64 (p.N 8 : Nat)) ∧ w'.cell? ⟨W.heap.size, 7, none⟩ = some (.int .u64 (p.N 9 : Nat)) ∧ w'.cell? ⟨W.heap.size, 8, none⟩ = some (.int .u64 (p.N 10 : Nat)) ∧ w'.cell? ⟨W.heap.size, 9, none⟩ = some (.int .u64 (p.N 11 : Nat)) ∧ w'.cell? ⟨W.heap.size, 10, none⟩ = some (.int .u64 (p.N 14 : Nat)) ∧ w'.cell? ⟨W.heap.size, 11, none⟩ = some (.bool p.mig) ∧ w'.cell? ⟨W.heap.size, 12, none⟩ = some (.string p.src)) ∧ Mod [] W w')
    (first | exact HS0.out | assumption)
    (first
      | (go_at_call 18; refine (may_any _ p).mono ?_; rintro e w' ⟨rfl, mm⟩; have hS' := sw_step (by assumption) mm)
      | (go_at_call 17; refine (own_any _ p).mono ?_; rintro e w' ⟨gO, rfl, hbO, _, mm⟩; have hS' := sw_step (by assumption) mm)
      | (go_at_call 19; refine (rmay_any _ gO p HStd.out hbO).mono ?_; rintro e w' ⟨rfl, mm⟩; have hS' := sw_step (by assumption) mm)
      | (go_at_call 20; refine (first_any _ p.src).mono ?_; rintro e w' ⟨rfl, mm⟩; have hS' := sw_step (by assumption) mm)
      | (go_at_call 21; refine (rfirst_any _ p.src).mono ?_; rintro e w' ⟨gF, rfl, hbF, _, mm⟩; have hS' := sw_step (by assumption) mm)
      | (go_at_call 14; refine (same_any _ gF (pfirst p.src) (first_std _) hbF).mono ?_; rintro e w' ⟨rfl, mm⟩; have hS' := sw_step (by assumption) mm))
  all_goals
    have HFin := hide hS'.2
    clear hS' HS0
    go_wp2_with fail
    go_ret
    exact ⟨rfl, HFin.out.below (Nat.le_refl _) (by simp)⟩
end Go.Proofs.Ytampdiplodhkbaa
