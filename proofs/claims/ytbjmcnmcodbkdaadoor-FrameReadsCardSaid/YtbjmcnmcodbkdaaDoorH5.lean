/-
  Contracts of the document's package, part 5 of 8: FrRf10, FrRf11.
-/
import Derived.Test.YtbjmcnmcodbkdaaDoorH4
import Derived.Deep.Cut
import Derived.Deep.RegionLaw
import Derived.BigRegion

/-
  frames: the document's package: ended.
-/
namespace Go.Proofs.YtbjmcnmcodbkdaaDoor
open Go.RowKit Go.Sort
set_option linter.unusedVariables false

/-- what head tells: a frame, and whether it is one -/
def HdP (w : World) (o : Option Fr) (e : Ending) (w' : World) : Prop :=
  ∃ f A c, e = .returned (.tuple #[.agg (fcs A f.list.length c f), .bool o.isSome]) ∧ (∀ g, o = some g → f = g) ∧ ROwn w' w.heap.size A c f.list ∧ f.list.length ≤ 64 ∧ Mod [] w w'
/-- is it what head tells -/
def HdV (o : Option Fr) (f : Fr) (v : Bool) : Prop := o.isSome = v ∧ ∀ g, o = some g → f = g
theorem HdV.no {o : Option Fr} {f : Fr} (h : o = none) : HdV o f false := ⟨by rw [h]; rfl, fun g hg => by rw [h] at hg; cases hg⟩
theorem HdV.yes {o : Option Fr} {f : Fr} (h : o = some f) : HdV o f true := ⟨by rw [h]; rfl, fun g hg => by rw [h] at hg; exact Option.some.inj hg⟩
theorem HdP.fin {w X : World} {RB : Nat} {o : Option Fr} {f : Fr} {v : Bool} {cs : Array Value} (hv : HdV o f v) (hl : f.list = []) (hm : Mod [] w X) (hr : Blk X RB 26 cs) (hb : w.heap.size ≤ RB) (hcs : cs.size = 8 := by rfl) :
    Blk (fsets X RB (fcs none 0 0 f)) RB 26 (fcs none 0 0 f) ∧ HdP w o (.returned (.tuple #[.agg (fcs none 0 0 f), .bool v])) (fsets X RB (fcs none 0 0 f)) := by
  refine ⟨fsets_blk (fcs none 0 0 f) hr hcs rfl, f, none, 0, ?_, hv.2, ?_, ?_, hm.trans (fsets_mod X RB _) (fun y hy => .inr ?_)⟩
  · rw [hv.1, hl]; rfl
  · rw [hl]; exact ROwn.nil _ _
  · rw [hl]; simp
  · simp only [List.mem_singleton] at hy; omega
theorem ext_take (x : ByteArray) (i j : Nat) : x.extract i j = ⟨((x.data.toList.drop i).take (j - i)).toArray⟩ := bytes_eq (by rw [Lib.extract_data])

set_option maxRecDepth 100000 in
set_option maxHeartbeats 8000000 in
theorem ended_any (w : World) (k a b e : Nat) (fin : Bool) (data more : ByteArray) (x : ByteArray) (hx : x.size ≤ 1000000) :
    Calls Tryd.prog 52 #[.agg (fcs none 0 0 ⟨k, a, b, e, fin, data, more, []⟩), .string x] w (HdP w (hended ⟨k, a, b, e, fin, data, more, []⟩ x.data.toList)) := by
  have hlx := bytes_len x
  have HB := hide ((Blk.new w 26 (fcs none 0 0 ⟨k, a, b, e, fin, data, more, []⟩)).alloc (.cells #[.int .u64 0, .int .u64 0, .int .u64 0, .int .u64 0, .bool false, .string ⟨#[]⟩, .string ⟨#[]⟩, .slice none 0 0] 26))
  have HRb : Hid (Blk ((w.alloc (.cells (fcs none 0 0 ⟨k, a, b, e, fin, data, more, []⟩) 26)).alloc (.cells #[.int .u64 0, .int .u64 0, .int .u64 0, .int .u64 0, .bool false, .string ⟨#[]⟩, .string ⟨#[]⟩, .slice none 0 0] 26)) (w.heap.size + 1) 26 #[.int .u64 0, .int .u64 0, .int .u64 0, .int .u64 0, .bool false, .string ⟨#[]⟩, .string ⟨#[]⟩, .slice none 0 0]) := hide (by
    have := Blk.new (w.alloc (.cells (fcs none 0 0 ⟨k, a, b, e, fin, data, more, []⟩) 26)) 26 #[.int .u64 0, .int .u64 0, .int .u64 0, .int .u64 0, .bool false, .string ⟨#[]⟩, .string ⟨#[]⟩, .slice none 0 0]
    rw [World.size_alloc] at this
    exact this)
  have HM := hide (((Mod.refl [] w).alloc (.cells (fcs none 0 0 ⟨k, a, b, e, fin, data, more, []⟩) 26)).alloc (.cells #[.int .u64 0, .int .u64 0, .int .u64 0, .int .u64 0, .bool false, .string ⟨#[]⟩, .string ⟨#[]⟩, .slice none 0 0] 26))
  have hsz : (w.alloc (.cells (fcs none 0 0 ⟨k, a, b, e, fin, data, more, []⟩) 26)).heap.size = w.heap.size + 1 := World.size_alloc _ _
  unfold fcs at *
  simp only at *
  have HLx := hide hlx
  clear hlx
  go_enter Tryd.func52, Tryd.ntmps52
  go_upto_region 1 with (fail)
  obtain ⟨W1, hW1⟩ : ∃ W1, ((w.alloc (.cells #[.int .u64 (k : Nat), .int .u64 (a : Nat), .int .u64 (b : Nat), .int .u64 (e : Nat), .bool fin, .string data, .string more, .slice none 0 0] 26)).alloc (.cells #[.int .u64 0, .int .u64 0, .int .u64 0, .int .u64 0, .bool false, .string ⟨#[]⟩, .string ⟨#[]⟩, .slice none 0 0] 26)) = W1 := ⟨_, rfl⟩
  obtain ⟨F, hF⟩ : ∃ F, w.heap.size = F := ⟨_, rfl⟩
  obtain ⟨RB, hRB⟩ : ∃ RB, F + 1 = RB := ⟨_, rfl⟩
  have HRBw : Hid (w.heap.size ≤ RB) := hide (by omega)
  have HFw : Hid (w.heap.size ≤ F) := hide (by omega)
  have HFR : Hid (RB ≠ F) := hide (by omega)
  rw [hW1, hF] at HB
  rw [hW1, hF, hRB] at HRb
  rw [hW1] at HM
  rw [hW1]
  simp only [hF, hRB]
  have hne : ¬ RB = F := by omega
  have hne2 : ¬ F = RB := by omega
  clear hsz hW1 hRB hF
  by_cases hk : k = 26 ∨ k = 27
  · have hlx := HLx.out
    by_cases h8 : x.size < 8
    · have HV : Hid (HdV (hended ⟨k, a, b, e, fin, data, more, []⟩ x.data.toList) ⟨k, a, b, e, fin, data, more, []⟩ false) := hide (HdV.no (by unfold hended; simp only; rw [if_pos hk, if_pos (by omega)]))
      have h8i : (x.size : Int) < 8 := by omega
      clear hlx
      rcases hk with rfl | rfl
      · skip
        have p0 : W1.cell? ⟨F, 0, none⟩ = some (.int .u64 26) := HB.out.cell 0
        have f0 : W1.frozen? ⟨F, 0, none⟩ = false := HB.out.frozen 0
        have p1 : W1.cell? ⟨F, 1, none⟩ = some (.int .u64 (a : Nat)) := HB.out.cell 1
        have f1 : W1.frozen? ⟨F, 1, none⟩ = false := HB.out.frozen 1
        have p2 : W1.cell? ⟨F, 2, none⟩ = some (.int .u64 (b : Nat)) := HB.out.cell 2
        have f2 : W1.frozen? ⟨F, 2, none⟩ = false := HB.out.frozen 2
        have p3 : W1.cell? ⟨F, 3, none⟩ = some (.int .u64 (e : Nat)) := HB.out.cell 3
        have f3 : W1.frozen? ⟨F, 3, none⟩ = false := HB.out.frozen 3
        have p4 : W1.cell? ⟨F, 4, none⟩ = some (.bool fin) := HB.out.cell 4
        have f4 : W1.frozen? ⟨F, 4, none⟩ = false := HB.out.frozen 4
        have p5 : W1.cell? ⟨F, 5, none⟩ = some (.string data) := HB.out.cell 5
        have f5 : W1.frozen? ⟨F, 5, none⟩ = false := HB.out.frozen 5
        have p6 : W1.cell? ⟨F, 6, none⟩ = some (.string more) := HB.out.cell 6
        have f6 : W1.frozen? ⟨F, 6, none⟩ = false := HB.out.frozen 6
        have p7 : W1.cell? ⟨F, 7, none⟩ = some (.slice none 0 0) := HB.out.cell 7
        have f7 : W1.frozen? ⟨F, 7, none⟩ = false := HB.out.frozen 7
        have z0 : W1.cell? ⟨RB, 0, none⟩ = some (.int .u64 0) := HRb.out.cell 0
        have r0 : W1.frozen? ⟨RB, 0, none⟩ = false := HRb.out.frozen 0
        have z1 : W1.cell? ⟨RB, 1, none⟩ = some (.int .u64 0) := HRb.out.cell 1
        have r1 : W1.frozen? ⟨RB, 1, none⟩ = false := HRb.out.frozen 1
        have z2 : W1.cell? ⟨RB, 2, none⟩ = some (.int .u64 0) := HRb.out.cell 2
        have r2 : W1.frozen? ⟨RB, 2, none⟩ = false := HRb.out.frozen 2
        have z3 : W1.cell? ⟨RB, 3, none⟩ = some (.int .u64 0) := HRb.out.cell 3
        have r3 : W1.frozen? ⟨RB, 3, none⟩ = false := HRb.out.frozen 3
        have z4 : W1.cell? ⟨RB, 4, none⟩ = some (.bool false) := HRb.out.cell 4
        have r4 : W1.frozen? ⟨RB, 4, none⟩ = false := HRb.out.frozen 4
        have z5 : W1.cell? ⟨RB, 5, none⟩ = some (.string ⟨#[]⟩) := HRb.out.cell 5
        have r5 : W1.frozen? ⟨RB, 5, none⟩ = false := HRb.out.frozen 5
        have z6 : W1.cell? ⟨RB, 6, none⟩ = some (.string ⟨#[]⟩) := HRb.out.cell 6
        have r6 : W1.frozen? ⟨RB, 6, none⟩ = false := HRb.out.frozen 6
        have z7 : W1.cell? ⟨RB, 7, none⟩ = some (.slice none 0 0) := HRb.out.cell 7
        have r7 : W1.frozen? ⟨RB, 7, none⟩ = false := HRb.out.frozen 7
        have lF := HB.out.lt
        have lR := HRb.out.lt
        go_wp2_with fail
        have HE := hide (HdP.fin (f := ⟨26, a, b, e, fin, data, more, []⟩) HV.out rfl HM.out HRb.out HRBw.out)
        refine bodyPost_ret (results_cell_tmp_row rfl _ _ RB 26 (fcs none 0 0 ⟨26, a, b, e, fin, data, more, []⟩) _ rfl ?_ Tryd.underlying26 rfl (by kernel_rfl)) rfl ?_
        · exact HE.out.1
        exact HE.out.2
      · skip
        have p0 : W1.cell? ⟨F, 0, none⟩ = some (.int .u64 27) := HB.out.cell 0
        have f0 : W1.frozen? ⟨F, 0, none⟩ = false := HB.out.frozen 0
        have p1 : W1.cell? ⟨F, 1, none⟩ = some (.int .u64 (a : Nat)) := HB.out.cell 1
        have f1 : W1.frozen? ⟨F, 1, none⟩ = false := HB.out.frozen 1
        have p2 : W1.cell? ⟨F, 2, none⟩ = some (.int .u64 (b : Nat)) := HB.out.cell 2
        have f2 : W1.frozen? ⟨F, 2, none⟩ = false := HB.out.frozen 2
        have p3 : W1.cell? ⟨F, 3, none⟩ = some (.int .u64 (e : Nat)) := HB.out.cell 3
        have f3 : W1.frozen? ⟨F, 3, none⟩ = false := HB.out.frozen 3
        have p4 : W1.cell? ⟨F, 4, none⟩ = some (.bool fin) := HB.out.cell 4
        have f4 : W1.frozen? ⟨F, 4, none⟩ = false := HB.out.frozen 4
        have p5 : W1.cell? ⟨F, 5, none⟩ = some (.string data) := HB.out.cell 5
        have f5 : W1.frozen? ⟨F, 5, none⟩ = false := HB.out.frozen 5
        have p6 : W1.cell? ⟨F, 6, none⟩ = some (.string more) := HB.out.cell 6
        have f6 : W1.frozen? ⟨F, 6, none⟩ = false := HB.out.frozen 6
        have p7 : W1.cell? ⟨F, 7, none⟩ = some (.slice none 0 0) := HB.out.cell 7
        have f7 : W1.frozen? ⟨F, 7, none⟩ = false := HB.out.frozen 7
        have z0 : W1.cell? ⟨RB, 0, none⟩ = some (.int .u64 0) := HRb.out.cell 0
        have r0 : W1.frozen? ⟨RB, 0, none⟩ = false := HRb.out.frozen 0
        have z1 : W1.cell? ⟨RB, 1, none⟩ = some (.int .u64 0) := HRb.out.cell 1
        have r1 : W1.frozen? ⟨RB, 1, none⟩ = false := HRb.out.frozen 1
        have z2 : W1.cell? ⟨RB, 2, none⟩ = some (.int .u64 0) := HRb.out.cell 2
        have r2 : W1.frozen? ⟨RB, 2, none⟩ = false := HRb.out.frozen 2
        have z3 : W1.cell? ⟨RB, 3, none⟩ = some (.int .u64 0) := HRb.out.cell 3
        have r3 : W1.frozen? ⟨RB, 3, none⟩ = false := HRb.out.frozen 3
        have z4 : W1.cell? ⟨RB, 4, none⟩ = some (.bool false) := HRb.out.cell 4
        have r4 : W1.frozen? ⟨RB, 4, none⟩ = false := HRb.out.frozen 4
        have z5 : W1.cell? ⟨RB, 5, none⟩ = some (.string ⟨#[]⟩) := HRb.out.cell 5
        have r5 : W1.frozen? ⟨RB, 5, none⟩ = false := HRb.out.frozen 5
        have z6 : W1.cell? ⟨RB, 6, none⟩ = some (.string ⟨#[]⟩) := HRb.out.cell 6
        have r6 : W1.frozen? ⟨RB, 6, none⟩ = false := HRb.out.frozen 6
        have z7 : W1.cell? ⟨RB, 7, none⟩ = some (.slice none 0 0) := HRb.out.cell 7
        have r7 : W1.frozen? ⟨RB, 7, none⟩ = false := HRb.out.frozen 7
        have lF := HB.out.lt
        have lR := HRb.out.lt
        go_wp2_with fail
        have HE := hide (HdP.fin (f := ⟨27, a, b, e, fin, data, more, []⟩) HV.out rfl HM.out HRb.out HRBw.out)
        refine bodyPost_ret (results_cell_tmp_row rfl _ _ RB 26 (fcs none 0 0 ⟨27, a, b, e, fin, data, more, []⟩) _ rfl ?_ Tryd.underlying26 rfl (by kernel_rfl)) rfl ?_
        · exact HE.out.1
        exact HE.out.2
    · have HV : Hid (HdV (hended ⟨k, a, b, e, fin, data, more, []⟩ x.data.toList) ⟨k, a, b, e, fin, (x.extract 0 8), more, []⟩ true) := hide (HdV.yes (by unfold hended; simp only; rw [if_pos hk, if_neg (by omega), ext_take]; simp))
      have h8i : ¬ (x.size : Int) < 8 := by omega
      clear hlx
      rcases hk with rfl | rfl
      · skip
        have HX := hide (HRb.out.far (p := ⟨F, 5, none⟩) HFR.out (.string (x.extract 0 8)))
        have HMX := hide (HM.out.setCell (p := ⟨F, 5, none⟩) (.inr HFw.out) (.string (x.extract 0 8)))
        have p0 : W1.cell? ⟨F, 0, none⟩ = some (.int .u64 26) := HB.out.cell 0
        have f0 : W1.frozen? ⟨F, 0, none⟩ = false := HB.out.frozen 0
        have p1 : W1.cell? ⟨F, 1, none⟩ = some (.int .u64 (a : Nat)) := HB.out.cell 1
        have f1 : W1.frozen? ⟨F, 1, none⟩ = false := HB.out.frozen 1
        have p2 : W1.cell? ⟨F, 2, none⟩ = some (.int .u64 (b : Nat)) := HB.out.cell 2
        have f2 : W1.frozen? ⟨F, 2, none⟩ = false := HB.out.frozen 2
        have p3 : W1.cell? ⟨F, 3, none⟩ = some (.int .u64 (e : Nat)) := HB.out.cell 3
        have f3 : W1.frozen? ⟨F, 3, none⟩ = false := HB.out.frozen 3
        have p4 : W1.cell? ⟨F, 4, none⟩ = some (.bool fin) := HB.out.cell 4
        have f4 : W1.frozen? ⟨F, 4, none⟩ = false := HB.out.frozen 4
        have p5 : W1.cell? ⟨F, 5, none⟩ = some (.string data) := HB.out.cell 5
        have f5 : W1.frozen? ⟨F, 5, none⟩ = false := HB.out.frozen 5
        have p6 : W1.cell? ⟨F, 6, none⟩ = some (.string more) := HB.out.cell 6
        have f6 : W1.frozen? ⟨F, 6, none⟩ = false := HB.out.frozen 6
        have p7 : W1.cell? ⟨F, 7, none⟩ = some (.slice none 0 0) := HB.out.cell 7
        have f7 : W1.frozen? ⟨F, 7, none⟩ = false := HB.out.frozen 7
        have z0 : W1.cell? ⟨RB, 0, none⟩ = some (.int .u64 0) := HRb.out.cell 0
        have r0 : W1.frozen? ⟨RB, 0, none⟩ = false := HRb.out.frozen 0
        have z1 : W1.cell? ⟨RB, 1, none⟩ = some (.int .u64 0) := HRb.out.cell 1
        have r1 : W1.frozen? ⟨RB, 1, none⟩ = false := HRb.out.frozen 1
        have z2 : W1.cell? ⟨RB, 2, none⟩ = some (.int .u64 0) := HRb.out.cell 2
        have r2 : W1.frozen? ⟨RB, 2, none⟩ = false := HRb.out.frozen 2
        have z3 : W1.cell? ⟨RB, 3, none⟩ = some (.int .u64 0) := HRb.out.cell 3
        have r3 : W1.frozen? ⟨RB, 3, none⟩ = false := HRb.out.frozen 3
        have z4 : W1.cell? ⟨RB, 4, none⟩ = some (.bool false) := HRb.out.cell 4
        have r4 : W1.frozen? ⟨RB, 4, none⟩ = false := HRb.out.frozen 4
        have z5 : W1.cell? ⟨RB, 5, none⟩ = some (.string ⟨#[]⟩) := HRb.out.cell 5
        have r5 : W1.frozen? ⟨RB, 5, none⟩ = false := HRb.out.frozen 5
        have z6 : W1.cell? ⟨RB, 6, none⟩ = some (.string ⟨#[]⟩) := HRb.out.cell 6
        have r6 : W1.frozen? ⟨RB, 6, none⟩ = false := HRb.out.frozen 6
        have z7 : W1.cell? ⟨RB, 7, none⟩ = some (.slice none 0 0) := HRb.out.cell 7
        have r7 : W1.frozen? ⟨RB, 7, none⟩ = false := HRb.out.frozen 7
        have lF := HB.out.lt
        have lR := HRb.out.lt
        go_wp2_with fail
        have HE := hide (HdP.fin (f := ⟨26, a, b, e, fin, (x.extract 0 8), more, []⟩) HV.out rfl HMX.out HX.out HRBw.out)
        refine bodyPost_ret (results_cell_tmp_row rfl _ _ RB 26 (fcs none 0 0 ⟨26, a, b, e, fin, (x.extract 0 8), more, []⟩) _ rfl ?_ Tryd.underlying26 rfl (by kernel_rfl)) rfl ?_
        · exact HE.out.1
        exact HE.out.2
      · skip
        have HX := hide (HRb.out.far (p := ⟨F, 5, none⟩) HFR.out (.string (x.extract 0 8)))
        have HMX := hide (HM.out.setCell (p := ⟨F, 5, none⟩) (.inr HFw.out) (.string (x.extract 0 8)))
        have p0 : W1.cell? ⟨F, 0, none⟩ = some (.int .u64 27) := HB.out.cell 0
        have f0 : W1.frozen? ⟨F, 0, none⟩ = false := HB.out.frozen 0
        have p1 : W1.cell? ⟨F, 1, none⟩ = some (.int .u64 (a : Nat)) := HB.out.cell 1
        have f1 : W1.frozen? ⟨F, 1, none⟩ = false := HB.out.frozen 1
        have p2 : W1.cell? ⟨F, 2, none⟩ = some (.int .u64 (b : Nat)) := HB.out.cell 2
        have f2 : W1.frozen? ⟨F, 2, none⟩ = false := HB.out.frozen 2
        have p3 : W1.cell? ⟨F, 3, none⟩ = some (.int .u64 (e : Nat)) := HB.out.cell 3
        have f3 : W1.frozen? ⟨F, 3, none⟩ = false := HB.out.frozen 3
        have p4 : W1.cell? ⟨F, 4, none⟩ = some (.bool fin) := HB.out.cell 4
        have f4 : W1.frozen? ⟨F, 4, none⟩ = false := HB.out.frozen 4
        have p5 : W1.cell? ⟨F, 5, none⟩ = some (.string data) := HB.out.cell 5
        have f5 : W1.frozen? ⟨F, 5, none⟩ = false := HB.out.frozen 5
        have p6 : W1.cell? ⟨F, 6, none⟩ = some (.string more) := HB.out.cell 6
        have f6 : W1.frozen? ⟨F, 6, none⟩ = false := HB.out.frozen 6
        have p7 : W1.cell? ⟨F, 7, none⟩ = some (.slice none 0 0) := HB.out.cell 7
        have f7 : W1.frozen? ⟨F, 7, none⟩ = false := HB.out.frozen 7
        have z0 : W1.cell? ⟨RB, 0, none⟩ = some (.int .u64 0) := HRb.out.cell 0
        have r0 : W1.frozen? ⟨RB, 0, none⟩ = false := HRb.out.frozen 0
        have z1 : W1.cell? ⟨RB, 1, none⟩ = some (.int .u64 0) := HRb.out.cell 1
        have r1 : W1.frozen? ⟨RB, 1, none⟩ = false := HRb.out.frozen 1
        have z2 : W1.cell? ⟨RB, 2, none⟩ = some (.int .u64 0) := HRb.out.cell 2
        have r2 : W1.frozen? ⟨RB, 2, none⟩ = false := HRb.out.frozen 2
        have z3 : W1.cell? ⟨RB, 3, none⟩ = some (.int .u64 0) := HRb.out.cell 3
        have r3 : W1.frozen? ⟨RB, 3, none⟩ = false := HRb.out.frozen 3
        have z4 : W1.cell? ⟨RB, 4, none⟩ = some (.bool false) := HRb.out.cell 4
        have r4 : W1.frozen? ⟨RB, 4, none⟩ = false := HRb.out.frozen 4
        have z5 : W1.cell? ⟨RB, 5, none⟩ = some (.string ⟨#[]⟩) := HRb.out.cell 5
        have r5 : W1.frozen? ⟨RB, 5, none⟩ = false := HRb.out.frozen 5
        have z6 : W1.cell? ⟨RB, 6, none⟩ = some (.string ⟨#[]⟩) := HRb.out.cell 6
        have r6 : W1.frozen? ⟨RB, 6, none⟩ = false := HRb.out.frozen 6
        have z7 : W1.cell? ⟨RB, 7, none⟩ = some (.slice none 0 0) := HRb.out.cell 7
        have r7 : W1.frozen? ⟨RB, 7, none⟩ = false := HRb.out.frozen 7
        have lF := HB.out.lt
        have lR := HRb.out.lt
        go_wp2_with fail
        have HE := hide (HdP.fin (f := ⟨27, a, b, e, fin, (x.extract 0 8), more, []⟩) HV.out rfl HMX.out HX.out HRBw.out)
        refine bodyPost_ret (results_cell_tmp_row rfl _ _ RB 26 (fcs none 0 0 ⟨27, a, b, e, fin, (x.extract 0 8), more, []⟩) _ rfl ?_ Tryd.underlying26 rfl (by kernel_rfl)) rfl ?_
        · exact HE.out.1
        exact HE.out.2
  · by_cases h24 : k = 24
    · subst h24
      cases hl : x.data.toList with
      | nil =>
        have h0 : x.size = 0 := by rw [← HLx.out, hl]; rfl
        have HV : Hid (HdV (hended ⟨24, a, b, e, fin, data, more, []⟩ x.data.toList) ⟨24, a, b, e, fin, data, more, []⟩ false) := hide (HdV.no (by rw [hl]; unfold hended; rfl))
        have h0i : (x.size : Int) < 1 := by omega
        have h0n : decide (x.size < 1) = true := decide_eq_true (by omega)
        have h0m : (x.size : Int) = 0 := by omega
        clear hl hk
        have p0 : W1.cell? ⟨F, 0, none⟩ = some (.int .u64 24) := HB.out.cell 0
        have f0 : W1.frozen? ⟨F, 0, none⟩ = false := HB.out.frozen 0
        have p1 : W1.cell? ⟨F, 1, none⟩ = some (.int .u64 (a : Nat)) := HB.out.cell 1
        have f1 : W1.frozen? ⟨F, 1, none⟩ = false := HB.out.frozen 1
        have p2 : W1.cell? ⟨F, 2, none⟩ = some (.int .u64 (b : Nat)) := HB.out.cell 2
        have f2 : W1.frozen? ⟨F, 2, none⟩ = false := HB.out.frozen 2
        have p3 : W1.cell? ⟨F, 3, none⟩ = some (.int .u64 (e : Nat)) := HB.out.cell 3
        have f3 : W1.frozen? ⟨F, 3, none⟩ = false := HB.out.frozen 3
        have p4 : W1.cell? ⟨F, 4, none⟩ = some (.bool fin) := HB.out.cell 4
        have f4 : W1.frozen? ⟨F, 4, none⟩ = false := HB.out.frozen 4
        have p5 : W1.cell? ⟨F, 5, none⟩ = some (.string data) := HB.out.cell 5
        have f5 : W1.frozen? ⟨F, 5, none⟩ = false := HB.out.frozen 5
        have p6 : W1.cell? ⟨F, 6, none⟩ = some (.string more) := HB.out.cell 6
        have f6 : W1.frozen? ⟨F, 6, none⟩ = false := HB.out.frozen 6
        have p7 : W1.cell? ⟨F, 7, none⟩ = some (.slice none 0 0) := HB.out.cell 7
        have f7 : W1.frozen? ⟨F, 7, none⟩ = false := HB.out.frozen 7
        have z0 : W1.cell? ⟨RB, 0, none⟩ = some (.int .u64 0) := HRb.out.cell 0
        have r0 : W1.frozen? ⟨RB, 0, none⟩ = false := HRb.out.frozen 0
        have z1 : W1.cell? ⟨RB, 1, none⟩ = some (.int .u64 0) := HRb.out.cell 1
        have r1 : W1.frozen? ⟨RB, 1, none⟩ = false := HRb.out.frozen 1
        have z2 : W1.cell? ⟨RB, 2, none⟩ = some (.int .u64 0) := HRb.out.cell 2
        have r2 : W1.frozen? ⟨RB, 2, none⟩ = false := HRb.out.frozen 2
        have z3 : W1.cell? ⟨RB, 3, none⟩ = some (.int .u64 0) := HRb.out.cell 3
        have r3 : W1.frozen? ⟨RB, 3, none⟩ = false := HRb.out.frozen 3
        have z4 : W1.cell? ⟨RB, 4, none⟩ = some (.bool false) := HRb.out.cell 4
        have r4 : W1.frozen? ⟨RB, 4, none⟩ = false := HRb.out.frozen 4
        have z5 : W1.cell? ⟨RB, 5, none⟩ = some (.string ⟨#[]⟩) := HRb.out.cell 5
        have r5 : W1.frozen? ⟨RB, 5, none⟩ = false := HRb.out.frozen 5
        have z6 : W1.cell? ⟨RB, 6, none⟩ = some (.string ⟨#[]⟩) := HRb.out.cell 6
        have r6 : W1.frozen? ⟨RB, 6, none⟩ = false := HRb.out.frozen 6
        have z7 : W1.cell? ⟨RB, 7, none⟩ = some (.slice none 0 0) := HRb.out.cell 7
        have r7 : W1.frozen? ⟨RB, 7, none⟩ = false := HRb.out.frozen 7
        have lF := HB.out.lt
        have lR := HRb.out.lt
        go_wp2_with fail
        have HE := hide (HdP.fin (f := ⟨24, a, b, e, fin, data, more, []⟩) HV.out rfl HM.out HRb.out HRBw.out)
        refine bodyPost_ret (results_cell_tmp_row rfl _ _ RB 26 (fcs none 0 0 ⟨24, a, b, e, fin, data, more, []⟩) _ rfl ?_ Tryd.underlying26 rfl (by kernel_rfl)) rfl ?_
        · exact HE.out.1
        exact HE.out.2
      | cons q t =>
        have hsz : x.size = t.length + 1 := by rw [← HLx.out, hl]; rfl
        have hq : x[0]'(by omega) = q := getElem_list x 0 _ q (by rw [hl]; rfl)
        have hq256 := q.toNat_lt
        have h0 : ¬ (x.size : Int) < 1 := by omega
        have h0n : decide (x.size < 1) = false := decide_eq_false (by omega)
        have h0m : decide ((x.size : Int) < 1) = false := decide_eq_false (by omega)
        have h0p : (0 : Int) < x.size := by omega
        have h0q : 0 < x.size := by omega
        by_cases h17 : x.size < 17 + q.toNat
        · have HV : Hid (HdV (hended ⟨24, a, b, e, fin, data, more, []⟩ x.data.toList) ⟨24, a, b, e, fin, data, more, []⟩ false) := hide (HdV.no (by rw [hl]; unfold hended; simp; omega))
          have g1 : decide ((x.size : Int) < 17 + (q.toNat : Int)) = true := decide_eq_true (by omega)
          have g2 : decide (x.size < 17 + q.toNat) = true := decide_eq_true h17
          clear hl hk
          have p0 : W1.cell? ⟨F, 0, none⟩ = some (.int .u64 24) := HB.out.cell 0
          have f0 : W1.frozen? ⟨F, 0, none⟩ = false := HB.out.frozen 0
          have p1 : W1.cell? ⟨F, 1, none⟩ = some (.int .u64 (a : Nat)) := HB.out.cell 1
          have f1 : W1.frozen? ⟨F, 1, none⟩ = false := HB.out.frozen 1
          have p2 : W1.cell? ⟨F, 2, none⟩ = some (.int .u64 (b : Nat)) := HB.out.cell 2
          have f2 : W1.frozen? ⟨F, 2, none⟩ = false := HB.out.frozen 2
          have p3 : W1.cell? ⟨F, 3, none⟩ = some (.int .u64 (e : Nat)) := HB.out.cell 3
          have f3 : W1.frozen? ⟨F, 3, none⟩ = false := HB.out.frozen 3
          have p4 : W1.cell? ⟨F, 4, none⟩ = some (.bool fin) := HB.out.cell 4
          have f4 : W1.frozen? ⟨F, 4, none⟩ = false := HB.out.frozen 4
          have p5 : W1.cell? ⟨F, 5, none⟩ = some (.string data) := HB.out.cell 5
          have f5 : W1.frozen? ⟨F, 5, none⟩ = false := HB.out.frozen 5
          have p6 : W1.cell? ⟨F, 6, none⟩ = some (.string more) := HB.out.cell 6
          have f6 : W1.frozen? ⟨F, 6, none⟩ = false := HB.out.frozen 6
          have p7 : W1.cell? ⟨F, 7, none⟩ = some (.slice none 0 0) := HB.out.cell 7
          have f7 : W1.frozen? ⟨F, 7, none⟩ = false := HB.out.frozen 7
          have z0 : W1.cell? ⟨RB, 0, none⟩ = some (.int .u64 0) := HRb.out.cell 0
          have r0 : W1.frozen? ⟨RB, 0, none⟩ = false := HRb.out.frozen 0
          have z1 : W1.cell? ⟨RB, 1, none⟩ = some (.int .u64 0) := HRb.out.cell 1
          have r1 : W1.frozen? ⟨RB, 1, none⟩ = false := HRb.out.frozen 1
          have z2 : W1.cell? ⟨RB, 2, none⟩ = some (.int .u64 0) := HRb.out.cell 2
          have r2 : W1.frozen? ⟨RB, 2, none⟩ = false := HRb.out.frozen 2
          have z3 : W1.cell? ⟨RB, 3, none⟩ = some (.int .u64 0) := HRb.out.cell 3
          have r3 : W1.frozen? ⟨RB, 3, none⟩ = false := HRb.out.frozen 3
          have z4 : W1.cell? ⟨RB, 4, none⟩ = some (.bool false) := HRb.out.cell 4
          have r4 : W1.frozen? ⟨RB, 4, none⟩ = false := HRb.out.frozen 4
          have z5 : W1.cell? ⟨RB, 5, none⟩ = some (.string ⟨#[]⟩) := HRb.out.cell 5
          have r5 : W1.frozen? ⟨RB, 5, none⟩ = false := HRb.out.frozen 5
          have z6 : W1.cell? ⟨RB, 6, none⟩ = some (.string ⟨#[]⟩) := HRb.out.cell 6
          have r6 : W1.frozen? ⟨RB, 6, none⟩ = false := HRb.out.frozen 6
          have z7 : W1.cell? ⟨RB, 7, none⟩ = some (.slice none 0 0) := HRb.out.cell 7
          have r7 : W1.frozen? ⟨RB, 7, none⟩ = false := HRb.out.frozen 7
          have lF := HB.out.lt
          have lR := HRb.out.lt
          go_wp2_with fail
          have HE := hide (HdP.fin (f := ⟨24, a, b, e, fin, data, more, []⟩) HV.out rfl HM.out HRb.out HRBw.out)
          refine bodyPost_ret (results_cell_tmp_row rfl _ _ RB 26 (fcs none 0 0 ⟨24, a, b, e, fin, data, more, []⟩) _ rfl ?_ Tryd.underlying26 rfl (by kernel_rfl)) rfl ?_
          · exact HE.out.1
          exact HE.out.2
        · obtain ⟨N, hN⟩ : ∃ N, 1 + q.toNat = N := ⟨_, rfl⟩
          obtain ⟨M, hM⟩ : ∃ M, N + 16 = M := ⟨_, rfl⟩
          have HV : Hid (HdV (hended ⟨24, a, b, e, fin, data, more, []⟩ x.data.toList) ⟨24, a, b, e, fin, (x.extract 1 N), (x.extract N M), []⟩ true) := hide (HdV.yes (by
            rw [ext_take, ext_take, hl, ← hM, ← hN]
            unfold hended
            simp [Nat.add_comm 1]
            omega))
          have g1 : decide ((x.size : Int) < 17 + (q.toNat : Int)) = false := decide_eq_false (by omega)
          have g2 : decide (x.size < 17 + q.toNat) = false := decide_eq_false h17
          have hNi : (1 : Int) + (q.toNat : Int) = (N : Int) := by omega
          have hN1 : 1 ≤ N := by omega
          have hNx : M ≤ x.size := by omega
          have hNM : N ≤ M := by omega
          have hNx2 : N ≤ x.size := by omega
          have hN2 : (N : Int) + 16 = (M : Int) := by omega
          have HX := hide ((HRb.out.far (p := ⟨F, 5, none⟩) HFR.out (.string (x.extract 1 N))).far (p := ⟨F, 6, none⟩) HFR.out (.string (x.extract N M)))
          have HMX := hide ((HM.out.setCell (p := ⟨F, 5, none⟩) (.inr HFw.out) (.string (x.extract 1 N))).setCell (p := ⟨F, 6, none⟩) (.inr HFw.out) (.string (x.extract N M)))
          clear hl hk hN hM
          have p0 : W1.cell? ⟨F, 0, none⟩ = some (.int .u64 24) := HB.out.cell 0
          have f0 : W1.frozen? ⟨F, 0, none⟩ = false := HB.out.frozen 0
          have p1 : W1.cell? ⟨F, 1, none⟩ = some (.int .u64 (a : Nat)) := HB.out.cell 1
          have f1 : W1.frozen? ⟨F, 1, none⟩ = false := HB.out.frozen 1
          have p2 : W1.cell? ⟨F, 2, none⟩ = some (.int .u64 (b : Nat)) := HB.out.cell 2
          have f2 : W1.frozen? ⟨F, 2, none⟩ = false := HB.out.frozen 2
          have p3 : W1.cell? ⟨F, 3, none⟩ = some (.int .u64 (e : Nat)) := HB.out.cell 3
          have f3 : W1.frozen? ⟨F, 3, none⟩ = false := HB.out.frozen 3
          have p4 : W1.cell? ⟨F, 4, none⟩ = some (.bool fin) := HB.out.cell 4
          have f4 : W1.frozen? ⟨F, 4, none⟩ = false := HB.out.frozen 4
          have p5 : W1.cell? ⟨F, 5, none⟩ = some (.string data) := HB.out.cell 5
          have f5 : W1.frozen? ⟨F, 5, none⟩ = false := HB.out.frozen 5
          have p6 : W1.cell? ⟨F, 6, none⟩ = some (.string more) := HB.out.cell 6
          have f6 : W1.frozen? ⟨F, 6, none⟩ = false := HB.out.frozen 6
          have p7 : W1.cell? ⟨F, 7, none⟩ = some (.slice none 0 0) := HB.out.cell 7
          have f7 : W1.frozen? ⟨F, 7, none⟩ = false := HB.out.frozen 7
          have z0 : W1.cell? ⟨RB, 0, none⟩ = some (.int .u64 0) := HRb.out.cell 0
          have r0 : W1.frozen? ⟨RB, 0, none⟩ = false := HRb.out.frozen 0
          have z1 : W1.cell? ⟨RB, 1, none⟩ = some (.int .u64 0) := HRb.out.cell 1
          have r1 : W1.frozen? ⟨RB, 1, none⟩ = false := HRb.out.frozen 1
          have z2 : W1.cell? ⟨RB, 2, none⟩ = some (.int .u64 0) := HRb.out.cell 2
          have r2 : W1.frozen? ⟨RB, 2, none⟩ = false := HRb.out.frozen 2
          have z3 : W1.cell? ⟨RB, 3, none⟩ = some (.int .u64 0) := HRb.out.cell 3
          have r3 : W1.frozen? ⟨RB, 3, none⟩ = false := HRb.out.frozen 3
          have z4 : W1.cell? ⟨RB, 4, none⟩ = some (.bool false) := HRb.out.cell 4
          have r4 : W1.frozen? ⟨RB, 4, none⟩ = false := HRb.out.frozen 4
          have z5 : W1.cell? ⟨RB, 5, none⟩ = some (.string ⟨#[]⟩) := HRb.out.cell 5
          have r5 : W1.frozen? ⟨RB, 5, none⟩ = false := HRb.out.frozen 5
          have z6 : W1.cell? ⟨RB, 6, none⟩ = some (.string ⟨#[]⟩) := HRb.out.cell 6
          have r6 : W1.frozen? ⟨RB, 6, none⟩ = false := HRb.out.frozen 6
          have z7 : W1.cell? ⟨RB, 7, none⟩ = some (.slice none 0 0) := HRb.out.cell 7
          have r7 : W1.frozen? ⟨RB, 7, none⟩ = false := HRb.out.frozen 7
          have lF := HB.out.lt
          have lR := HRb.out.lt
          go_wp2_with fail
          have HE := hide (HdP.fin (f := ⟨24, a, b, e, fin, (x.extract 1 N), (x.extract N M), []⟩) HV.out rfl HMX.out HX.out HRBw.out)
          refine bodyPost_ret (results_cell_tmp_row rfl _ _ RB 26 (fcs none 0 0 ⟨24, a, b, e, fin, (x.extract 1 N), (x.extract N M), []⟩) _ rfl ?_ Tryd.underlying26 rfl (by kernel_rfl)) rfl ?_
          · exact HE.out.1
          exact HE.out.2
    · have b26 : ((k : Int) == 26) = false := by simp; omega
      have b27 : ((k : Int) == 27) = false := by simp; omega
      have b24 : ((k : Int) == 24) = false := by simp; omega
      have c26 : (k == 26) = false := by simp; omega
      have c27 : (k == 27) = false := by simp; omega
      have HD := hide (fun w => rdata_any w k)
      have hend : hended ⟨k, a, b, e, fin, data, more, []⟩ x.data.toList = if fdata k = false then some ⟨k, a, b, e, fin, data, more, []⟩ else (vnum x.data.toList).bind fun y => if y.2.length < y.1 then none else some ⟨k, a, b, e, fin, ⟨(y.2.take y.1).toArray⟩, more, []⟩ := by
        unfold hended
        simp only
        rw [if_neg hk, if_neg h24]
      have HEnd := hide hend
      clear hend hk h24
      cases hd : fdata k with
      | false =>
        rw [hd] at HD
        have HV : Hid (HdV (hended ⟨k, a, b, e, fin, data, more, []⟩ x.data.toList) ⟨k, a, b, e, fin, data, more, []⟩ true) := hide (HdV.yes (by rw [HEnd.out, if_pos hd]))
        clear hd
        have p0 : W1.cell? ⟨F, 0, none⟩ = some (.int .u64 (k : Nat)) := HB.out.cell 0
        have f0 : W1.frozen? ⟨F, 0, none⟩ = false := HB.out.frozen 0
        have p1 : W1.cell? ⟨F, 1, none⟩ = some (.int .u64 (a : Nat)) := HB.out.cell 1
        have f1 : W1.frozen? ⟨F, 1, none⟩ = false := HB.out.frozen 1
        have p2 : W1.cell? ⟨F, 2, none⟩ = some (.int .u64 (b : Nat)) := HB.out.cell 2
        have f2 : W1.frozen? ⟨F, 2, none⟩ = false := HB.out.frozen 2
        have p3 : W1.cell? ⟨F, 3, none⟩ = some (.int .u64 (e : Nat)) := HB.out.cell 3
        have f3 : W1.frozen? ⟨F, 3, none⟩ = false := HB.out.frozen 3
        have p4 : W1.cell? ⟨F, 4, none⟩ = some (.bool fin) := HB.out.cell 4
        have f4 : W1.frozen? ⟨F, 4, none⟩ = false := HB.out.frozen 4
        have p5 : W1.cell? ⟨F, 5, none⟩ = some (.string data) := HB.out.cell 5
        have f5 : W1.frozen? ⟨F, 5, none⟩ = false := HB.out.frozen 5
        have p6 : W1.cell? ⟨F, 6, none⟩ = some (.string more) := HB.out.cell 6
        have f6 : W1.frozen? ⟨F, 6, none⟩ = false := HB.out.frozen 6
        have p7 : W1.cell? ⟨F, 7, none⟩ = some (.slice none 0 0) := HB.out.cell 7
        have f7 : W1.frozen? ⟨F, 7, none⟩ = false := HB.out.frozen 7
        have z0 : W1.cell? ⟨RB, 0, none⟩ = some (.int .u64 0) := HRb.out.cell 0
        have r0 : W1.frozen? ⟨RB, 0, none⟩ = false := HRb.out.frozen 0
        have z1 : W1.cell? ⟨RB, 1, none⟩ = some (.int .u64 0) := HRb.out.cell 1
        have r1 : W1.frozen? ⟨RB, 1, none⟩ = false := HRb.out.frozen 1
        have z2 : W1.cell? ⟨RB, 2, none⟩ = some (.int .u64 0) := HRb.out.cell 2
        have r2 : W1.frozen? ⟨RB, 2, none⟩ = false := HRb.out.frozen 2
        have z3 : W1.cell? ⟨RB, 3, none⟩ = some (.int .u64 0) := HRb.out.cell 3
        have r3 : W1.frozen? ⟨RB, 3, none⟩ = false := HRb.out.frozen 3
        have z4 : W1.cell? ⟨RB, 4, none⟩ = some (.bool false) := HRb.out.cell 4
        have r4 : W1.frozen? ⟨RB, 4, none⟩ = false := HRb.out.frozen 4
        have z5 : W1.cell? ⟨RB, 5, none⟩ = some (.string ⟨#[]⟩) := HRb.out.cell 5
        have r5 : W1.frozen? ⟨RB, 5, none⟩ = false := HRb.out.frozen 5
        have z6 : W1.cell? ⟨RB, 6, none⟩ = some (.string ⟨#[]⟩) := HRb.out.cell 6
        have r6 : W1.frozen? ⟨RB, 6, none⟩ = false := HRb.out.frozen 6
        have z7 : W1.cell? ⟨RB, 7, none⟩ = some (.slice none 0 0) := HRb.out.cell 7
        have r7 : W1.frozen? ⟨RB, 7, none⟩ = false := HRb.out.frozen 7
        have lF := HB.out.lt
        have lR := HRb.out.lt
        go_wp2_with fail
        refine (HD.out _).mono ?_
        rintro e0 w2 ⟨rfl, rfl⟩
        go_wp2_with fail
        have HE := hide (HdP.fin (f := ⟨k, a, b, e, fin, data, more, []⟩) HV.out rfl HM.out HRb.out HRBw.out)
        refine bodyPost_ret (results_cell_tmp_row rfl _ _ RB 26 (fcs none 0 0 ⟨k, a, b, e, fin, data, more, []⟩) _ rfl ?_ Tryd.underlying26 rfl (by kernel_rfl)) rfl ?_
        · exact HE.out.1
        exact HE.out.2
      | true =>
        rw [hd] at HD
        have HEnd2 := hide (HEnd.out.trans (if_neg (by rw [hd]; simp)))
        clear hd
        have HT := hide (fun w => rtake_any w x)
        obtain ⟨n, hn⟩ : ∃ n, (vtake x.data.toList).n = n := ⟨_, rfl⟩
        obtain ⟨r, hr⟩ : ∃ r, (vtake x.data.toList).rest = r := ⟨_, rfl⟩
        obtain ⟨er, her⟩ : ∃ r, (vtake x.data.toList).e = r := ⟨_, rfl⟩
        have hrl : r.length ≤ x.size := by rw [← hr, ← HLx.out]; exact vtake_rest _
        have hn62 : n < 4611686018427387904 := by rw [← hn]; exact vtake_n_lt _
        obtain ⟨T, hT, hTs, hTl⟩ := putB2 r
        rw [hn, hr, her, hT] at HT
        have hvn : vnum x.data.toList = if er = 0 then some (n, r) else none := by unfold vnum; rw [her, hn, hr]
        have HVn := hide hvn
        have hTx : T.size ≤ 1000000 := by omega
        clear hn hr her hT hvn hrl
        by_cases h0 : er = 0
        · subst h0
          by_cases hbig : T.size < n
          · have HV : Hid (HdV (hended ⟨k, a, b, e, fin, data, more, []⟩ x.data.toList) ⟨k, a, b, e, fin, data, more, []⟩ false) := hide (HdV.no (by rw [HEnd2.out, HVn.out, if_pos rfl]; simp only [Option.bind_some]; rw [if_pos (by omega)]))
            have g1 : decide ((T.size : Int) < n) = true := decide_eq_true (by omega)
            have g2 : decide (T.size < n) = true := decide_eq_true hbig
            have g3 : IntKind.u64.wrap (T.size : Int) = T.size := IntWalk.u64_in _ (by omega)
            clear hTs hTl
            have p0 : W1.cell? ⟨F, 0, none⟩ = some (.int .u64 (k : Nat)) := HB.out.cell 0
            have f0 : W1.frozen? ⟨F, 0, none⟩ = false := HB.out.frozen 0
            have p1 : W1.cell? ⟨F, 1, none⟩ = some (.int .u64 (a : Nat)) := HB.out.cell 1
            have f1 : W1.frozen? ⟨F, 1, none⟩ = false := HB.out.frozen 1
            have p2 : W1.cell? ⟨F, 2, none⟩ = some (.int .u64 (b : Nat)) := HB.out.cell 2
            have f2 : W1.frozen? ⟨F, 2, none⟩ = false := HB.out.frozen 2
            have p3 : W1.cell? ⟨F, 3, none⟩ = some (.int .u64 (e : Nat)) := HB.out.cell 3
            have f3 : W1.frozen? ⟨F, 3, none⟩ = false := HB.out.frozen 3
            have p4 : W1.cell? ⟨F, 4, none⟩ = some (.bool fin) := HB.out.cell 4
            have f4 : W1.frozen? ⟨F, 4, none⟩ = false := HB.out.frozen 4
            have p5 : W1.cell? ⟨F, 5, none⟩ = some (.string data) := HB.out.cell 5
            have f5 : W1.frozen? ⟨F, 5, none⟩ = false := HB.out.frozen 5
            have p6 : W1.cell? ⟨F, 6, none⟩ = some (.string more) := HB.out.cell 6
            have f6 : W1.frozen? ⟨F, 6, none⟩ = false := HB.out.frozen 6
            have p7 : W1.cell? ⟨F, 7, none⟩ = some (.slice none 0 0) := HB.out.cell 7
            have f7 : W1.frozen? ⟨F, 7, none⟩ = false := HB.out.frozen 7
            have z0 : W1.cell? ⟨RB, 0, none⟩ = some (.int .u64 0) := HRb.out.cell 0
            have r0 : W1.frozen? ⟨RB, 0, none⟩ = false := HRb.out.frozen 0
            have z1 : W1.cell? ⟨RB, 1, none⟩ = some (.int .u64 0) := HRb.out.cell 1
            have r1 : W1.frozen? ⟨RB, 1, none⟩ = false := HRb.out.frozen 1
            have z2 : W1.cell? ⟨RB, 2, none⟩ = some (.int .u64 0) := HRb.out.cell 2
            have r2 : W1.frozen? ⟨RB, 2, none⟩ = false := HRb.out.frozen 2
            have z3 : W1.cell? ⟨RB, 3, none⟩ = some (.int .u64 0) := HRb.out.cell 3
            have r3 : W1.frozen? ⟨RB, 3, none⟩ = false := HRb.out.frozen 3
            have z4 : W1.cell? ⟨RB, 4, none⟩ = some (.bool false) := HRb.out.cell 4
            have r4 : W1.frozen? ⟨RB, 4, none⟩ = false := HRb.out.frozen 4
            have z5 : W1.cell? ⟨RB, 5, none⟩ = some (.string ⟨#[]⟩) := HRb.out.cell 5
            have r5 : W1.frozen? ⟨RB, 5, none⟩ = false := HRb.out.frozen 5
            have z6 : W1.cell? ⟨RB, 6, none⟩ = some (.string ⟨#[]⟩) := HRb.out.cell 6
            have r6 : W1.frozen? ⟨RB, 6, none⟩ = false := HRb.out.frozen 6
            have z7 : W1.cell? ⟨RB, 7, none⟩ = some (.slice none 0 0) := HRb.out.cell 7
            have r7 : W1.frozen? ⟨RB, 7, none⟩ = false := HRb.out.frozen 7
            have lF := HB.out.lt
            have lR := HRb.out.lt
            go_wp2_with fail
            refine (HD.out _).mono ?_
            rintro e0 w2 ⟨rfl, rfl⟩
            go_wp2_with fail
            refine (HT.out _).mono ?_
            rintro e0 w2 ⟨rfl, m2⟩
            have HB2 := hide (m2.blk HB.out (by simp))
            have HR2 := hide (m2.blk HRb.out (by simp))
            have HM2 := hide (HM.out.trans m2 (by simp))
            clear p0 f0 z0 r0 p1 f1 z1 r1 p2 f2 z2 r2 p3 f3 z3 r3 p4 f4 z4 r4 p5 f5 z5 r5 p6 f6 z6 r6 p7 f7 z7 r7 lF lR m2
            have p0 : w2.cell? ⟨F, 0, none⟩ = some (.int .u64 (k : Nat)) := HB2.out.cell 0
            have f0 : w2.frozen? ⟨F, 0, none⟩ = false := HB2.out.frozen 0
            have p1 : w2.cell? ⟨F, 1, none⟩ = some (.int .u64 (a : Nat)) := HB2.out.cell 1
            have f1 : w2.frozen? ⟨F, 1, none⟩ = false := HB2.out.frozen 1
            have p2 : w2.cell? ⟨F, 2, none⟩ = some (.int .u64 (b : Nat)) := HB2.out.cell 2
            have f2 : w2.frozen? ⟨F, 2, none⟩ = false := HB2.out.frozen 2
            have p3 : w2.cell? ⟨F, 3, none⟩ = some (.int .u64 (e : Nat)) := HB2.out.cell 3
            have f3 : w2.frozen? ⟨F, 3, none⟩ = false := HB2.out.frozen 3
            have p4 : w2.cell? ⟨F, 4, none⟩ = some (.bool fin) := HB2.out.cell 4
            have f4 : w2.frozen? ⟨F, 4, none⟩ = false := HB2.out.frozen 4
            have p5 : w2.cell? ⟨F, 5, none⟩ = some (.string data) := HB2.out.cell 5
            have f5 : w2.frozen? ⟨F, 5, none⟩ = false := HB2.out.frozen 5
            have p6 : w2.cell? ⟨F, 6, none⟩ = some (.string more) := HB2.out.cell 6
            have f6 : w2.frozen? ⟨F, 6, none⟩ = false := HB2.out.frozen 6
            have p7 : w2.cell? ⟨F, 7, none⟩ = some (.slice none 0 0) := HB2.out.cell 7
            have f7 : w2.frozen? ⟨F, 7, none⟩ = false := HB2.out.frozen 7
            have z0 : w2.cell? ⟨RB, 0, none⟩ = some (.int .u64 0) := HR2.out.cell 0
            have r0 : w2.frozen? ⟨RB, 0, none⟩ = false := HR2.out.frozen 0
            have z1 : w2.cell? ⟨RB, 1, none⟩ = some (.int .u64 0) := HR2.out.cell 1
            have r1 : w2.frozen? ⟨RB, 1, none⟩ = false := HR2.out.frozen 1
            have z2 : w2.cell? ⟨RB, 2, none⟩ = some (.int .u64 0) := HR2.out.cell 2
            have r2 : w2.frozen? ⟨RB, 2, none⟩ = false := HR2.out.frozen 2
            have z3 : w2.cell? ⟨RB, 3, none⟩ = some (.int .u64 0) := HR2.out.cell 3
            have r3 : w2.frozen? ⟨RB, 3, none⟩ = false := HR2.out.frozen 3
            have z4 : w2.cell? ⟨RB, 4, none⟩ = some (.bool false) := HR2.out.cell 4
            have r4 : w2.frozen? ⟨RB, 4, none⟩ = false := HR2.out.frozen 4
            have z5 : w2.cell? ⟨RB, 5, none⟩ = some (.string ⟨#[]⟩) := HR2.out.cell 5
            have r5 : w2.frozen? ⟨RB, 5, none⟩ = false := HR2.out.frozen 5
            have z6 : w2.cell? ⟨RB, 6, none⟩ = some (.string ⟨#[]⟩) := HR2.out.cell 6
            have r6 : w2.frozen? ⟨RB, 6, none⟩ = false := HR2.out.frozen 6
            have z7 : w2.cell? ⟨RB, 7, none⟩ = some (.slice none 0 0) := HR2.out.cell 7
            have r7 : w2.frozen? ⟨RB, 7, none⟩ = false := HR2.out.frozen 7
            have lF := HB2.out.lt
            have lR := HR2.out.lt
            go_wp2_with fail
            have HE := hide (HdP.fin (f := ⟨k, a, b, e, fin, data, more, []⟩) HV.out rfl HM2.out HR2.out HRBw.out)
            refine bodyPost_ret (results_cell_tmp_row rfl _ _ RB 26 (fcs none 0 0 ⟨k, a, b, e, fin, data, more, []⟩) _ rfl ?_ Tryd.underlying26 rfl (by kernel_rfl)) rfl ?_
            · exact HE.out.1
            exact HE.out.2
          · have HV : Hid (HdV (hended ⟨k, a, b, e, fin, data, more, []⟩ x.data.toList) ⟨k, a, b, e, fin, (T.extract 0 n), more, []⟩ true) := hide (HdV.yes (by rw [HEnd2.out, HVn.out, if_pos rfl]; simp only [Option.bind_some]; rw [if_neg (by omega), ext_take, hTl]; simp))
            have g1 : decide ((T.size : Int) < n) = false := decide_eq_false (by omega)
            have g2 : decide (T.size < n) = false := decide_eq_false hbig
            have g3 : IntKind.u64.wrap (T.size : Int) = T.size := IntWalk.u64_in _ (by omega)
            have g4 : n ≤ T.size := by omega
            have g5 : IntKind.i64.wrap (n : Int) = n := IntWalk.i64_in _ (by omega)
            clear hTs hTl
            have p0 : W1.cell? ⟨F, 0, none⟩ = some (.int .u64 (k : Nat)) := HB.out.cell 0
            have f0 : W1.frozen? ⟨F, 0, none⟩ = false := HB.out.frozen 0
            have p1 : W1.cell? ⟨F, 1, none⟩ = some (.int .u64 (a : Nat)) := HB.out.cell 1
            have f1 : W1.frozen? ⟨F, 1, none⟩ = false := HB.out.frozen 1
            have p2 : W1.cell? ⟨F, 2, none⟩ = some (.int .u64 (b : Nat)) := HB.out.cell 2
            have f2 : W1.frozen? ⟨F, 2, none⟩ = false := HB.out.frozen 2
            have p3 : W1.cell? ⟨F, 3, none⟩ = some (.int .u64 (e : Nat)) := HB.out.cell 3
            have f3 : W1.frozen? ⟨F, 3, none⟩ = false := HB.out.frozen 3
            have p4 : W1.cell? ⟨F, 4, none⟩ = some (.bool fin) := HB.out.cell 4
            have f4 : W1.frozen? ⟨F, 4, none⟩ = false := HB.out.frozen 4
            have p5 : W1.cell? ⟨F, 5, none⟩ = some (.string data) := HB.out.cell 5
            have f5 : W1.frozen? ⟨F, 5, none⟩ = false := HB.out.frozen 5
            have p6 : W1.cell? ⟨F, 6, none⟩ = some (.string more) := HB.out.cell 6
            have f6 : W1.frozen? ⟨F, 6, none⟩ = false := HB.out.frozen 6
            have p7 : W1.cell? ⟨F, 7, none⟩ = some (.slice none 0 0) := HB.out.cell 7
            have f7 : W1.frozen? ⟨F, 7, none⟩ = false := HB.out.frozen 7
            have z0 : W1.cell? ⟨RB, 0, none⟩ = some (.int .u64 0) := HRb.out.cell 0
            have r0 : W1.frozen? ⟨RB, 0, none⟩ = false := HRb.out.frozen 0
            have z1 : W1.cell? ⟨RB, 1, none⟩ = some (.int .u64 0) := HRb.out.cell 1
            have r1 : W1.frozen? ⟨RB, 1, none⟩ = false := HRb.out.frozen 1
            have z2 : W1.cell? ⟨RB, 2, none⟩ = some (.int .u64 0) := HRb.out.cell 2
            have r2 : W1.frozen? ⟨RB, 2, none⟩ = false := HRb.out.frozen 2
            have z3 : W1.cell? ⟨RB, 3, none⟩ = some (.int .u64 0) := HRb.out.cell 3
            have r3 : W1.frozen? ⟨RB, 3, none⟩ = false := HRb.out.frozen 3
            have z4 : W1.cell? ⟨RB, 4, none⟩ = some (.bool false) := HRb.out.cell 4
            have r4 : W1.frozen? ⟨RB, 4, none⟩ = false := HRb.out.frozen 4
            have z5 : W1.cell? ⟨RB, 5, none⟩ = some (.string ⟨#[]⟩) := HRb.out.cell 5
            have r5 : W1.frozen? ⟨RB, 5, none⟩ = false := HRb.out.frozen 5
            have z6 : W1.cell? ⟨RB, 6, none⟩ = some (.string ⟨#[]⟩) := HRb.out.cell 6
            have r6 : W1.frozen? ⟨RB, 6, none⟩ = false := HRb.out.frozen 6
            have z7 : W1.cell? ⟨RB, 7, none⟩ = some (.slice none 0 0) := HRb.out.cell 7
            have r7 : W1.frozen? ⟨RB, 7, none⟩ = false := HRb.out.frozen 7
            have lF := HB.out.lt
            have lR := HRb.out.lt
            go_wp2_with fail
            refine (HD.out _).mono ?_
            rintro e0 w2 ⟨rfl, rfl⟩
            go_wp2_with fail
            refine (HT.out _).mono ?_
            rintro e0 w2 ⟨rfl, m2⟩
            have HB2 := hide (m2.blk HB.out (by simp))
            have HR2 := hide (m2.blk HRb.out (by simp))
            have HM2 := hide (HM.out.trans m2 (by simp))
            have HX := hide (HR2.out.far (p := ⟨F, 5, none⟩) HFR.out (.string (T.extract 0 n)))
            have HMX := hide (HM2.out.setCell (p := ⟨F, 5, none⟩) (.inr HFw.out) (.string (T.extract 0 n)))
            clear p0 f0 z0 r0 p1 f1 z1 r1 p2 f2 z2 r2 p3 f3 z3 r3 p4 f4 z4 r4 p5 f5 z5 r5 p6 f6 z6 r6 p7 f7 z7 r7 lF lR m2
            have p0 : w2.cell? ⟨F, 0, none⟩ = some (.int .u64 (k : Nat)) := HB2.out.cell 0
            have f0 : w2.frozen? ⟨F, 0, none⟩ = false := HB2.out.frozen 0
            have p1 : w2.cell? ⟨F, 1, none⟩ = some (.int .u64 (a : Nat)) := HB2.out.cell 1
            have f1 : w2.frozen? ⟨F, 1, none⟩ = false := HB2.out.frozen 1
            have p2 : w2.cell? ⟨F, 2, none⟩ = some (.int .u64 (b : Nat)) := HB2.out.cell 2
            have f2 : w2.frozen? ⟨F, 2, none⟩ = false := HB2.out.frozen 2
            have p3 : w2.cell? ⟨F, 3, none⟩ = some (.int .u64 (e : Nat)) := HB2.out.cell 3
            have f3 : w2.frozen? ⟨F, 3, none⟩ = false := HB2.out.frozen 3
            have p4 : w2.cell? ⟨F, 4, none⟩ = some (.bool fin) := HB2.out.cell 4
            have f4 : w2.frozen? ⟨F, 4, none⟩ = false := HB2.out.frozen 4
            have p5 : w2.cell? ⟨F, 5, none⟩ = some (.string data) := HB2.out.cell 5
            have f5 : w2.frozen? ⟨F, 5, none⟩ = false := HB2.out.frozen 5
            have p6 : w2.cell? ⟨F, 6, none⟩ = some (.string more) := HB2.out.cell 6
            have f6 : w2.frozen? ⟨F, 6, none⟩ = false := HB2.out.frozen 6
            have p7 : w2.cell? ⟨F, 7, none⟩ = some (.slice none 0 0) := HB2.out.cell 7
            have f7 : w2.frozen? ⟨F, 7, none⟩ = false := HB2.out.frozen 7
            have z0 : w2.cell? ⟨RB, 0, none⟩ = some (.int .u64 0) := HR2.out.cell 0
            have r0 : w2.frozen? ⟨RB, 0, none⟩ = false := HR2.out.frozen 0
            have z1 : w2.cell? ⟨RB, 1, none⟩ = some (.int .u64 0) := HR2.out.cell 1
            have r1 : w2.frozen? ⟨RB, 1, none⟩ = false := HR2.out.frozen 1
            have z2 : w2.cell? ⟨RB, 2, none⟩ = some (.int .u64 0) := HR2.out.cell 2
            have r2 : w2.frozen? ⟨RB, 2, none⟩ = false := HR2.out.frozen 2
            have z3 : w2.cell? ⟨RB, 3, none⟩ = some (.int .u64 0) := HR2.out.cell 3
            have r3 : w2.frozen? ⟨RB, 3, none⟩ = false := HR2.out.frozen 3
            have z4 : w2.cell? ⟨RB, 4, none⟩ = some (.bool false) := HR2.out.cell 4
            have r4 : w2.frozen? ⟨RB, 4, none⟩ = false := HR2.out.frozen 4
            have z5 : w2.cell? ⟨RB, 5, none⟩ = some (.string ⟨#[]⟩) := HR2.out.cell 5
            have r5 : w2.frozen? ⟨RB, 5, none⟩ = false := HR2.out.frozen 5
            have z6 : w2.cell? ⟨RB, 6, none⟩ = some (.string ⟨#[]⟩) := HR2.out.cell 6
            have r6 : w2.frozen? ⟨RB, 6, none⟩ = false := HR2.out.frozen 6
            have z7 : w2.cell? ⟨RB, 7, none⟩ = some (.slice none 0 0) := HR2.out.cell 7
            have r7 : w2.frozen? ⟨RB, 7, none⟩ = false := HR2.out.frozen 7
            have lF := HB2.out.lt
            have lR := HR2.out.lt
            go_wp2_with fail
            have HE := hide (HdP.fin (f := ⟨k, a, b, e, fin, (T.extract 0 n), more, []⟩) HV.out rfl HMX.out HX.out HRBw.out)
            refine bodyPost_ret (results_cell_tmp_row rfl _ _ RB 26 (fcs none 0 0 ⟨k, a, b, e, fin, (T.extract 0 n), more, []⟩) _ rfl ?_ Tryd.underlying26 rfl (by kernel_rfl)) rfl ?_
            · exact HE.out.1
            exact HE.out.2
        · have HV : Hid (HdV (hended ⟨k, a, b, e, fin, data, more, []⟩ x.data.toList) ⟨k, a, b, e, fin, data, more, []⟩ false) := hide (HdV.no (by rw [HEnd2.out, HVn.out, if_neg h0]; rfl))
          have g1 : (er == 0) = false := by simpa using h0
          have g2 : (er != 0) = true := by simpa using h0
          clear hTs hTl h0
          have p0 : W1.cell? ⟨F, 0, none⟩ = some (.int .u64 (k : Nat)) := HB.out.cell 0
          have f0 : W1.frozen? ⟨F, 0, none⟩ = false := HB.out.frozen 0
          have p1 : W1.cell? ⟨F, 1, none⟩ = some (.int .u64 (a : Nat)) := HB.out.cell 1
          have f1 : W1.frozen? ⟨F, 1, none⟩ = false := HB.out.frozen 1
          have p2 : W1.cell? ⟨F, 2, none⟩ = some (.int .u64 (b : Nat)) := HB.out.cell 2
          have f2 : W1.frozen? ⟨F, 2, none⟩ = false := HB.out.frozen 2
          have p3 : W1.cell? ⟨F, 3, none⟩ = some (.int .u64 (e : Nat)) := HB.out.cell 3
          have f3 : W1.frozen? ⟨F, 3, none⟩ = false := HB.out.frozen 3
          have p4 : W1.cell? ⟨F, 4, none⟩ = some (.bool fin) := HB.out.cell 4
          have f4 : W1.frozen? ⟨F, 4, none⟩ = false := HB.out.frozen 4
          have p5 : W1.cell? ⟨F, 5, none⟩ = some (.string data) := HB.out.cell 5
          have f5 : W1.frozen? ⟨F, 5, none⟩ = false := HB.out.frozen 5
          have p6 : W1.cell? ⟨F, 6, none⟩ = some (.string more) := HB.out.cell 6
          have f6 : W1.frozen? ⟨F, 6, none⟩ = false := HB.out.frozen 6
          have p7 : W1.cell? ⟨F, 7, none⟩ = some (.slice none 0 0) := HB.out.cell 7
          have f7 : W1.frozen? ⟨F, 7, none⟩ = false := HB.out.frozen 7
          have z0 : W1.cell? ⟨RB, 0, none⟩ = some (.int .u64 0) := HRb.out.cell 0
          have r0 : W1.frozen? ⟨RB, 0, none⟩ = false := HRb.out.frozen 0
          have z1 : W1.cell? ⟨RB, 1, none⟩ = some (.int .u64 0) := HRb.out.cell 1
          have r1 : W1.frozen? ⟨RB, 1, none⟩ = false := HRb.out.frozen 1
          have z2 : W1.cell? ⟨RB, 2, none⟩ = some (.int .u64 0) := HRb.out.cell 2
          have r2 : W1.frozen? ⟨RB, 2, none⟩ = false := HRb.out.frozen 2
          have z3 : W1.cell? ⟨RB, 3, none⟩ = some (.int .u64 0) := HRb.out.cell 3
          have r3 : W1.frozen? ⟨RB, 3, none⟩ = false := HRb.out.frozen 3
          have z4 : W1.cell? ⟨RB, 4, none⟩ = some (.bool false) := HRb.out.cell 4
          have r4 : W1.frozen? ⟨RB, 4, none⟩ = false := HRb.out.frozen 4
          have z5 : W1.cell? ⟨RB, 5, none⟩ = some (.string ⟨#[]⟩) := HRb.out.cell 5
          have r5 : W1.frozen? ⟨RB, 5, none⟩ = false := HRb.out.frozen 5
          have z6 : W1.cell? ⟨RB, 6, none⟩ = some (.string ⟨#[]⟩) := HRb.out.cell 6
          have r6 : W1.frozen? ⟨RB, 6, none⟩ = false := HRb.out.frozen 6
          have z7 : W1.cell? ⟨RB, 7, none⟩ = some (.slice none 0 0) := HRb.out.cell 7
          have r7 : W1.frozen? ⟨RB, 7, none⟩ = false := HRb.out.frozen 7
          have lF := HB.out.lt
          have lR := HRb.out.lt
          go_wp2_with fail
          refine (HD.out _).mono ?_
          rintro e0 w2 ⟨rfl, rfl⟩
          go_wp2_with fail
          refine (HT.out _).mono ?_
          rintro e0 w2 ⟨rfl, m2⟩
          have HB2 := hide (m2.blk HB.out (by simp))
          have HR2 := hide (m2.blk HRb.out (by simp))
          have HM2 := hide (HM.out.trans m2 (by simp))
          clear p0 f0 z0 r0 p1 f1 z1 r1 p2 f2 z2 r2 p3 f3 z3 r3 p4 f4 z4 r4 p5 f5 z5 r5 p6 f6 z6 r6 p7 f7 z7 r7 lF lR m2
          have p0 : w2.cell? ⟨F, 0, none⟩ = some (.int .u64 (k : Nat)) := HB2.out.cell 0
          have f0 : w2.frozen? ⟨F, 0, none⟩ = false := HB2.out.frozen 0
          have p1 : w2.cell? ⟨F, 1, none⟩ = some (.int .u64 (a : Nat)) := HB2.out.cell 1
          have f1 : w2.frozen? ⟨F, 1, none⟩ = false := HB2.out.frozen 1
          have p2 : w2.cell? ⟨F, 2, none⟩ = some (.int .u64 (b : Nat)) := HB2.out.cell 2
          have f2 : w2.frozen? ⟨F, 2, none⟩ = false := HB2.out.frozen 2
          have p3 : w2.cell? ⟨F, 3, none⟩ = some (.int .u64 (e : Nat)) := HB2.out.cell 3
          have f3 : w2.frozen? ⟨F, 3, none⟩ = false := HB2.out.frozen 3
          have p4 : w2.cell? ⟨F, 4, none⟩ = some (.bool fin) := HB2.out.cell 4
          have f4 : w2.frozen? ⟨F, 4, none⟩ = false := HB2.out.frozen 4
          have p5 : w2.cell? ⟨F, 5, none⟩ = some (.string data) := HB2.out.cell 5
          have f5 : w2.frozen? ⟨F, 5, none⟩ = false := HB2.out.frozen 5
          have p6 : w2.cell? ⟨F, 6, none⟩ = some (.string more) := HB2.out.cell 6
          have f6 : w2.frozen? ⟨F, 6, none⟩ = false := HB2.out.frozen 6
          have p7 : w2.cell? ⟨F, 7, none⟩ = some (.slice none 0 0) := HB2.out.cell 7
          have f7 : w2.frozen? ⟨F, 7, none⟩ = false := HB2.out.frozen 7
          have z0 : w2.cell? ⟨RB, 0, none⟩ = some (.int .u64 0) := HR2.out.cell 0
          have r0 : w2.frozen? ⟨RB, 0, none⟩ = false := HR2.out.frozen 0
          have z1 : w2.cell? ⟨RB, 1, none⟩ = some (.int .u64 0) := HR2.out.cell 1
          have r1 : w2.frozen? ⟨RB, 1, none⟩ = false := HR2.out.frozen 1
          have z2 : w2.cell? ⟨RB, 2, none⟩ = some (.int .u64 0) := HR2.out.cell 2
          have r2 : w2.frozen? ⟨RB, 2, none⟩ = false := HR2.out.frozen 2
          have z3 : w2.cell? ⟨RB, 3, none⟩ = some (.int .u64 0) := HR2.out.cell 3
          have r3 : w2.frozen? ⟨RB, 3, none⟩ = false := HR2.out.frozen 3
          have z4 : w2.cell? ⟨RB, 4, none⟩ = some (.bool false) := HR2.out.cell 4
          have r4 : w2.frozen? ⟨RB, 4, none⟩ = false := HR2.out.frozen 4
          have z5 : w2.cell? ⟨RB, 5, none⟩ = some (.string ⟨#[]⟩) := HR2.out.cell 5
          have r5 : w2.frozen? ⟨RB, 5, none⟩ = false := HR2.out.frozen 5
          have z6 : w2.cell? ⟨RB, 6, none⟩ = some (.string ⟨#[]⟩) := HR2.out.cell 6
          have r6 : w2.frozen? ⟨RB, 6, none⟩ = false := HR2.out.frozen 6
          have z7 : w2.cell? ⟨RB, 7, none⟩ = some (.slice none 0 0) := HR2.out.cell 7
          have r7 : w2.frozen? ⟨RB, 7, none⟩ = false := HR2.out.frozen 7
          have lF := HB2.out.lt
          have lR := HR2.out.lt
          go_wp2_with fail
          have HE := hide (HdP.fin (f := ⟨k, a, b, e, fin, data, more, []⟩) HV.out rfl HM2.out HR2.out HRBw.out)
          refine bodyPost_ret (results_cell_tmp_row rfl _ _ RB 26 (fcs none 0 0 ⟨k, a, b, e, fin, data, more, []⟩) _ rfl ?_ Tryd.underlying26 rfl (by kernel_rfl)) rfl ?_
          · exact HE.out.1
          exact HE.out.2
end Go.Proofs.YtbjmcnmcodbkdaaDoor

/-
  frames: the document's package: acked.
-/
namespace Go.Proofs.YtbjmcnmcodbkdaaDoor
open Go.RowKit Go.Sort
set_option linter.unusedVariables false

theorem HdP.fin2 {w X : World} {RB : Nat} {o : Option Fr} {f : Fr} {v : Bool} {A : Option Addr} {c : Nat} (hv : HdV o f v) (ho : ROwn X w.heap.size A c f.list) (hl : f.list.length ≤ 64) (hm : Mod [] w X) (hr : Blk X RB 26 #[.int .u64 0, .int .u64 0, .int .u64 0, .int .u64 0, .bool false, .string ⟨#[]⟩, .string ⟨#[]⟩, .slice none 0 0]) (hb : w.heap.size ≤ RB) :
    Blk (fsets X RB (fcs A f.list.length c f)) RB 26 (fcs A f.list.length c f) ∧ HdP w o (.returned (.tuple #[.agg (fcs A f.list.length c f), .bool v])) (fsets X RB (fcs A f.list.length c f)) := by
  refine ⟨fsets_blk _ hr rfl rfl, f, A, c, ?_, hv.2, ?_, hl, hm.trans (fsets_mod X RB _) (fun y hy => .inr ?_)⟩
  · rw [hv.1]
  · exact ho.mod (fsets_mod X RB _) (fun g o hA hmem => by
      simp only [List.mem_singleton] at hmem
      exact ho.ne hr (by decide) g o hA hmem)
  · simp only [List.mem_singleton] at hy; omega
/-- an append whose run is known, as one step of a region that draws its order -/
theorem step_append_runL {P : Program} {ops : Array Oper} {o : Oper} {a : Act} {w : World} {K : Act → World → Prop} {Q : Exit → Act → World → Prop} {E : Prop}
    (hg : o.guard = none) (d x : Operand) (dT sT : TypeId) (hop : o.op = Op.call { callee := Callee.builtin Builtin.append, args := #[d, x], argTypes := #[dT, sT] })
    (v u : Value) (hd : a.eval d = v) (hx : a.eval x = u) {v' : Value} {w' : World} (hr : (Builtin.append_ #[dT, sT] o.type #[v, u]).run P w = .ok v' w') (hK : K (a.put o.dst v') w') :
    if Region.wanted o (yielded ops a.tmps) = true then Oper.wp P o a w K Q else E := by
  have hw : Region.wanted o (yielded ops a.tmps) = true := by simp [Region.wanted, hg]
  rw [if_pos hw]
  unfold Oper.wp
  simp [execOp, hop, resolve, invoke, builtin, hd, hx, hr, Result.andThen]
  exact hK
/-- the state: the frame's block, the result's, the list, the numbers -/
structure AckS (w X : World) (RB F : Nat) (A : Option Addr) (c : Nat) (f : Fr) (An : Option Addr) (cn : Nat) (ns : List Nat) : Prop where
  fr : Blk X F 26 (fcs A f.list.length c f)
  rb : Blk X RB 26 #[.int .u64 0, .int .u64 0, .int .u64 0, .int .u64 0, .bool false, .string ⟨#[]⟩, .string ⟨#[]⟩, .slice none 0 0]
  own : ROwn X w.heap.size A c f.list
  num : NOwn X w.heap.size An cn ns
  mod : Mod [] w X
theorem AckS.new {w X Y : World} {RB F c cn : Nat} {A An : Option Addr} {f : Fr} {ns : List Nat} (h : AckS w X RB F A c f An cn ns) (m : Mod [] X Y) : AckS w Y RB F A c f An cn ns :=
  ⟨m.blk h.fr (by simp), m.blk h.rb (by simp), h.own.mod m (by simp), h.num.new m, h.mod.trans m (by simp)⟩
theorem NOwn.ne {w : World} {B : Nat} {A : Option Addr} {c : Nat} {l : List Nat} (h : NOwn w B A c l) {g0 : Nat} {t : TypeId} {cs : Array Value} (hb : Blk w g0 t cs) (ht : 23 ≠ t) : ∀ k, (Value.slice A l.length c).ownBlock = some k → k ≠ g0 := own_blk_ne h hb ht
/-- a cell of the frame is set -/
theorem AckS.set {w X : World} {RB F c cn : Nat} {A An : Option Addr} {f g : Fr} {ns : List Nat} (h : AckS w X RB F A c f An cn ns) (hw : w.heap.size ≤ F) (hne : RB ≠ F) (i : Nat) (u : Value) (hl : g.list = f.list) (hc : (fcs A f.list.length c f).setIfInBounds i u = fcs A g.list.length c g) :
    AckS w (X.setCell ⟨F, i, none⟩ u) RB F A c g An cn ns := by
  refine ⟨?_, h.rb.far hne u, ?_, own_far h.num (fun k hk => h.num.ne h.fr (by decide) k hk) u, h.mod.setCell (.inr hw) u⟩
  · rw [← hc]; exact h.fr.set_ i u
  · rw [hl]
    exact own_far h.own (fun k hk => own_blk_ne h.own h.fr (by decide) k hk) u
theorem NOwn.through {W W' : World} {B B' c cn : Nat} {A An : Option Addr} {l : List (Nat × Nat)} {ns : List Nat} (h : NOwn W B An cn ns) (ho : ROwn W B' A c l) (m : Mod (Value.slice A l.length c).ownBlock.toList W W') : NOwn W' B An cn ns := m.own h (fun k hk hm => by
    rw [Option.mem_toList] at hm
    rcases h.2 with ⟨h0, _⟩ | ⟨g, cap, cur, hv, _, hh, _⟩
    · rw [h0] at hk; cases hk
    · rw [hv] at hk
      cases hk
      exact own_blk_ne ho (show Blk _ g 23 cur from hh) (by decide) g hm rfl)
theorem NOwn.far {W : World} {B cn : Nat} {An : Option Addr} {ns : List Nat} (h : NOwn W B An cn ns) {F : Nat} {t : TypeId} {cs : Array Value} (hb : Blk W F t cs) (ht : 23 ≠ t) (i : Nat) (u : Value) : NOwn (W.setCell ⟨F, i, none⟩ u) B An cn ns := own_far h (fun k hk => h.ne hb ht k hk) u
/-- a range more -/
theorem AckS.app {w X : World} {RB F c cn : Nat} {A An : Option Addr} {f : Fr} {ns : List Nat} (h : AckS w X RB F A c f An cn ns) (hw : w.heap.size ≤ F) (hne : RB ≠ F) (hl : f.list.length ≤ 1000) (x : Nat × Nat) :
    ∃ A' c' X6, (Builtin.append_ #[24, 24] 24 #[.slice A f.list.length c, .slice (some ⟨X.heap.size, 0, none⟩) 1 1]).run Tryd.prog (X.alloc (.cells (rcells x).toArray 47)) = .ok (.slice A' (f.list.length + 1) c') X6 ∧
      (∀ (B' cn' : Nat) (An' : Option Addr) (ns' : List Nat), NOwn X B' An' cn' ns' → NOwn (X.alloc (.cells (rcells x).toArray 47)) B' An' cn' ns' ∧ NOwn X6 B' An' cn' ns' ∧ NOwn (X6.setCell ⟨F, 7, none⟩ (.slice A' (f.list.length + 1) c')) B' An' cn' ns') ∧
      (∃ u, X6.cell? ⟨F, 7, none⟩ = some u) ∧ X6.frozen? ⟨F, 7, none⟩ = false ∧ F < X6.heap.size ∧
      AckS w (X6.setCell ⟨F, 7, none⟩ (.slice A' (f.list.length + 1) c')) RB F A' c' { f with list := f.list ++ [x] } An cn ns := by
  have h2 := h.new ((Mod.refl [] X).alloc (.cells (rcells x).toArray 47))
  have hb : Blk (X.alloc (.cells (rcells x).toArray 47)) X.heap.size 47 (rcells x).toArray := Blk.new X _ _
  obtain ⟨A', c', X6, h3, h4, h5, h6⟩ := app_one (P := Tryd.prog) (T := 24) (e := 47) (z := .agg #[.int .u64 0, .int .u64 0]) (size := 2) (bytes := 16) Tryd.underlying24 rangeInfo rfl _ 24 w.heap.size _ _ _ h2.own h2.mod.size (rcells x) rfl (by simp [rcells, Value.oneCell']) (by omega) (by omega) X.heap.size (fun j u hu => by
    rw [hb.cell j, List.getElem?_toArray, hu])
  have e : rcells x = [x].flatMap rcells := by simp
  rw [e, ← List.flatMap_append] at h4
  have hnF : F ∉ (Value.slice A f.list.length c).ownBlock.toList := by
    intro hm
    rw [Option.mem_toList] at hm
    exact own_blk_ne h2.own h2.fr (by decide) F hm rfl
  have hnR : RB ∉ (Value.slice A f.list.length c).ownBlock.toList := by
    intro hm
    rw [Option.mem_toList] at hm
    exact own_blk_ne h2.own h2.rb (by decide) RB hm rfl
  have hfr := h5.blk h2.fr hnF
  have hrb := h5.blk h2.rb hnR
  have hnum : NOwn X6 w.heap.size An cn ns := h5.own h2.num (fun k hk hm => by
    rw [Option.mem_toList] at hm
    rcases h2.num.2 with ⟨h0, _⟩ | ⟨g, cap, cur, hv, _, hh, _⟩
    · rw [h0] at hk; cases hk
    · rw [hv] at hk
      cases hk
      exact own_blk_ne h2.own (show Blk _ g 23 cur from hh) (by decide) g hm rfl)
  have hown6 : ROwn X6 w.heap.size A' c' (f.list ++ [x]) := by
    unfold ROwn
    rw [List.length_append, List.length_singleton]
    exact h4
  refine ⟨A', c', X6, h3, fun B' cn' An' ns' hn' => ?_, ⟨_, hfr.cell 7⟩, hfr.frozen 7, hfr.lt, ?_⟩
  · have n1 := hn'.new ((Mod.refl [] X).alloc (.cells (rcells x).toArray 47))
    have n2 := n1.through h2.own h5
    exact ⟨n1, n2, n2.far hfr (by decide) _ _⟩
  refine ⟨?_, hrb.far hne _, ?_, own_far hnum (fun k hk => hnum.ne hfr (by decide) k hk) _, (h2.mod.keep h5 h2.own (Nat.le_refl _)).setCell (.inr hw) _⟩
  · have := hfr.set_ 7 (.slice A' (f.list.length + 1) c')
    unfold fcs
    simp only [List.length_append, List.length_singleton]
    exact this
  · exact own_far hown6 (fun k hk => own_blk_ne hown6 hfr (by decide) k hk) _
theorem NOwn.two {w : World} {B : Nat} {g c : Nat} {l : List Nat} (h : NOwn w B (some ⟨g, 0, none⟩) c l) (i j : Nat) {x y : Nat} (hx : l[i]? = some x) (hy : l[j]? = some y) : w.cell? ⟨g, i, none⟩ = some (.int .u64 (x : Nat)) ∧ w.cell? ⟨g, j, none⟩ = some (.int .u64 (y : Nat)) := by
  obtain ⟨_, hA, _, _, h1⟩ := h.at_ hx
  cases hA
  obtain ⟨_, hA, _, _, h2⟩ := h.at_ hy
  cases hA
  exact ⟨h1, h2⟩
theorem len4 {l : List Nat} (h : l.length = 4) : ∃ a b c d, l = [a, b, c, d] := by
  match l, h with
  | [a, b, c, d], _ => exact ⟨a, b, c, d, rfl⟩
theorem len3 {l : List Nat} (h : l.length = 3) : ∃ a b c, l = [a, b, c] := by
  match l, h with
  | [a, b, c], _ => exact ⟨a, b, c, rfl⟩
theorem len2 {l : List Nat} (h : l.length = 2) : ∃ a b, l = [a, b] := by
  match l, h with
  | [a, b], _ => exact ⟨a, b, rfl⟩
theorem vnums_len : ∀ (k : Nat) (s : List UInt8) (x : List Nat × List UInt8), vnums k s = some x → x.1.length = k ∧ (∀ n ∈ x.1, n < 4611686018427387904) ∧ x.2.length ≤ s.length
  | 0, s, x, h => by cases h; exact ⟨rfl, by simp, Nat.le_refl _⟩
  | k + 1, s, x, h => by
    rw [vnums] at h
    obtain ⟨y, h1, h2⟩ := Option.bind_eq_some_iff.1 h
    obtain ⟨z, h3, rfl⟩ := Option.map_eq_some_iff.1 h2
    obtain ⟨h4, h5, h6⟩ := vnums_len k _ _ h3
    have hy : y.1 < 4611686018427387904 ∧ y.2.length ≤ s.length := by
      unfold vnum at h1
      split at h1
      · cases h1; exact ⟨vtake_n_lt _, vtake_rest _⟩
      · cases h1
    refine ⟨by simp [h4], ?_, by simp only; omega⟩
    intro n hn
    rcases List.mem_cons.1 hn with rfl | hn
    · exact hy.1
    · exact h5 n hn
end Go.Proofs.YtbjmcnmcodbkdaaDoor
