/-
  Contracts of the document's package, part 6 of 8: FrRf12.
-/
import Derived.Test.YtbjmcnmcodbkdaaDoorH5
import Derived.Deep.DeepCutAuto
import Derived.Deep.RegionHeldLaw

/-
  frames: the document's package: acked, the walk.
-/
namespace Go.Proofs.YtbjmcnmcodbkdaaDoor
open Go.RowKit Go.Sort
set_option linter.unusedVariables false
set_option linter.unusedSimpArgs false

def ackG (k n1 : Nat) (l : List (Nat × Nat)) (y : List (Nat × Nat) × List UInt8) : Option Fr :=
  if k = 3 then (vnums 3 y.2).map fun z => ⟨k, n1, z.1.getD 0 0, z.1.getD 1 0, false, ⟨#[]⟩, ⟨(be (z.1.getD 2 0) 8).toArray⟩, l ++ y.1⟩ else some ⟨k, n1, 0, 0, false, ⟨#[]⟩, ⟨#[]⟩, l ++ y.1⟩
theorem ackG_step {k n1 m low : Nat} {l : List (Nat × Nat)} {T r : List UInt8} {m0 m1 : Nat} (h : vnums 2 T = some ([m0, m1], r)) (hc : ¬ (low < m0 + 2 ∨ low - m0 - 2 < m1)) :
    (hrng (m + 1) low T).bind (ackG k n1 l) = (hrng m (low - m0 - 2 - m1) r).bind (ackG k n1 (l ++ [(low - m0 - 2 - m1, low - m0 - 2)])) := by
  rw [hrng, h]
  simp only [Option.bind_some, List.getD_cons_zero, List.getD_cons_succ]
  rw [if_neg hc]
  cases hrng m (low - m0 - 2 - m1) r with
  | none => rfl
  | some y =>
    simp only [Option.map_some, Option.bind_some]
    unfold ackG
    simp
theorem ackG_none {k n1 m low : Nat} {l : List (Nat × Nat)} {T : List UInt8} (h : vnums 2 T = none) : (hrng (m + 1) low T).bind (ackG k n1 l) = none := by
  rw [hrng, h]; rfl
theorem ackG_bad {k n1 m low : Nat} {l : List (Nat × Nat)} {T r : List UInt8} {m0 m1 : Nat} (h : vnums 2 T = some ([m0, m1], r)) (hc : low < m0 + 2 ∨ low - m0 - 2 < m1) : (hrng (m + 1) low T).bind (ackG k n1 l) = none := by
  rw [hrng, h]
  simp only [Option.bind_some, List.getD_cons_zero, List.getD_cons_succ]
  rw [if_pos hc]
  rfl

set_option maxRecDepth 100000 in
set_option maxHeartbeats 64000000 in
theorem acked_any (w : World) (k : Nat) (hk : k = 2 ∨ k = 3) (x : ByteArray) (hx : x.size ≤ 1000000) :
    Calls Tryd.prog 50 #[.int .u64 k, .string x] w (HdP w (hacked k x.data.toList)) := by
  have HB := hide (Blk.new (w.alloc (.cells #[.int .u64 0, .int .u64 0, .int .u64 0, .int .u64 0, .bool false, .string ⟨#[]⟩, .string ⟨#[]⟩, .slice none 0 0] 26)) 26 #[.int .u64 (k : Nat), .int .u64 0, .int .u64 0, .int .u64 0, .bool false, .string ⟨#[]⟩, .string ⟨#[]⟩, .slice none 0 0])
  have HRb := hide ((Blk.new w 26 #[.int .u64 0, .int .u64 0, .int .u64 0, .int .u64 0, .bool false, .string ⟨#[]⟩, .string ⟨#[]⟩, .slice none 0 0]).alloc (.cells #[.int .u64 (k : Nat), .int .u64 0, .int .u64 0, .int .u64 0, .bool false, .string ⟨#[]⟩, .string ⟨#[]⟩, .slice none 0 0] 26))
  have HM := hide (((Mod.refl [] w).alloc (.cells #[.int .u64 0, .int .u64 0, .int .u64 0, .int .u64 0, .bool false, .string ⟨#[]⟩, .string ⟨#[]⟩, .slice none 0 0] 26)).alloc (.cells #[.int .u64 (k : Nat), .int .u64 0, .int .u64 0, .int .u64 0, .bool false, .string ⟨#[]⟩, .string ⟨#[]⟩, .slice none 0 0] 26))
  have hsz : (w.alloc (.cells #[.int .u64 0, .int .u64 0, .int .u64 0, .int .u64 0, .bool false, .string ⟨#[]⟩, .string ⟨#[]⟩, .slice none 0 0] 26)).heap.size = w.heap.size + 1 := World.size_alloc _ _
  rw [hsz] at HB
  have HK := hide hk
  have HT := hide (fun w' y m (hm : m ≤ 1000) => took_any w' y m hm)
  clear hk
  go_enter Tryd.func50, Tryd.ntmps50
  go_upto_region 2 with (fail)
  obtain ⟨W1, hW1⟩ : ∃ W1, (w.alloc (.cells #[.int .u64 0, .int .u64 0, .int .u64 0, .int .u64 0, .bool false, .string ⟨#[]⟩, .string ⟨#[]⟩, .slice none 0 0] 26)).alloc (.cells #[.int .u64 (k : Nat), .int .u64 0, .int .u64 0, .int .u64 0, .bool false, .string ⟨#[]⟩, .string ⟨#[]⟩, .slice none 0 0] 26) = W1 := ⟨_, rfl⟩
  obtain ⟨RB, hRB⟩ : ∃ RB, w.heap.size = RB := ⟨_, rfl⟩
  obtain ⟨F, hF⟩ : ∃ F, RB + 1 = F := ⟨_, rfl⟩
  have HRBw : Hid (w.heap.size ≤ RB) := hide (by omega)
  have HFw : Hid (w.heap.size ≤ F) := hide (by omega)
  have HFR : Hid (RB ≠ F) := hide (by omega)
  rw [hW1, hRB, hF] at HB
  rw [hW1, hRB] at HRb
  rw [hW1] at HM
  rw [hW1]
  simp only [hRB, hF]
  have hne : ¬ RB = F := by omega
  have hne2 : ¬ F = RB := by omega
  clear hsz hW1 hF hRB
  have p0 : W1.cell? ⟨F, 0, none⟩ = some (.int .u64 (k : Nat)) := HB.out.cell 0
  have f0 : W1.frozen? ⟨F, 0, none⟩ = false := HB.out.frozen 0
  have p1 : W1.cell? ⟨F, 1, none⟩ = some (.int .u64 0) := HB.out.cell 1
  have f1 : W1.frozen? ⟨F, 1, none⟩ = false := HB.out.frozen 1
  have p2 : W1.cell? ⟨F, 2, none⟩ = some (.int .u64 0) := HB.out.cell 2
  have f2 : W1.frozen? ⟨F, 2, none⟩ = false := HB.out.frozen 2
  have p3 : W1.cell? ⟨F, 3, none⟩ = some (.int .u64 0) := HB.out.cell 3
  have f3 : W1.frozen? ⟨F, 3, none⟩ = false := HB.out.frozen 3
  have p4 : W1.cell? ⟨F, 4, none⟩ = some (.bool false) := HB.out.cell 4
  have f4 : W1.frozen? ⟨F, 4, none⟩ = false := HB.out.frozen 4
  have p5 : W1.cell? ⟨F, 5, none⟩ = some (.string ⟨#[]⟩) := HB.out.cell 5
  have f5 : W1.frozen? ⟨F, 5, none⟩ = false := HB.out.frozen 5
  have p6 : W1.cell? ⟨F, 6, none⟩ = some (.string ⟨#[]⟩) := HB.out.cell 6
  have f6 : W1.frozen? ⟨F, 6, none⟩ = false := HB.out.frozen 6
  have p7 : W1.cell? ⟨F, 7, none⟩ = some (.slice none 0 0) := HB.out.cell 7
  have f7 : W1.frozen? ⟨F, 7, none⟩ = false := HB.out.frozen 7
  have z0 : W1.cell? ⟨RB, 0, none⟩ = some (.int .u64 0) := HRb.out.cell 0
  have r0 : W1.frozen? ⟨RB, 0, none⟩ = false := HRb.out.frozen 0
  have z1 : W1.cell? ⟨RB, 1, none⟩ = some (.int .u64 0) := HRb.out.cell 1
  have r1 : W1.frozen? ⟨RB, 1, none⟩ = false := HRb.out.frozen 1
  have z2 : W1.cell? ⟨RB, 2, none⟩ = some (.int .u64 0) := HRb.out.cell 2
  have r2 : W1.frozen? ⟨RB, 2, none⟩ = false := HRb.out.frozen 2
  have z3 : W1.cell? ⟨RB, 3, none⟩ = some (.int .u64 0) := HRb.out.cell 3
  have r3 : W1.frozen? ⟨RB, 3, none⟩ = false := HRb.out.frozen 3
  have z4 : W1.cell? ⟨RB, 4, none⟩ = some (.bool false) := HRb.out.cell 4
  have r4 : W1.frozen? ⟨RB, 4, none⟩ = false := HRb.out.frozen 4
  have z5 : W1.cell? ⟨RB, 5, none⟩ = some (.string ⟨#[]⟩) := HRb.out.cell 5
  have r5 : W1.frozen? ⟨RB, 5, none⟩ = false := HRb.out.frozen 5
  have z6 : W1.cell? ⟨RB, 6, none⟩ = some (.string ⟨#[]⟩) := HRb.out.cell 6
  have r6 : W1.frozen? ⟨RB, 6, none⟩ = false := HRb.out.frozen 6
  have z7 : W1.cell? ⟨RB, 7, none⟩ = some (.slice none 0 0) := HRb.out.cell 7
  have r7 : W1.frozen? ⟨RB, 7, none⟩ = false := HRb.out.frozen 7
  have lF := HB.out.lt
  have lR := HRb.out.lt
  go_wp2_with fail
  refine (HT.out _ x 4 (by omega)).mono ?_
  rintro e0 w2 ⟨m2, hp⟩
  have HB2 := hide (m2.blk HB.out (by simp))
  have HR2 := hide (m2.blk HRb.out (by simp))
  have HM2 := hide (HM.out.trans m2 (by simp))
  clear p0 f0 z0 r0 p1 f1 z1 r1 p2 f2 z2 r2 p3 f3 z3 r3 p4 f4 z4 r4 p5 f5 z5 r5 p6 f6 z6 r6 p7 f7 z7 r7 lF lR
  have p0 : w2.cell? ⟨F, 0, none⟩ = some (.int .u64 (k : Nat)) := HB2.out.cell 0
  have f0 : w2.frozen? ⟨F, 0, none⟩ = false := HB2.out.frozen 0
  have p1 : w2.cell? ⟨F, 1, none⟩ = some (.int .u64 0) := HB2.out.cell 1
  have f1 : w2.frozen? ⟨F, 1, none⟩ = false := HB2.out.frozen 1
  have p2 : w2.cell? ⟨F, 2, none⟩ = some (.int .u64 0) := HB2.out.cell 2
  have f2 : w2.frozen? ⟨F, 2, none⟩ = false := HB2.out.frozen 2
  have p3 : w2.cell? ⟨F, 3, none⟩ = some (.int .u64 0) := HB2.out.cell 3
  have f3 : w2.frozen? ⟨F, 3, none⟩ = false := HB2.out.frozen 3
  have p4 : w2.cell? ⟨F, 4, none⟩ = some (.bool false) := HB2.out.cell 4
  have f4 : w2.frozen? ⟨F, 4, none⟩ = false := HB2.out.frozen 4
  have p5 : w2.cell? ⟨F, 5, none⟩ = some (.string ⟨#[]⟩) := HB2.out.cell 5
  have f5 : w2.frozen? ⟨F, 5, none⟩ = false := HB2.out.frozen 5
  have p6 : w2.cell? ⟨F, 6, none⟩ = some (.string ⟨#[]⟩) := HB2.out.cell 6
  have f6 : w2.frozen? ⟨F, 6, none⟩ = false := HB2.out.frozen 6
  have p7 : w2.cell? ⟨F, 7, none⟩ = some (.slice none 0 0) := HB2.out.cell 7
  have f7 : w2.frozen? ⟨F, 7, none⟩ = false := HB2.out.frozen 7
  have z0 : w2.cell? ⟨RB, 0, none⟩ = some (.int .u64 0) := HR2.out.cell 0
  have r0 : w2.frozen? ⟨RB, 0, none⟩ = false := HR2.out.frozen 0
  have z1 : w2.cell? ⟨RB, 1, none⟩ = some (.int .u64 0) := HR2.out.cell 1
  have r1 : w2.frozen? ⟨RB, 1, none⟩ = false := HR2.out.frozen 1
  have z2 : w2.cell? ⟨RB, 2, none⟩ = some (.int .u64 0) := HR2.out.cell 2
  have r2 : w2.frozen? ⟨RB, 2, none⟩ = false := HR2.out.frozen 2
  have z3 : w2.cell? ⟨RB, 3, none⟩ = some (.int .u64 0) := HR2.out.cell 3
  have r3 : w2.frozen? ⟨RB, 3, none⟩ = false := HR2.out.frozen 3
  have z4 : w2.cell? ⟨RB, 4, none⟩ = some (.bool false) := HR2.out.cell 4
  have r4 : w2.frozen? ⟨RB, 4, none⟩ = false := HR2.out.frozen 4
  have z5 : w2.cell? ⟨RB, 5, none⟩ = some (.string ⟨#[]⟩) := HR2.out.cell 5
  have r5 : w2.frozen? ⟨RB, 5, none⟩ = false := HR2.out.frozen 5
  have z6 : w2.cell? ⟨RB, 6, none⟩ = some (.string ⟨#[]⟩) := HR2.out.cell 6
  have r6 : w2.frozen? ⟨RB, 6, none⟩ = false := HR2.out.frozen 6
  have z7 : w2.cell? ⟨RB, 7, none⟩ = some (.slice none 0 0) := HR2.out.cell 7
  have r7 : w2.frozen? ⟨RB, 7, none⟩ = false := HR2.out.frozen 7
  have lF := HB2.out.lt
  have lR := HR2.out.lt
  cases hv4 : vnums 4 x.data.toList with
  | none =>
    rw [hv4] at hp
    simp only at hp
    subst hp
    have HV : Hid (HdV (hacked k x.data.toList) ⟨k, 0, 0, 0, false, ⟨#[]⟩, ⟨#[]⟩, []⟩ false) := hide (HdV.no (by unfold hacked; rw [hv4]; rfl))
    clear hv4 m2
    go_wp2_with fail
    go_quiet (fail)
    go_wp2_with fail
    have HE := hide (HdP.fin2 (X := (w2.drewN nq)) (f := ⟨k, 0, 0, 0, false, ⟨#[]⟩, ⟨#[]⟩, []⟩) (A := none) (c := 0) HV.out (ROwn.nil _ _) (by simp) (HM2.out.drewN nq) HR2.out HRBw.out)
    refine bodyPost_ret (results_cell_tmp_row rfl _ _ RB 26 (fcs none (⟨k, 0, 0, 0, false, ⟨#[]⟩, ⟨#[]⟩, []⟩ : Fr).list.length 0 ⟨k, 0, 0, 0, false, ⟨#[]⟩, ⟨#[]⟩, []⟩) _ rfl ?_ Tryd.underlying26 rfl (by kernel_rfl)) rfl ?_
    · exact HE.out.1
    exact HE.out.2
  | some xx =>
    rw [hv4] at hp
    obtain ⟨ns, r⟩ := xx
    obtain ⟨An, cn, rfl, hn⟩ := hp
    obtain ⟨hl4, hns, hrl⟩ := vnums_len 4 _ _ hv4
    simp only at hl4 hns hrl hn
    obtain ⟨n0, n1, n2, n3, rfl⟩ := len4 hl4
    have hn0 := hns n0 (by simp)
    have hn1 := hns n1 (by simp)
    have hn2 := hns n2 (by simp)
    have hn3 := hns n3 (by simp)
    have hn' : NOwn w2 w.heap.size An cn [n0, n1, n2, n3] := hn.base HM.out.size
    obtain ⟨gn, rfl, hgl, -, y0⟩ := hn'.at_ (i := 0) (x := n0) rfl
    obtain ⟨_, hA, _, _, y1⟩ := hn'.at_ (i := 1) (x := n1) rfl
    cases hA
    obtain ⟨_, hA, _, _, y2⟩ := hn'.at_ (i := 2) (x := n2) rfl
    cases hA
    obtain ⟨_, hA, _, _, y3⟩ := hn'.at_ (i := 3) (x := n3) rfl
    cases hA
    have HNum := hide hn'
    obtain ⟨S, hS, hSz, hSl⟩ := putB2 r
    rw [hS]
    have hSs : S.size ≤ 1000000 := by rw [hSz]; have := bytes_len x; omega
    rw [← hSl] at hv4
    have HV4 := hide hv4
    have HHk : Hid (hacked k x.data.toList = if 63 < n2 ∨ n0 < n3 then none else
      (hrng n2 (n0 - n3) S.data.toList).bind (ackG k n1 [(n0 - n3, n0)])) := hide (by
      unfold hacked
      rw [hv4]
      rfl)
    have HSt := hide (show AckS w w2 RB F none 0 ⟨k, 0, 0, 0, false, ⟨#[]⟩, ⟨#[]⟩, []⟩ (some ⟨gn, 0, none⟩) cn [n0, n1, n2, n3] from ⟨HB2.out, HR2.out, ROwn.nil _ _, hn', HM2.out⟩)
    clear hv4 hl4 hns hrl hS hSz hSl m2 hn hn'
    by_cases h63 : 63 < n2
    · have HV : Hid (HdV (hacked k x.data.toList) ⟨k, 0, 0, 0, false, ⟨#[]⟩, ⟨#[]⟩, []⟩ false) := hide (HdV.no (by rw [HHk.out, if_pos (.inl h63)]))
      have g1 : decide ((63 : Int) < n2) = true := decide_eq_true (by omega)
      have g2 : decide (63 < n2) = true := decide_eq_true h63
      clear h63
      go_wp2_with fail
      go_quiet (fail)
      go_wp2_with fail
      have HE := hide (HdP.fin2 (X := (w2.drewN nq)) (f := ⟨k, 0, 0, 0, false, ⟨#[]⟩, ⟨#[]⟩, []⟩) (A := none) (c := 0) HV.out (ROwn.nil _ _) (by simp) (HM2.out.drewN nq) HR2.out HRBw.out)
      refine bodyPost_ret (results_cell_tmp_row rfl _ _ RB 26 (fcs none (⟨k, 0, 0, 0, false, ⟨#[]⟩, ⟨#[]⟩, []⟩ : Fr).list.length 0 ⟨k, 0, 0, 0, false, ⟨#[]⟩, ⟨#[]⟩, []⟩) _ rfl ?_ Tryd.underlying26 rfl (by kernel_rfl)) rfl ?_
      · exact HE.out.1
      exact HE.out.2
    have g1 : decide ((63 : Int) < n2) = false := decide_eq_false (by omega)
    have g2 : decide (63 < n2) = false := decide_eq_false h63
    by_cases h03 : n0 < n3
    · have HV : Hid (HdV (hacked k x.data.toList) ⟨k, 0, 0, 0, false, ⟨#[]⟩, ⟨#[]⟩, []⟩ false) := hide (HdV.no (by rw [HHk.out, if_pos (.inr h03)]))
      have g3 : decide ((n0 : Int) < n3) = true := decide_eq_true (by omega)
      have g4 : decide (n0 < n3) = true := decide_eq_true h03
      clear h63 h03
      go_wp2_with fail
      go_quiet (fail)
      go_wp2_with fail
      have HE := hide (HdP.fin2 (X := (w2.drewN nq)) (f := ⟨k, 0, 0, 0, false, ⟨#[]⟩, ⟨#[]⟩, []⟩) (A := none) (c := 0) HV.out (ROwn.nil _ _) (by simp) (HM2.out.drewN nq) HR2.out HRBw.out)
      refine bodyPost_ret (results_cell_tmp_row rfl _ _ RB 26 (fcs none (⟨k, 0, 0, 0, false, ⟨#[]⟩, ⟨#[]⟩, []⟩ : Fr).list.length 0 ⟨k, 0, 0, 0, false, ⟨#[]⟩, ⟨#[]⟩, []⟩) _ rfl ?_ Tryd.underlying26 rfl (by kernel_rfl)) rfl ?_
      · exact HE.out.1
      exact HE.out.2
    have g3 : decide ((n0 : Int) < n3) = false := decide_eq_false (by omega)
    have g4 : decide (n0 < n3) = false := decide_eq_false h03
    obtain ⟨lo, hlo⟩ : ∃ lo, n0 - n3 = lo := ⟨_, rfl⟩
    have HHk2 := HHk.out.trans (if_neg (by omega))
    rw [hlo] at HHk2
    have HH := hide HHk2
    have e1 : (n0 : Int) - n3 = (lo : Int) := by omega
    have e2 : IntKind.u64.wrap ((n0 : Int) - n3) = (lo : Int) := by rw [e1]; exact IntWalk.u64_in _ (by omega)
    have e3 : IntKind.u64.wrap (lo : Int) = (lo : Int) := IntWalk.u64_in _ (by omega)
    have hlo62 : lo < 4611686018427387904 := by omega
    clear HHk2 hlo h03
    go_wp2_with fail
    go_quiet (fail)
    go_wp2_with fail
    obtain ⟨X4, hX4⟩ : ∃ X4, (w2.drewN nq).setCell ⟨F, 1, none⟩ (.int .u64 (n1 : Nat)) = X4 := ⟨_, rfl⟩
    have HS4 := hide ((HSt.out.new ((Mod.refl [] w2).drewN nq)).set (g := ⟨k, n1, 0, 0, false, ⟨#[]⟩, ⟨#[]⟩, []⟩) HFw.out HFR.out 1 (.int .u64 (n1 : Nat)) rfl rfl)
    rw [hX4] at HS4
    rw [hX4]
    clear hX4
    clear p0 f0 z0 r0 p1 f1 z1 r1 p2 f2 z2 r2 p3 f3 z3 r3 p4 f4 z4 r4 p5 f5 z5 r5 p6 f6 z6 r6 p7 f7 z7 r7 lF lR y0 y1 y2 y3 hgl HB2 HR2
    have p0 : X4.cell? ⟨F, 0, none⟩ = some (.int .u64 (k : Nat)) := HS4.out.fr.cell 0
    have f0 : X4.frozen? ⟨F, 0, none⟩ = false := HS4.out.fr.frozen 0
    have p1 : X4.cell? ⟨F, 1, none⟩ = some (.int .u64 (n1 : Nat)) := HS4.out.fr.cell 1
    have f1 : X4.frozen? ⟨F, 1, none⟩ = false := HS4.out.fr.frozen 1
    have p2 : X4.cell? ⟨F, 2, none⟩ = some (.int .u64 0) := HS4.out.fr.cell 2
    have f2 : X4.frozen? ⟨F, 2, none⟩ = false := HS4.out.fr.frozen 2
    have p3 : X4.cell? ⟨F, 3, none⟩ = some (.int .u64 0) := HS4.out.fr.cell 3
    have f3 : X4.frozen? ⟨F, 3, none⟩ = false := HS4.out.fr.frozen 3
    have p4 : X4.cell? ⟨F, 4, none⟩ = some (.bool false) := HS4.out.fr.cell 4
    have f4 : X4.frozen? ⟨F, 4, none⟩ = false := HS4.out.fr.frozen 4
    have p5 : X4.cell? ⟨F, 5, none⟩ = some (.string ⟨#[]⟩) := HS4.out.fr.cell 5
    have f5 : X4.frozen? ⟨F, 5, none⟩ = false := HS4.out.fr.frozen 5
    have p6 : X4.cell? ⟨F, 6, none⟩ = some (.string ⟨#[]⟩) := HS4.out.fr.cell 6
    have f6 : X4.frozen? ⟨F, 6, none⟩ = false := HS4.out.fr.frozen 6
    have p7 : X4.cell? ⟨F, 7, none⟩ = some (.slice none 0 0) := HS4.out.fr.cell 7
    have f7 : X4.frozen? ⟨F, 7, none⟩ = false := HS4.out.fr.frozen 7
    have z0 : X4.cell? ⟨RB, 0, none⟩ = some (.int .u64 0) := HS4.out.rb.cell 0
    have r0 : X4.frozen? ⟨RB, 0, none⟩ = false := HS4.out.rb.frozen 0
    have z1 : X4.cell? ⟨RB, 1, none⟩ = some (.int .u64 0) := HS4.out.rb.cell 1
    have r1 : X4.frozen? ⟨RB, 1, none⟩ = false := HS4.out.rb.frozen 1
    have z2 : X4.cell? ⟨RB, 2, none⟩ = some (.int .u64 0) := HS4.out.rb.cell 2
    have r2 : X4.frozen? ⟨RB, 2, none⟩ = false := HS4.out.rb.frozen 2
    have z3 : X4.cell? ⟨RB, 3, none⟩ = some (.int .u64 0) := HS4.out.rb.cell 3
    have r3 : X4.frozen? ⟨RB, 3, none⟩ = false := HS4.out.rb.frozen 3
    have z4 : X4.cell? ⟨RB, 4, none⟩ = some (.bool false) := HS4.out.rb.cell 4
    have r4 : X4.frozen? ⟨RB, 4, none⟩ = false := HS4.out.rb.frozen 4
    have z5 : X4.cell? ⟨RB, 5, none⟩ = some (.string ⟨#[]⟩) := HS4.out.rb.cell 5
    have r5 : X4.frozen? ⟨RB, 5, none⟩ = false := HS4.out.rb.frozen 5
    have z6 : X4.cell? ⟨RB, 6, none⟩ = some (.string ⟨#[]⟩) := HS4.out.rb.cell 6
    have r6 : X4.frozen? ⟨RB, 6, none⟩ = false := HS4.out.rb.frozen 6
    have z7 : X4.cell? ⟨RB, 7, none⟩ = some (.slice none 0 0) := HS4.out.rb.cell 7
    have r7 : X4.frozen? ⟨RB, 7, none⟩ = false := HS4.out.rb.frozen 7
    have lF := HS4.out.fr.lt
    have lR := HS4.out.rb.lt
    obtain ⟨_, hA, hgl, _, y0⟩ := HS4.out.num.at_ (i := 0) (x := n0) rfl
    cases hA
    obtain ⟨_, hA, _, _, y2⟩ := HS4.out.num.at_ (i := 2) (x := n2) rfl
    cases hA
    obtain ⟨_, hA, _, _, y3⟩ := HS4.out.num.at_ (i := 3) (x := n3) rfl
    cases hA
    obtain ⟨A6, c6, X6, hrun, hnn, ⟨u7, hu7⟩, hfz, hl6, hS6⟩ := (HS4.out.new ((Mod.refl [] X4).drew)).app HFw.out HFR.out (by simp) (lo, n0)
    have HRun : Hid ((Builtin.append_ #[24, 24] 24 #[.slice none 0 0, .slice (some ⟨X4.heap.size, 0, none⟩) 1 1]).run Tryd.prog (X4.alloc (.cells #[.int .u64 (lo : Nat), .int .u64 (n0 : Nat)] 47)).drew = .ok (.slice A6 (0 + 1) c6) X6) := hide hrun
    have HS6 := hide hS6
    clear hrun hS6
    go_cut [63] (fun v wx => v = .pointer (some ⟨F, 7, none⟩) ∧ ∃ A6 c6, AckS w wx RB F A6 c6 { (⟨k, n1, 0, 0, false, ⟨#[]⟩, ⟨#[]⟩, []⟩ : Fr) with list := (⟨k, n1, 0, 0, false, ⟨#[]⟩, ⟨#[]⟩, []⟩ : Fr).list ++ [(lo, n0)] } (some ⟨gn, 0, none⟩) cn [n0, n1, n2, n3])
    case first =>
      have HS0 := hide ((NOwn.new HS4.out.num ((Mod.refl [] X4).drew)).two 0 3 rfl rfl)
      obtain ⟨k1, k2, k3⟩ := hnn _ _ _ _ (NOwn.new HS4.out.num ((Mod.refl [] X4).drew))
      have HS1 := hide (k1.two 0 3 rfl rfl)
      have HS2 := hide (k2.two 0 3 rfl rfl)
      have HS3' := hide (k3.two 0 3 rfl rfl)
      clear k1 k2 k3 hnn
      refine wp_region_held_drew (S := (fun w' => w'.cell? ⟨gn, 0, none⟩ = some (.int .u64 (n0 : Nat)) ∧ w'.cell? ⟨gn, 3, none⟩ = some (.int .u64 (n3 : Nat)))) (by kernel_rfl) HS0.out (fun _ => ?_)
      refine take_dst (i := 0) (v := ?_) 48 rfl rfl (by kernel_rfl) (by kernel_rfl) (by kernel_rfl) (fun _ _ _ h => h) (Or.inl ⟨by rfl, ?_⟩) HS0.out ?_
      rotate_left
      · intro wq hSw
        obtain ⟨k0, k3⟩ := hSw
        go_simp
        first | done | (with_reducible rfl)
      simp only [Act.put, List.setIfInBounds_toArray, List.set_cons_zero, List.set_cons_succ]
      refine take_dst (i := 2) (v := ?_) 50 rfl rfl (by kernel_rfl) (by kernel_rfl) (by kernel_rfl) (fun _ _ _ h => h) (Or.inl ⟨by rfl, ?_⟩) HS0.out ?_
      rotate_left
      · intro wq hSw
        obtain ⟨k0, k3⟩ := hSw
        go_simp
        first | done | (with_reducible rfl)
      simp only [Act.put, List.setIfInBounds_toArray, List.set_cons_zero, List.set_cons_succ]
      refine take_dst (i := 3) (v := ?_) 51 rfl rfl (by kernel_rfl) (by kernel_rfl) (by kernel_rfl) (fun _ _ _ h => h) (Or.inl ⟨by rfl, ?_⟩) HS0.out ?_
      rotate_left
      · intro wq hSw
        obtain ⟨k0, k3⟩ := hSw
        go_simp
        first | done | (with_reducible rfl)
      simp only [Act.put, List.setIfInBounds_toArray, List.set_cons_zero, List.set_cons_succ]
      refine take_dst (i := 4) (v := ?_) 52 rfl rfl (by kernel_rfl) (by kernel_rfl) (by kernel_rfl) (fun _ _ _ h => h) (Or.inl ⟨by rfl, ?_⟩) HS0.out ?_
      rotate_left
      · intro wq hSw
        obtain ⟨k0, k3⟩ := hSw
        go_simp
        first | done | (with_reducible rfl)
      simp only [Act.put, List.setIfInBounds_toArray, List.set_cons_zero, List.set_cons_succ]
      refine take_dst (i := 5) (v := ?_) 53 rfl rfl (by kernel_rfl) (by kernel_rfl) (by kernel_rfl) (fun _ _ _ h => h) (Or.inl ⟨by rfl, ?_⟩) HS0.out ?_
      rotate_left
      · intro wq hSw
        obtain ⟨k0, k3⟩ := hSw
        go_simp
        first | done | (with_reducible rfl)
      simp only [Act.put, List.setIfInBounds_toArray, List.set_cons_zero, List.set_cons_succ]
      refine take_dst (i := 6) (v := ?_) 54 rfl rfl (by kernel_rfl) (by kernel_rfl) (by kernel_rfl) (fun _ _ _ h => h) (Or.inl ⟨by rfl, ?_⟩) HS0.out ?_
      rotate_left
      · intro wq hSw
        obtain ⟨k0, k3⟩ := hSw
        go_simp
        first | done | (with_reducible rfl)
      simp only [Act.put, List.setIfInBounds_toArray, List.set_cons_zero, List.set_cons_succ]
      refine take_dst (i := 7) (v := ?_) 55 rfl rfl (by kernel_rfl) (by kernel_rfl) (by kernel_rfl) (fun _ _ _ h => h) (Or.inl ⟨by rfl, ?_⟩) HS0.out ?_
      rotate_left
      · intro wq hSw
        obtain ⟨k0, k3⟩ := hSw
        go_simp
        first | done | (with_reducible rfl)
      simp only [Act.put, List.setIfInBounds_toArray, List.set_cons_zero, List.set_cons_succ]
      refine take_dst (i := 8) (v := ?_) 56 rfl rfl (by kernel_rfl) (by kernel_rfl) (by kernel_rfl) (fun _ _ _ h => h) (Or.inl ⟨by rfl, ?_⟩) HS0.out ?_
      rotate_left
      · intro wq hSw
        obtain ⟨k0, k3⟩ := hSw
        go_simp
        first | done | (with_reducible rfl)
      simp only [Act.put, List.setIfInBounds_toArray, List.set_cons_zero, List.set_cons_succ]
      refine take_dst (i := 9) (v := ?_) 57 rfl rfl (by kernel_rfl) (by kernel_rfl) (by kernel_rfl) (fun _ _ _ h => h) (Or.inl ⟨by rfl, ?_⟩) HS0.out ?_
      rotate_left
      · intro wq hSw
        obtain ⟨k0, k3⟩ := hSw
        go_simp
        first | done | (with_reducible rfl)
      simp only [Act.put, List.setIfInBounds_toArray, List.set_cons_zero, List.set_cons_succ]
      refine take_dst (i := 10) (v := ?_) 58 rfl rfl (by kernel_rfl) (by kernel_rfl) (by kernel_rfl) (fun _ _ _ h => h) (Or.inl ⟨by rfl, ?_⟩) HS0.out ?_
      rotate_left
      · intro wq hSw
        obtain ⟨k0, k3⟩ := hSw
        go_simp
        first | done | (with_reducible rfl)
      simp only [Act.put, List.setIfInBounds_toArray, List.set_cons_zero, List.set_cons_succ]
      refine take_dst (i := 11) (v := ?_) 59 rfl rfl (by kernel_rfl) (by kernel_rfl) (by kernel_rfl) (fun _ _ _ h => h) (Or.inl ⟨by rfl, ?_⟩) HS0.out ?_
      rotate_left
      · intro wq hSw
        obtain ⟨k0, k3⟩ := hSw
        go_simp
        first | done | (with_reducible rfl)
      simp only [Act.put, List.setIfInBounds_toArray, List.set_cons_zero, List.set_cons_succ]
      refine take_dst (i := 12) (v := ?_) 60 rfl rfl (by kernel_rfl) (by kernel_rfl) (by kernel_rfl) (fun _ _ _ h => h) (Or.inl ⟨by rfl, ?_⟩) HS0.out ?_
      rotate_left
      · intro wq hSw
        obtain ⟨k0, k3⟩ := hSw
        go_simp
        first | done | (with_reducible rfl)
      simp only [Act.put, List.setIfInBounds_toArray, List.set_cons_zero, List.set_cons_succ]
      refine wpAnyH_ready (rs := [1, 13]) (by kernel_rfl) (by simp) ?_
      refine AllReadyH.cons rfl (fun K hK => ?_) (AllReadyH.cons rfl (fun K hK => ?_) AllReadyH.nil)
      · go_simp
        refine hK.out _ _ HS0.out (fun _ => ?_)
        clear hK K
        try simp only [Act.put, List.setIfInBounds_toArray, List.set_cons_zero, List.set_cons_succ]
        refine wpAnyH_ready (rs := [13]) (by kernel_rfl) (by simp) ?_
        refine AllReadyH.cons rfl (fun K hK => ?_) AllReadyH.nil
        go_simp
        refine hK.out _ _ HS1.out (fun _ => ?_)
        clear hK K
        try simp only [Act.put, List.setIfInBounds_toArray, List.set_cons_zero, List.set_cons_succ]
        refine wpAnyH_ready (rs := [14]) (by kernel_rfl) (by simp) ?_
        refine AllReadyH.cons rfl (fun K hK => ?_) AllReadyH.nil
        refine step_append_runL rfl (.tmp 49) (.tmp 61) 24 24 rfl (.slice none 0 0) (.slice (some ⟨X4.heap.size, 0, none⟩) 1 1) (by simp [Act.eval]) (by simp [Act.eval]) HRun.out ?_
        refine hK.out _ _ HS2.out (fun _ => ?_)
        clear hK K
        try simp only [Act.put, List.setIfInBounds_toArray, List.set_cons_zero, List.set_cons_succ]
        refine take_dst (i := 15) (v := ?_) 63 rfl rfl (by kernel_rfl) (by kernel_rfl) (by kernel_rfl) (fun _ _ _ h => h) (Or.inl ⟨by rfl, ?_⟩) HS2.out ?_
        rotate_left
        · intro wq hSw
          obtain ⟨k0, k3⟩ := hSw
          go_simp
          first | done | (with_reducible rfl)
        simp only [Act.put, List.setIfInBounds_toArray, List.set_cons_zero, List.set_cons_succ]
        refine wpAnyH_ready (rs := [16]) (by kernel_rfl) (by simp) ?_
        refine AllReadyH.cons rfl (fun K hK => ?_) AllReadyH.nil
        go_simp
        refine hK.out _ _ HS3'.out (fun _ => ?_)
        clear hK K
        try simp only [Act.put, List.setIfInBounds_toArray, List.set_cons_zero, List.set_cons_succ]
        refine wpAnyH_done (by kernel_rfl) ?_ _
        go_wp2_with fail
        go_meet
        exact ⟨rfl, _, _, HS6.out⟩
      · go_simp
        refine hK.out _ _ HS1.out (fun _ => ?_)
        clear hK K
        try simp only [Act.put, List.setIfInBounds_toArray, List.set_cons_zero, List.set_cons_succ]
        refine wpAnyH_ready (rs := [1]) (by kernel_rfl) (by simp) ?_
        refine AllReadyH.cons rfl (fun K hK => ?_) AllReadyH.nil
        go_simp
        refine hK.out _ _ HS1.out (fun _ => ?_)
        clear hK K
        try simp only [Act.put, List.setIfInBounds_toArray, List.set_cons_zero, List.set_cons_succ]
        refine wpAnyH_ready (rs := [14]) (by kernel_rfl) (by simp) ?_
        refine AllReadyH.cons rfl (fun K hK => ?_) AllReadyH.nil
        refine step_append_runL rfl (.tmp 49) (.tmp 61) 24 24 rfl (.slice none 0 0) (.slice (some ⟨X4.heap.size, 0, none⟩) 1 1) (by simp [Act.eval]) (by simp [Act.eval]) HRun.out ?_
        refine hK.out _ _ HS2.out (fun _ => ?_)
        clear hK K
        try simp only [Act.put, List.setIfInBounds_toArray, List.set_cons_zero, List.set_cons_succ]
        refine take_dst (i := 15) (v := ?_) 63 rfl rfl (by kernel_rfl) (by kernel_rfl) (by kernel_rfl) (fun _ _ _ h => h) (Or.inl ⟨by rfl, ?_⟩) HS2.out ?_
        rotate_left
        · intro wq hSw
          obtain ⟨k0, k3⟩ := hSw
          go_simp
          first | done | (with_reducible rfl)
        simp only [Act.put, List.setIfInBounds_toArray, List.set_cons_zero, List.set_cons_succ]
        refine wpAnyH_ready (rs := [16]) (by kernel_rfl) (by simp) ?_
        refine AllReadyH.cons rfl (fun K hK => ?_) AllReadyH.nil
        go_simp
        refine hK.out _ _ HS3'.out (fun _ => ?_)
        clear hK K
        try simp only [Act.put, List.setIfInBounds_toArray, List.set_cons_zero, List.set_cons_succ]
        refine wpAnyH_done (by kernel_rfl) ?_ _
        go_wp2_with fail
        go_meet
        exact ⟨rfl, _, _, HS6.out⟩
    case rest =>
      obtain ⟨-, A6, c6, hS6⟩ := hcut
      have HS6 := hide hS6
      clear p0 f0 z0 r0 p1 f1 z1 r1 p2 f2 z2 r2 p3 f3 z3 r3 p4 f4 z4 r4 p5 f5 z5 r5 p6 f6 z6 r6 p7 f7 z7 r7 lF lR y0 y2 y3 hgl hu7 hfz hl6 hS6 HRun g1 g2 g3 g4 e1 e2 e3
      go_wp2_with fail
      go_loopw [8, 10] (fun sv iv wr => ∃ (j low hi : Nat) (T : ByteArray) (A : Option Addr) (c : Nat) (l : List (Nat × Nat)), j ≤ n2 ∧ iv = .int .u64 (j : Int) ∧ sv = .string T ∧ T.size ≤ 1000000 ∧ low < 4611686018427387904 ∧ Hid (l.length = j + 1) ∧ Hid (l[j]? = some (low, hi)) ∧ Hid (hacked k x.data.toList = (hrng (n2 - j) low T.data.toList).bind (ackG k n1 l)) ∧ Hid (AckS w wr RB F A c ⟨k, n1, 0, 0, false, ⟨#[]⟩, ⟨#[]⟩, l⟩ (some ⟨gn, 0, none⟩) cn [n0, n1, n2, n3])) (fun _ iv _ => n2 - (intOf iv).toNat)
      case atStart => exact ⟨0, lo, n0, S, A6, c6, [(lo, n0)], by omega, rfl, rfl, hSs, by omega, hide rfl, hide rfl, HH, HS6⟩
      case round =>
        obtain ⟨j, low, hi, T, A, c, l, hj, rfl, rfl, hTs, hlow, hlen, hlast, hres, hS⟩ := hrel
        have HLl : Hid (l.length ≤ 64) := hide (by rw [hlen.out]; omega)
        have HRg := hide (hS.out.own.rngs (by show l.length ≤ _; rw [hlen.out]; omega))
        have p0 : wr.cell? ⟨F, 0, none⟩ = some (.int .u64 (k : Nat)) := hS.out.fr.cell 0
        have f0 : wr.frozen? ⟨F, 0, none⟩ = false := hS.out.fr.frozen 0
        have p1 : wr.cell? ⟨F, 1, none⟩ = some (.int .u64 (n1 : Nat)) := hS.out.fr.cell 1
        have f1 : wr.frozen? ⟨F, 1, none⟩ = false := hS.out.fr.frozen 1
        have p2 : wr.cell? ⟨F, 2, none⟩ = some (.int .u64 0) := hS.out.fr.cell 2
        have f2 : wr.frozen? ⟨F, 2, none⟩ = false := hS.out.fr.frozen 2
        have p3 : wr.cell? ⟨F, 3, none⟩ = some (.int .u64 0) := hS.out.fr.cell 3
        have f3 : wr.frozen? ⟨F, 3, none⟩ = false := hS.out.fr.frozen 3
        have p4 : wr.cell? ⟨F, 4, none⟩ = some (.bool false) := hS.out.fr.cell 4
        have f4 : wr.frozen? ⟨F, 4, none⟩ = false := hS.out.fr.frozen 4
        have p5 : wr.cell? ⟨F, 5, none⟩ = some (.string ⟨#[]⟩) := hS.out.fr.cell 5
        have f5 : wr.frozen? ⟨F, 5, none⟩ = false := hS.out.fr.frozen 5
        have p6 : wr.cell? ⟨F, 6, none⟩ = some (.string ⟨#[]⟩) := hS.out.fr.cell 6
        have f6 : wr.frozen? ⟨F, 6, none⟩ = false := hS.out.fr.frozen 6
        have p7 : wr.cell? ⟨F, 7, none⟩ = some (.slice A l.length c) := hS.out.fr.cell 7
        have f7 : wr.frozen? ⟨F, 7, none⟩ = false := hS.out.fr.frozen 7
        have z0 : wr.cell? ⟨RB, 0, none⟩ = some (.int .u64 0) := hS.out.rb.cell 0
        have r0 : wr.frozen? ⟨RB, 0, none⟩ = false := hS.out.rb.frozen 0
        have z1 : wr.cell? ⟨RB, 1, none⟩ = some (.int .u64 0) := hS.out.rb.cell 1
        have r1 : wr.frozen? ⟨RB, 1, none⟩ = false := hS.out.rb.frozen 1
        have z2 : wr.cell? ⟨RB, 2, none⟩ = some (.int .u64 0) := hS.out.rb.cell 2
        have r2 : wr.frozen? ⟨RB, 2, none⟩ = false := hS.out.rb.frozen 2
        have z3 : wr.cell? ⟨RB, 3, none⟩ = some (.int .u64 0) := hS.out.rb.cell 3
        have r3 : wr.frozen? ⟨RB, 3, none⟩ = false := hS.out.rb.frozen 3
        have z4 : wr.cell? ⟨RB, 4, none⟩ = some (.bool false) := hS.out.rb.cell 4
        have r4 : wr.frozen? ⟨RB, 4, none⟩ = false := hS.out.rb.frozen 4
        have z5 : wr.cell? ⟨RB, 5, none⟩ = some (.string ⟨#[]⟩) := hS.out.rb.cell 5
        have r5 : wr.frozen? ⟨RB, 5, none⟩ = false := hS.out.rb.frozen 5
        have z6 : wr.cell? ⟨RB, 6, none⟩ = some (.string ⟨#[]⟩) := hS.out.rb.cell 6
        have r6 : wr.frozen? ⟨RB, 6, none⟩ = false := hS.out.rb.frozen 6
        have z7 : wr.cell? ⟨RB, 7, none⟩ = some (.slice none 0 0) := hS.out.rb.cell 7
        have r7 : wr.frozen? ⟨RB, 7, none⟩ = false := hS.out.rb.frozen 7
        have lF := hS.out.fr.lt
        have lR := hS.out.rb.lt
        obtain ⟨_, hA, hgl, _, y2⟩ := hS.out.num.at_ (i := 2) (x := n2) rfl
        cases hA
        by_cases h : j < n2
        · have hnj : n2 - j = (n2 - (j + 1)) + 1 := by omega
          have HNj := hide hnj
          clear hnj
          go_wp2_with fail
          refine (HT.out _ T 2 (by omega)).mono ?_
          rintro e0 w3 ⟨m3, hp⟩
          have HS3 := hide (hS.out.new m3)
          clear p0 f0 z0 r0 p1 f1 z1 r1 p2 f2 z2 r2 p3 f3 z3 r3 p4 f4 z4 r4 p5 f5 z5 r5 p6 f6 z6 r6 p7 f7 z7 r7 lF lR y2 hgl
          have p0 : w3.cell? ⟨F, 0, none⟩ = some (.int .u64 (k : Nat)) := HS3.out.fr.cell 0
          have f0 : w3.frozen? ⟨F, 0, none⟩ = false := HS3.out.fr.frozen 0
          have p1 : w3.cell? ⟨F, 1, none⟩ = some (.int .u64 (n1 : Nat)) := HS3.out.fr.cell 1
          have f1 : w3.frozen? ⟨F, 1, none⟩ = false := HS3.out.fr.frozen 1
          have p2 : w3.cell? ⟨F, 2, none⟩ = some (.int .u64 0) := HS3.out.fr.cell 2
          have f2 : w3.frozen? ⟨F, 2, none⟩ = false := HS3.out.fr.frozen 2
          have p3 : w3.cell? ⟨F, 3, none⟩ = some (.int .u64 0) := HS3.out.fr.cell 3
          have f3 : w3.frozen? ⟨F, 3, none⟩ = false := HS3.out.fr.frozen 3
          have p4 : w3.cell? ⟨F, 4, none⟩ = some (.bool false) := HS3.out.fr.cell 4
          have f4 : w3.frozen? ⟨F, 4, none⟩ = false := HS3.out.fr.frozen 4
          have p5 : w3.cell? ⟨F, 5, none⟩ = some (.string ⟨#[]⟩) := HS3.out.fr.cell 5
          have f5 : w3.frozen? ⟨F, 5, none⟩ = false := HS3.out.fr.frozen 5
          have p6 : w3.cell? ⟨F, 6, none⟩ = some (.string ⟨#[]⟩) := HS3.out.fr.cell 6
          have f6 : w3.frozen? ⟨F, 6, none⟩ = false := HS3.out.fr.frozen 6
          have p7 : w3.cell? ⟨F, 7, none⟩ = some (.slice A l.length c) := HS3.out.fr.cell 7
          have f7 : w3.frozen? ⟨F, 7, none⟩ = false := HS3.out.fr.frozen 7
          have z0 : w3.cell? ⟨RB, 0, none⟩ = some (.int .u64 0) := HS3.out.rb.cell 0
          have r0 : w3.frozen? ⟨RB, 0, none⟩ = false := HS3.out.rb.frozen 0
          have z1 : w3.cell? ⟨RB, 1, none⟩ = some (.int .u64 0) := HS3.out.rb.cell 1
          have r1 : w3.frozen? ⟨RB, 1, none⟩ = false := HS3.out.rb.frozen 1
          have z2 : w3.cell? ⟨RB, 2, none⟩ = some (.int .u64 0) := HS3.out.rb.cell 2
          have r2 : w3.frozen? ⟨RB, 2, none⟩ = false := HS3.out.rb.frozen 2
          have z3 : w3.cell? ⟨RB, 3, none⟩ = some (.int .u64 0) := HS3.out.rb.cell 3
          have r3 : w3.frozen? ⟨RB, 3, none⟩ = false := HS3.out.rb.frozen 3
          have z4 : w3.cell? ⟨RB, 4, none⟩ = some (.bool false) := HS3.out.rb.cell 4
          have r4 : w3.frozen? ⟨RB, 4, none⟩ = false := HS3.out.rb.frozen 4
          have z5 : w3.cell? ⟨RB, 5, none⟩ = some (.string ⟨#[]⟩) := HS3.out.rb.cell 5
          have r5 : w3.frozen? ⟨RB, 5, none⟩ = false := HS3.out.rb.frozen 5
          have z6 : w3.cell? ⟨RB, 6, none⟩ = some (.string ⟨#[]⟩) := HS3.out.rb.cell 6
          have r6 : w3.frozen? ⟨RB, 6, none⟩ = false := HS3.out.rb.frozen 6
          have z7 : w3.cell? ⟨RB, 7, none⟩ = some (.slice none 0 0) := HS3.out.rb.cell 7
          have r7 : w3.frozen? ⟨RB, 7, none⟩ = false := HS3.out.rb.frozen 7
          have lF := HS3.out.fr.lt
          have lR := HS3.out.rb.lt
          have hrg3 := HRg.out.new m3
          obtain ⟨gl, ol, hjl, rfl, hgl2, v0, v1⟩ := hrg3.at_ (i := j) (by show j < l.length; rw [hlen.out]; omega)
          have hlj : l[j] = (low, hi) := by
            have := hlast.out
            rw [List.getElem?_eq_getElem (by rw [hlen.out]; omega)] at this
            exact Option.some.inj this
          have v0' : w3.cell? ⟨gl, ol + j * 2, none⟩ = some (.int .u64 (low : Nat)) := by rw [v0]; show some (Value.int .u64 ((l[j]).1 : Nat)) = _; rw [hlj]
          clear v0 v1 hrg3 hlj hjl
          have q1 : (l.length : Int) - 1 = (j : Int) := by rw [hlen.out]; omega
          have q2 : IntKind.i64.wrap ((l.length : Int) - 1) = (j : Int) := by rw [q1]; exact IntWalk.i64_in _ (by omega)
          have q3 : j < l.length := by rw [hlen.out]; omega
          have q4 : (j : Int) < (l.length : Int) := by rw [hlen.out]; omega
          have q5 : (l.length : Int) ≤ 64 := by rw [hlen.out]; omega
          cases hv2 : vnums 2 T.data.toList with
          | none =>
            rw [hv2] at hp
            simp only at hp
            subst hp
            have HV : Hid (HdV (hacked k x.data.toList) ⟨k, n1, 0, 0, false, ⟨#[]⟩, ⟨#[]⟩, l⟩ false) := hide (HdV.no (by rw [hres.out, HNj.out]; exact ackG_none hv2))
            clear hv2 m3 hres
            go_wp2_with fail
            go_quiet (fail)
            go_wp2_with fail
            have HE := hide (HdP.fin2 (X := (w3.drewN nq)) (f := ⟨k, n1, 0, 0, false, ⟨#[]⟩, ⟨#[]⟩, l⟩) (A := (some ⟨gl, ol, none⟩)) (c := c) HV.out (HS3.out.new ((Mod.refl [] w3).drewN nq)).own HLl.out (HS3.out.new ((Mod.refl [] w3).drewN nq)).mod (HS3.out.new ((Mod.refl [] w3).drewN nq)).rb HRBw.out)
            refine bodyPost_ret (results_cell_tmp_row rfl _ _ RB 26 (fcs (some ⟨gl, ol, none⟩) (⟨k, n1, 0, 0, false, ⟨#[]⟩, ⟨#[]⟩, l⟩ : Fr).list.length c ⟨k, n1, 0, 0, false, ⟨#[]⟩, ⟨#[]⟩, l⟩) _ rfl ?_ Tryd.underlying26 rfl (by kernel_rfl)) rfl ?_
            · exact HE.out.1
            exact HE.out.2
          | some xx =>
            rw [hv2] at hp
            obtain ⟨ns, r⟩ := xx
            obtain ⟨Am, cm, rfl, hn⟩ := hp
            obtain ⟨hl2, hns, hrl⟩ := vnums_len 2 _ _ hv2
            simp only at hl2 hns hrl hn
            obtain ⟨m0, m1, rfl⟩ := len2 hl2
            have hm0 := hns m0 (by simp)
            have hm1 := hns m1 (by simp)
            obtain ⟨gm, rfl, hgm, -, x0⟩ := hn.at_ (i := 0) (x := m0) rfl
            obtain ⟨_, hA, _, _, x1⟩ := hn.at_ (i := 1) (x := m1) rfl
            cases hA
            obtain ⟨T2, hT2, hT2z, hT2l⟩ := putB2 r
            rw [hT2]
            have hT2s : T2.size ≤ 1000000 := by rw [hT2z]; have := bytes_len T; omega
            rw [← hT2l] at hv2
            have HV2 := hide hv2
            have HNm := hide hn
            clear hv2 hl2 hns hrl hn hT2 hT2z hT2l
            have e0 : IntKind.u64.wrap ((m0 : Int) + 2) = (m0 : Int) + 2 := IntWalk.u64_in _ (by omega)
            by_cases hb1 : low < m0 + 2
            · have HV : Hid (HdV (hacked k x.data.toList) ⟨k, n1, 0, 0, false, ⟨#[]⟩, ⟨#[]⟩, l⟩ false) := hide (HdV.no (by rw [hres.out, HNj.out]; exact ackG_bad HV2.out (.inl hb1)))
              have g1 : decide ((low : Int) < (m0 : Int) + 2) = true := decide_eq_true (by omega)
              have g2 : decide (low < m0 + 2) = true := decide_eq_true hb1
              clear m3 hres hb1
              go_wp2_with fail
              go_quiet (fail)
              go_wp2_with fail
              have HE := hide (HdP.fin2 (X := (w3.drewN nq)) (f := ⟨k, n1, 0, 0, false, ⟨#[]⟩, ⟨#[]⟩, l⟩) (A := (some ⟨gl, ol, none⟩)) (c := c) HV.out (HS3.out.new ((Mod.refl [] w3).drewN nq)).own HLl.out (HS3.out.new ((Mod.refl [] w3).drewN nq)).mod (HS3.out.new ((Mod.refl [] w3).drewN nq)).rb HRBw.out)
              refine bodyPost_ret (results_cell_tmp_row rfl _ _ RB 26 (fcs (some ⟨gl, ol, none⟩) (⟨k, n1, 0, 0, false, ⟨#[]⟩, ⟨#[]⟩, l⟩ : Fr).list.length c ⟨k, n1, 0, 0, false, ⟨#[]⟩, ⟨#[]⟩, l⟩) _ rfl ?_ Tryd.underlying26 rfl (by kernel_rfl)) rfl ?_
              · exact HE.out.1
              exact HE.out.2
            have g1 : decide ((low : Int) < (m0 : Int) + 2) = false := decide_eq_false (by omega)
            have g2 : decide (low < m0 + 2) = false := decide_eq_false hb1
            obtain ⟨d1, hd1⟩ : ∃ d, low - m0 = d := ⟨_, rfl⟩
            obtain ⟨qh, hqh⟩ : ∃ d, d1 - 2 = d := ⟨_, rfl⟩
            have i1 : (low : Int) - m0 = (d1 : Int) := by omega
            have i2 : IntKind.u64.wrap ((low : Int) - m0) = (d1 : Int) := by rw [i1]; exact IntWalk.u64_in _ (by omega)
            have i3 : IntKind.u64.wrap (d1 : Int) = (d1 : Int) := IntWalk.u64_in _ (by omega)
            have i4 : (d1 : Int) - 2 = (qh : Int) := by omega
            have i5 : IntKind.u64.wrap ((d1 : Int) - 2) = (qh : Int) := by rw [i4]; exact IntWalk.u64_in _ (by omega)
            have i6 : IntKind.u64.wrap (qh : Int) = (qh : Int) := IntWalk.u64_in _ (by omega)
            by_cases hb2 : qh < m1
            · have HV : Hid (HdV (hacked k x.data.toList) ⟨k, n1, 0, 0, false, ⟨#[]⟩, ⟨#[]⟩, l⟩ false) := hide (HdV.no (by rw [hres.out, HNj.out]; exact ackG_bad HV2.out (.inr (by omega))))
              have g3 : decide ((qh : Int) < m1) = true := decide_eq_true (by omega)
              have g4 : decide (qh < m1) = true := decide_eq_true hb2
              clear m3 hres hb1 hb2 hd1 hqh
              go_wp2_with fail
              go_quiet (fail)
              go_wp2_with fail
              have HE := hide (HdP.fin2 (X := (w3.drewN nq)) (f := ⟨k, n1, 0, 0, false, ⟨#[]⟩, ⟨#[]⟩, l⟩) (A := (some ⟨gl, ol, none⟩)) (c := c) HV.out (HS3.out.new ((Mod.refl [] w3).drewN nq)).own HLl.out (HS3.out.new ((Mod.refl [] w3).drewN nq)).mod (HS3.out.new ((Mod.refl [] w3).drewN nq)).rb HRBw.out)
              refine bodyPost_ret (results_cell_tmp_row rfl _ _ RB 26 (fcs (some ⟨gl, ol, none⟩) (⟨k, n1, 0, 0, false, ⟨#[]⟩, ⟨#[]⟩, l⟩ : Fr).list.length c ⟨k, n1, 0, 0, false, ⟨#[]⟩, ⟨#[]⟩, l⟩) _ rfl ?_ Tryd.underlying26 rfl (by kernel_rfl)) rfl ?_
              · exact HE.out.1
              exact HE.out.2
            have g3 : decide ((qh : Int) < m1) = false := decide_eq_false (by omega)
            have g4 : decide (qh < m1) = false := decide_eq_false hb2
            obtain ⟨ql, hql⟩ : ∃ d, qh - m1 = d := ⟨_, rfl⟩
            have i7 : (qh : Int) - m1 = (ql : Int) := by omega
            have i8 : IntKind.u64.wrap ((qh : Int) - m1) = (ql : Int) := by rw [i7]; exact IntWalk.u64_in _ (by omega)
            have i9 : IntKind.u64.wrap (ql : Int) = (ql : Int) := IntWalk.u64_in _ (by omega)
            have HNext : Hid (hacked k x.data.toList = (hrng (n2 - (j + 1)) ql T2.data.toList).bind (ackG k n1 (l ++ [(ql, qh)]))) := hide (by
              rw [hres.out, HNj.out, ackG_step HV2.out (by omega)]
              rw [hd1, hqh, hql])
            have HQl : Hid (ql < 4611686018427387904) := hide (by omega)
            clear m3 hres hb1 hb2 hd1 hqh hql
            go_wp2_with fail
            go_quiet (fail)
            go_wp2_with fail
            obtain ⟨X4, hX4⟩ : ∃ X4, w3.drewN nq = X4 := ⟨_, rfl⟩
            have HS4 := hide (HS3.out.new ((Mod.refl [] w3).drewN nq))
            have HNm4 := hide (HNm.out.new ((Mod.refl [] w3).drewN nq))
            rw [hX4] at HS4 HNm4
            rw [hX4]
            clear p0 f0 z0 r0 p1 f1 z1 r1 p2 f2 z2 r2 p3 f3 z3 r3 p4 f4 z4 r4 p5 f5 z5 r5 p6 f6 z6 r6 p7 f7 z7 r7 lF lR x0 x1 hgm v0' hgl2 hX4
            have p0 : X4.cell? ⟨F, 0, none⟩ = some (.int .u64 (k : Nat)) := HS4.out.fr.cell 0
            have f0 : X4.frozen? ⟨F, 0, none⟩ = false := HS4.out.fr.frozen 0
            have p1 : X4.cell? ⟨F, 1, none⟩ = some (.int .u64 (n1 : Nat)) := HS4.out.fr.cell 1
            have f1 : X4.frozen? ⟨F, 1, none⟩ = false := HS4.out.fr.frozen 1
            have p2 : X4.cell? ⟨F, 2, none⟩ = some (.int .u64 0) := HS4.out.fr.cell 2
            have f2 : X4.frozen? ⟨F, 2, none⟩ = false := HS4.out.fr.frozen 2
            have p3 : X4.cell? ⟨F, 3, none⟩ = some (.int .u64 0) := HS4.out.fr.cell 3
            have f3 : X4.frozen? ⟨F, 3, none⟩ = false := HS4.out.fr.frozen 3
            have p4 : X4.cell? ⟨F, 4, none⟩ = some (.bool false) := HS4.out.fr.cell 4
            have f4 : X4.frozen? ⟨F, 4, none⟩ = false := HS4.out.fr.frozen 4
            have p5 : X4.cell? ⟨F, 5, none⟩ = some (.string ⟨#[]⟩) := HS4.out.fr.cell 5
            have f5 : X4.frozen? ⟨F, 5, none⟩ = false := HS4.out.fr.frozen 5
            have p6 : X4.cell? ⟨F, 6, none⟩ = some (.string ⟨#[]⟩) := HS4.out.fr.cell 6
            have f6 : X4.frozen? ⟨F, 6, none⟩ = false := HS4.out.fr.frozen 6
            have p7 : X4.cell? ⟨F, 7, none⟩ = some (.slice (some ⟨gl, ol, none⟩) l.length c) := HS4.out.fr.cell 7
            have f7 : X4.frozen? ⟨F, 7, none⟩ = false := HS4.out.fr.frozen 7
            have z0 : X4.cell? ⟨RB, 0, none⟩ = some (.int .u64 0) := HS4.out.rb.cell 0
            have r0 : X4.frozen? ⟨RB, 0, none⟩ = false := HS4.out.rb.frozen 0
            have z1 : X4.cell? ⟨RB, 1, none⟩ = some (.int .u64 0) := HS4.out.rb.cell 1
            have r1 : X4.frozen? ⟨RB, 1, none⟩ = false := HS4.out.rb.frozen 1
            have z2 : X4.cell? ⟨RB, 2, none⟩ = some (.int .u64 0) := HS4.out.rb.cell 2
            have r2 : X4.frozen? ⟨RB, 2, none⟩ = false := HS4.out.rb.frozen 2
            have z3 : X4.cell? ⟨RB, 3, none⟩ = some (.int .u64 0) := HS4.out.rb.cell 3
            have r3 : X4.frozen? ⟨RB, 3, none⟩ = false := HS4.out.rb.frozen 3
            have z4 : X4.cell? ⟨RB, 4, none⟩ = some (.bool false) := HS4.out.rb.cell 4
            have r4 : X4.frozen? ⟨RB, 4, none⟩ = false := HS4.out.rb.frozen 4
            have z5 : X4.cell? ⟨RB, 5, none⟩ = some (.string ⟨#[]⟩) := HS4.out.rb.cell 5
            have r5 : X4.frozen? ⟨RB, 5, none⟩ = false := HS4.out.rb.frozen 5
            have z6 : X4.cell? ⟨RB, 6, none⟩ = some (.string ⟨#[]⟩) := HS4.out.rb.cell 6
            have r6 : X4.frozen? ⟨RB, 6, none⟩ = false := HS4.out.rb.frozen 6
            have z7 : X4.cell? ⟨RB, 7, none⟩ = some (.slice none 0 0) := HS4.out.rb.cell 7
            have r7 : X4.frozen? ⟨RB, 7, none⟩ = false := HS4.out.rb.frozen 7
            have lF := HS4.out.fr.lt
            have lR := HS4.out.rb.lt
            obtain ⟨_, hA, hgm, _, x0⟩ := HNm4.out.at_ (i := 0) (x := m0) rfl
            cases hA
            obtain ⟨_, hA, _, _, x1⟩ := HNm4.out.at_ (i := 1) (x := m1) rfl
            cases hA
            obtain ⟨A6, c6, X6, hrun, hnn, ⟨u7, hu7⟩, hfz, hl6, hS6⟩ := (HS4.out.new ((Mod.refl [] X4).drew)).app HFw.out HFR.out (by show l.length ≤ _; rw [hlen.out]; omega) (ql, qh)
            have HRun : Hid ((Builtin.append_ #[24, 24] 24 #[.slice (some ⟨gl, ol, none⟩) l.length c, .slice (some ⟨X4.heap.size, 0, none⟩) 1 1]).run Tryd.prog (X4.alloc (.cells #[.int .u64 (ql : Nat), .int .u64 (qh : Nat)] 47)).drew = .ok (.slice A6 (l.length + 1) c6) X6) := hide hrun
            have HS6 := hide hS6
            clear hrun hS6
            go_cut [130] (fun v wx => v = .pointer (some ⟨F, 7, none⟩) ∧ ∃ A6 c6, AckS w wx RB F A6 c6 ⟨k, n1, 0, 0, false, ⟨#[]⟩, ⟨#[]⟩, l ++ [(ql, qh)]⟩ (some ⟨gn, 0, none⟩) cn [n0, n1, n2, n3])
            case first =>
              have HS0 := hide ((NOwn.new HNm4.out ((Mod.refl [] X4).drew)).two 0 1 rfl rfl)
              obtain ⟨k1, k2, k3⟩ := hnn _ _ _ _ (NOwn.new HNm4.out ((Mod.refl [] X4).drew))
              have HS1 := hide (k1.two 0 1 rfl rfl)
              have HS2 := hide (k2.two 0 1 rfl rfl)
              have HS3' := hide (k3.two 0 1 rfl rfl)
              clear k1 k2 k3 hnn
              refine wp_region_held_drew (S := (fun w' => w'.cell? ⟨gm, 0, none⟩ = some (.int .u64 (m0 : Nat)) ∧ w'.cell? ⟨gm, 1, none⟩ = some (.int .u64 (m1 : Nat)))) (by kernel_rfl) HS0.out (fun _ => ?_)
              refine take_dst (i := 0) (v := ?_) 109 rfl rfl (by kernel_rfl) (by kernel_rfl) (by kernel_rfl) (fun _ _ _ h => h) (Or.inl ⟨by rfl, ?_⟩) HS0.out ?_
              rotate_left
              · intro wq hSw
                obtain ⟨k0, k3⟩ := hSw
                go_simp
                first | done | (with_reducible rfl)
              simp only [Act.put, List.setIfInBounds_toArray, List.set_cons_zero, List.set_cons_succ]
              refine take_dst (i := 2) (v := ?_) 111 rfl rfl (by kernel_rfl) (by kernel_rfl) (by kernel_rfl) (fun _ _ _ h => h) (Or.inl ⟨by rfl, ?_⟩) HS0.out ?_
              rotate_left
              · intro wq hSw
                obtain ⟨k0, k3⟩ := hSw
                go_simp
                first | done | (with_reducible rfl)
              simp only [Act.put, List.setIfInBounds_toArray, List.set_cons_zero, List.set_cons_succ]
              refine take_dst (i := 3) (v := ?_) 112 rfl rfl (by kernel_rfl) (by kernel_rfl) (by kernel_rfl) (fun _ _ _ h => h) (Or.inl ⟨by rfl, ?_⟩) HS0.out ?_
              rotate_left
              · intro wq hSw
                obtain ⟨k0, k3⟩ := hSw
                go_simp
                first | done | (with_reducible rfl)
              simp only [Act.put, List.setIfInBounds_toArray, List.set_cons_zero, List.set_cons_succ]
              refine take_dst (i := 4) (v := ?_) 113 rfl rfl (by kernel_rfl) (by kernel_rfl) (by kernel_rfl) (fun _ _ _ h => h) (Or.inl ⟨by rfl, ?_⟩) HS0.out ?_
              rotate_left
              · intro wq hSw
                obtain ⟨k0, k3⟩ := hSw
                go_simp
                first | done | (with_reducible rfl)
              simp only [Act.put, List.setIfInBounds_toArray, List.set_cons_zero, List.set_cons_succ]
              refine take_dst (i := 5) (v := ?_) 114 rfl rfl (by kernel_rfl) (by kernel_rfl) (by kernel_rfl) (fun _ _ _ h => h) (Or.inl ⟨by rfl, ?_⟩) HS0.out ?_
              rotate_left
              · intro wq hSw
                obtain ⟨k0, k3⟩ := hSw
                go_simp
                first | done | (with_reducible rfl)
              simp only [Act.put, List.setIfInBounds_toArray, List.set_cons_zero, List.set_cons_succ]
              refine take_dst (i := 6) (v := ?_) 115 rfl rfl (by kernel_rfl) (by kernel_rfl) (by kernel_rfl) (fun _ _ _ h => h) (Or.inl ⟨by rfl, ?_⟩) HS0.out ?_
              rotate_left
              · intro wq hSw
                obtain ⟨k0, k3⟩ := hSw
                go_simp
                first | done | (with_reducible rfl)
              simp only [Act.put, List.setIfInBounds_toArray, List.set_cons_zero, List.set_cons_succ]
              refine take_dst (i := 7) (v := ?_) 116 rfl rfl (by kernel_rfl) (by kernel_rfl) (by kernel_rfl) (fun _ _ _ h => h) (Or.inl ⟨by rfl, ?_⟩) HS0.out ?_
              rotate_left
              · intro wq hSw
                obtain ⟨k0, k3⟩ := hSw
                go_simp
                first | done | (with_reducible rfl)
              simp only [Act.put, List.setIfInBounds_toArray, List.set_cons_zero, List.set_cons_succ]
              refine take_dst (i := 8) (v := ?_) 117 rfl rfl (by kernel_rfl) (by kernel_rfl) (by kernel_rfl) (fun _ _ _ h => h) (Or.inl ⟨by rfl, ?_⟩) HS0.out ?_
              rotate_left
              · intro wq hSw
                obtain ⟨k0, k3⟩ := hSw
                go_simp
                first | done | (with_reducible rfl)
              simp only [Act.put, List.setIfInBounds_toArray, List.set_cons_zero, List.set_cons_succ]
              refine take_dst (i := 9) (v := ?_) 118 rfl rfl (by kernel_rfl) (by kernel_rfl) (by kernel_rfl) (fun _ _ _ h => h) (Or.inl ⟨by rfl, ?_⟩) HS0.out ?_
              rotate_left
              · intro wq hSw
                obtain ⟨k0, k3⟩ := hSw
                go_simp
                first | done | (with_reducible rfl)
              simp only [Act.put, List.setIfInBounds_toArray, List.set_cons_zero, List.set_cons_succ]
              refine take_dst (i := 10) (v := ?_) 119 rfl rfl (by kernel_rfl) (by kernel_rfl) (by kernel_rfl) (fun _ _ _ h => h) (Or.inl ⟨by rfl, ?_⟩) HS0.out ?_
              rotate_left
              · intro wq hSw
                obtain ⟨k0, k3⟩ := hSw
                go_simp
                first | done | (with_reducible rfl)
              simp only [Act.put, List.setIfInBounds_toArray, List.set_cons_zero, List.set_cons_succ]
              refine take_dst (i := 11) (v := ?_) 120 rfl rfl (by kernel_rfl) (by kernel_rfl) (by kernel_rfl) (fun _ _ _ h => h) (Or.inl ⟨by rfl, ?_⟩) HS0.out ?_
              rotate_left
              · intro wq hSw
                obtain ⟨k0, k3⟩ := hSw
                go_simp
                first | done | (with_reducible rfl)
              simp only [Act.put, List.setIfInBounds_toArray, List.set_cons_zero, List.set_cons_succ]
              refine take_dst (i := 12) (v := ?_) 121 rfl rfl (by kernel_rfl) (by kernel_rfl) (by kernel_rfl) (fun _ _ _ h => h) (Or.inl ⟨by rfl, ?_⟩) HS0.out ?_
              rotate_left
              · intro wq hSw
                obtain ⟨k0, k3⟩ := hSw
                go_simp
                first | done | (with_reducible rfl)
              simp only [Act.put, List.setIfInBounds_toArray, List.set_cons_zero, List.set_cons_succ]
              refine take_dst (i := 13) (v := ?_) 122 rfl rfl (by kernel_rfl) (by kernel_rfl) (by kernel_rfl) (fun _ _ _ h => h) (Or.inl ⟨by rfl, ?_⟩) HS0.out ?_
              rotate_left
              · intro wq hSw
                obtain ⟨k0, k3⟩ := hSw
                go_simp
                first | done | (with_reducible rfl)
              simp only [Act.put, List.setIfInBounds_toArray, List.set_cons_zero, List.set_cons_succ]
              refine take_dst (i := 14) (v := ?_) 123 rfl rfl (by kernel_rfl) (by kernel_rfl) (by kernel_rfl) (fun _ _ _ h => h) (Or.inl ⟨by rfl, ?_⟩) HS0.out ?_
              rotate_left
              · intro wq hSw
                obtain ⟨k0, k3⟩ := hSw
                go_simp
                first | done | (with_reducible rfl)
              simp only [Act.put, List.setIfInBounds_toArray, List.set_cons_zero, List.set_cons_succ]
              refine take_dst (i := 15) (v := ?_) 124 rfl rfl (by kernel_rfl) (by kernel_rfl) (by kernel_rfl) (fun _ _ _ h => h) (Or.inl ⟨by rfl, ?_⟩) HS0.out ?_
              rotate_left
              · intro wq hSw
                obtain ⟨k0, k3⟩ := hSw
                go_simp
                first | done | (with_reducible rfl)
              simp only [Act.put, List.setIfInBounds_toArray, List.set_cons_zero, List.set_cons_succ]
              refine take_dst (i := 16) (v := ?_) 125 rfl rfl (by kernel_rfl) (by kernel_rfl) (by kernel_rfl) (fun _ _ _ h => h) (Or.inl ⟨by rfl, ?_⟩) HS0.out ?_
              rotate_left
              · intro wq hSw
                obtain ⟨k0, k3⟩ := hSw
                go_simp
                first | done | (with_reducible rfl)
              simp only [Act.put, List.setIfInBounds_toArray, List.set_cons_zero, List.set_cons_succ]
              refine take_dst (i := 17) (v := ?_) 126 rfl rfl (by kernel_rfl) (by kernel_rfl) (by kernel_rfl) (fun _ _ _ h => h) (Or.inl ⟨by rfl, ?_⟩) HS0.out ?_
              rotate_left
              · intro wq hSw
                obtain ⟨k0, k3⟩ := hSw
                go_simp
                first | done | (with_reducible rfl)
              simp only [Act.put, List.setIfInBounds_toArray, List.set_cons_zero, List.set_cons_succ]
              refine take_dst (i := 18) (v := ?_) 127 rfl rfl (by kernel_rfl) (by kernel_rfl) (by kernel_rfl) (fun _ _ _ h => h) (Or.inl ⟨by rfl, ?_⟩) HS0.out ?_
              rotate_left
              · intro wq hSw
                obtain ⟨k0, k3⟩ := hSw
                go_simp
                first | done | (with_reducible rfl)
              simp only [Act.put, List.setIfInBounds_toArray, List.set_cons_zero, List.set_cons_succ]
              refine wpAnyH_ready (rs := [1, 19]) (by kernel_rfl) (by simp) ?_
              refine AllReadyH.cons rfl (fun K hK => ?_) (AllReadyH.cons rfl (fun K hK => ?_) AllReadyH.nil)
              · go_simp
                refine hK.out _ _ HS0.out (fun _ => ?_)
                clear hK K
                try simp only [Act.put, List.setIfInBounds_toArray, List.set_cons_zero, List.set_cons_succ]
                refine wpAnyH_ready (rs := [19]) (by kernel_rfl) (by simp) ?_
                refine AllReadyH.cons rfl (fun K hK => ?_) AllReadyH.nil
                go_simp
                refine hK.out _ _ HS1.out (fun _ => ?_)
                clear hK K
                try simp only [Act.put, List.setIfInBounds_toArray, List.set_cons_zero, List.set_cons_succ]
                refine wpAnyH_ready (rs := [20]) (by kernel_rfl) (by simp) ?_
                refine AllReadyH.cons rfl (fun K hK => ?_) AllReadyH.nil
                refine step_append_runL rfl (.tmp 110) (.tmp 128) 24 24 rfl (.slice (some ⟨gl, ol, none⟩) l.length c) (.slice (some ⟨X4.heap.size, 0, none⟩) 1 1) (by simp [Act.eval]) (by simp [Act.eval]) HRun.out ?_
                refine hK.out _ _ HS2.out (fun _ => ?_)
                clear hK K
                try simp only [Act.put, List.setIfInBounds_toArray, List.set_cons_zero, List.set_cons_succ]
                refine take_dst (i := 21) (v := ?_) 130 rfl rfl (by kernel_rfl) (by kernel_rfl) (by kernel_rfl) (fun _ _ _ h => h) (Or.inl ⟨by rfl, ?_⟩) HS2.out ?_
                rotate_left
                · intro wq hSw
                  obtain ⟨k0, k3⟩ := hSw
                  go_simp
                  first | done | (with_reducible rfl)
                simp only [Act.put, List.setIfInBounds_toArray, List.set_cons_zero, List.set_cons_succ]
                refine wpAnyH_ready (rs := [22]) (by kernel_rfl) (by simp) ?_
                refine AllReadyH.cons rfl (fun K hK => ?_) AllReadyH.nil
                go_simp
                refine hK.out _ _ HS3'.out (fun _ => ?_)
                clear hK K
                try simp only [Act.put, List.setIfInBounds_toArray, List.set_cons_zero, List.set_cons_succ]
                refine wpAnyH_done (by kernel_rfl) ?_ _
                go_wp2_with fail
                go_meet
                exact ⟨rfl, _, _, HS6.out⟩
              · go_simp
                refine hK.out _ _ HS1.out (fun _ => ?_)
                clear hK K
                try simp only [Act.put, List.setIfInBounds_toArray, List.set_cons_zero, List.set_cons_succ]
                refine wpAnyH_ready (rs := [1]) (by kernel_rfl) (by simp) ?_
                refine AllReadyH.cons rfl (fun K hK => ?_) AllReadyH.nil
                go_simp
                refine hK.out _ _ HS1.out (fun _ => ?_)
                clear hK K
                try simp only [Act.put, List.setIfInBounds_toArray, List.set_cons_zero, List.set_cons_succ]
                refine wpAnyH_ready (rs := [20]) (by kernel_rfl) (by simp) ?_
                refine AllReadyH.cons rfl (fun K hK => ?_) AllReadyH.nil
                refine step_append_runL rfl (.tmp 110) (.tmp 128) 24 24 rfl (.slice (some ⟨gl, ol, none⟩) l.length c) (.slice (some ⟨X4.heap.size, 0, none⟩) 1 1) (by simp [Act.eval]) (by simp [Act.eval]) HRun.out ?_
                refine hK.out _ _ HS2.out (fun _ => ?_)
                clear hK K
                try simp only [Act.put, List.setIfInBounds_toArray, List.set_cons_zero, List.set_cons_succ]
                refine take_dst (i := 21) (v := ?_) 130 rfl rfl (by kernel_rfl) (by kernel_rfl) (by kernel_rfl) (fun _ _ _ h => h) (Or.inl ⟨by rfl, ?_⟩) HS2.out ?_
                rotate_left
                · intro wq hSw
                  obtain ⟨k0, k3⟩ := hSw
                  go_simp
                  first | done | (with_reducible rfl)
                simp only [Act.put, List.setIfInBounds_toArray, List.set_cons_zero, List.set_cons_succ]
                refine wpAnyH_ready (rs := [22]) (by kernel_rfl) (by simp) ?_
                refine AllReadyH.cons rfl (fun K hK => ?_) AllReadyH.nil
                go_simp
                refine hK.out _ _ HS3'.out (fun _ => ?_)
                clear hK K
                try simp only [Act.put, List.setIfInBounds_toArray, List.set_cons_zero, List.set_cons_succ]
                refine wpAnyH_done (by kernel_rfl) ?_ _
                go_wp2_with fail
                go_meet
                exact ⟨rfl, _, _, HS6.out⟩
            case rest =>
              obtain ⟨-, A7, c7, hS7⟩ := hcut
              have HS7 := hide hS7
              clear hS7
              clear p0 f0 z0 r0 p1 f1 z1 r1 p2 f2 z2 r2 p3 f3 z3 r3 p4 f4 z4 r4 p5 f5 z5 r5 p6 f6 z6 r6 p7 f7 z7 r7 lF lR x0 x1 hgm
              go_wp2_with fail
              refine ⟨?rel, ?measure⟩
              case rel => exact ⟨j + 1, ql, qh, T2, A7, c7, l ++ [(ql, qh)], by omega, by go_num, rfl, hT2s, HQl.out, hide (by rw [List.length_append, hlen.out]; rfl), hide (by rw [List.getElem?_append_right (by rw [hlen.out]; omega), hlen.out]; simp), HNext, HS7⟩
              case measure => simp [intOf]; omega
        · obtain rfl : j = n2 := by omega
          have HEnd : Hid (hacked k x.data.toList = ackG k n1 l ([], T.data.toList)) := hide (by rw [hres.out, Nat.sub_self]; rfl)
          clear hres h
          have hk := HK.out
          rcases hk with rfl | rfl
          · have HV : Hid (HdV (hacked 2 x.data.toList) ⟨2, n1, 0, 0, false, ⟨#[]⟩, ⟨#[]⟩, l⟩ true) := hide (HdV.yes (by rw [HEnd.out]; simp [ackG]))
            go_wp2_with fail
            have HE := hide (HdP.fin2 (X := wr) (f := ⟨2, n1, 0, 0, false, ⟨#[]⟩, ⟨#[]⟩, l⟩) (A := A) (c := c) HV.out (hS.out).own HLl.out (hS.out).mod (hS.out).rb HRBw.out)
            refine bodyPost_ret (results_cell_tmp_row rfl _ _ RB 26 (fcs A (⟨2, n1, 0, 0, false, ⟨#[]⟩, ⟨#[]⟩, l⟩ : Fr).list.length c ⟨2, n1, 0, 0, false, ⟨#[]⟩, ⟨#[]⟩, l⟩) _ rfl ?_ Tryd.underlying26 rfl (by kernel_rfl)) rfl ?_
            · exact HE.out.1
            exact HE.out.2
          · go_wp2_with fail
            refine (HT.out _ T 3 (by omega)).mono ?_
            rintro e0 w3 ⟨m3, hp⟩
            have HS3 := hide (hS.out.new m3)
            clear p0 f0 z0 r0 p1 f1 z1 r1 p2 f2 z2 r2 p3 f3 z3 r3 p4 f4 z4 r4 p5 f5 z5 r5 p6 f6 z6 r6 p7 f7 z7 r7 lF lR y2 hgl
            have p0 : w3.cell? ⟨F, 0, none⟩ = some (.int .u64 3) := HS3.out.fr.cell 0
            have f0 : w3.frozen? ⟨F, 0, none⟩ = false := HS3.out.fr.frozen 0
            have p1 : w3.cell? ⟨F, 1, none⟩ = some (.int .u64 (n1 : Nat)) := HS3.out.fr.cell 1
            have f1 : w3.frozen? ⟨F, 1, none⟩ = false := HS3.out.fr.frozen 1
            have p2 : w3.cell? ⟨F, 2, none⟩ = some (.int .u64 0) := HS3.out.fr.cell 2
            have f2 : w3.frozen? ⟨F, 2, none⟩ = false := HS3.out.fr.frozen 2
            have p3 : w3.cell? ⟨F, 3, none⟩ = some (.int .u64 0) := HS3.out.fr.cell 3
            have f3 : w3.frozen? ⟨F, 3, none⟩ = false := HS3.out.fr.frozen 3
            have p4 : w3.cell? ⟨F, 4, none⟩ = some (.bool false) := HS3.out.fr.cell 4
            have f4 : w3.frozen? ⟨F, 4, none⟩ = false := HS3.out.fr.frozen 4
            have p5 : w3.cell? ⟨F, 5, none⟩ = some (.string ⟨#[]⟩) := HS3.out.fr.cell 5
            have f5 : w3.frozen? ⟨F, 5, none⟩ = false := HS3.out.fr.frozen 5
            have p6 : w3.cell? ⟨F, 6, none⟩ = some (.string ⟨#[]⟩) := HS3.out.fr.cell 6
            have f6 : w3.frozen? ⟨F, 6, none⟩ = false := HS3.out.fr.frozen 6
            have p7 : w3.cell? ⟨F, 7, none⟩ = some (.slice A l.length c) := HS3.out.fr.cell 7
            have f7 : w3.frozen? ⟨F, 7, none⟩ = false := HS3.out.fr.frozen 7
            have z0 : w3.cell? ⟨RB, 0, none⟩ = some (.int .u64 0) := HS3.out.rb.cell 0
            have r0 : w3.frozen? ⟨RB, 0, none⟩ = false := HS3.out.rb.frozen 0
            have z1 : w3.cell? ⟨RB, 1, none⟩ = some (.int .u64 0) := HS3.out.rb.cell 1
            have r1 : w3.frozen? ⟨RB, 1, none⟩ = false := HS3.out.rb.frozen 1
            have z2 : w3.cell? ⟨RB, 2, none⟩ = some (.int .u64 0) := HS3.out.rb.cell 2
            have r2 : w3.frozen? ⟨RB, 2, none⟩ = false := HS3.out.rb.frozen 2
            have z3 : w3.cell? ⟨RB, 3, none⟩ = some (.int .u64 0) := HS3.out.rb.cell 3
            have r3 : w3.frozen? ⟨RB, 3, none⟩ = false := HS3.out.rb.frozen 3
            have z4 : w3.cell? ⟨RB, 4, none⟩ = some (.bool false) := HS3.out.rb.cell 4
            have r4 : w3.frozen? ⟨RB, 4, none⟩ = false := HS3.out.rb.frozen 4
            have z5 : w3.cell? ⟨RB, 5, none⟩ = some (.string ⟨#[]⟩) := HS3.out.rb.cell 5
            have r5 : w3.frozen? ⟨RB, 5, none⟩ = false := HS3.out.rb.frozen 5
            have z6 : w3.cell? ⟨RB, 6, none⟩ = some (.string ⟨#[]⟩) := HS3.out.rb.cell 6
            have r6 : w3.frozen? ⟨RB, 6, none⟩ = false := HS3.out.rb.frozen 6
            have z7 : w3.cell? ⟨RB, 7, none⟩ = some (.slice none 0 0) := HS3.out.rb.cell 7
            have r7 : w3.frozen? ⟨RB, 7, none⟩ = false := HS3.out.rb.frozen 7
            have lF := HS3.out.fr.lt
            have lR := HS3.out.rb.lt
            cases hv3 : vnums 3 T.data.toList with
            | none =>
              rw [hv3] at hp
              simp only at hp
              subst hp
              have HV : Hid (HdV (hacked 3 x.data.toList) ⟨3, n1, 0, 0, false, ⟨#[]⟩, ⟨#[]⟩, l⟩ false) := hide (HdV.no (by rw [HEnd.out]; simp [ackG, hv3]))
              clear hv3 m3
              go_wp2_with fail
              have HE := hide (HdP.fin2 (X := w3) (f := ⟨3, n1, 0, 0, false, ⟨#[]⟩, ⟨#[]⟩, l⟩) (A := A) (c := c) HV.out (HS3.out).own HLl.out (HS3.out).mod (HS3.out).rb HRBw.out)
              refine bodyPost_ret (results_cell_tmp_row rfl _ _ RB 26 (fcs A (⟨3, n1, 0, 0, false, ⟨#[]⟩, ⟨#[]⟩, l⟩ : Fr).list.length c ⟨3, n1, 0, 0, false, ⟨#[]⟩, ⟨#[]⟩, l⟩) _ rfl ?_ Tryd.underlying26 rfl (by kernel_rfl)) rfl ?_
              · exact HE.out.1
              exact HE.out.2
            | some xx =>
              rw [hv3] at hp
              obtain ⟨ns, r⟩ := xx
              obtain ⟨Am, cm, rfl, hn⟩ := hp
              obtain ⟨hl3, hns, hrl⟩ := vnums_len 3 _ _ hv3
              simp only at hl3 hns hrl hn
              obtain ⟨b0, b1, b2, rfl⟩ := len3 hl3
              have hb2 := hns b2 (by simp)
              obtain ⟨gm, rfl, hgm, -, x0⟩ := hn.at_ (i := 0) (x := b0) rfl
              obtain ⟨_, hA, _, _, x1⟩ := hn.at_ (i := 1) (x := b1) rfl
              cases hA
              obtain ⟨_, hA, _, _, x2⟩ := hn.at_ (i := 2) (x := b2) rfl
              cases hA
              obtain ⟨T2, hT2, hT2z, hT2l⟩ := putB2 r
              rw [hT2]
              obtain ⟨M8, hM8, -, hM8l⟩ := putB2 (be b2 8)
              have HBy := hide (fun w => rbytes8_any w b2 (by omega))
              rw [hM8] at HBy
              have HV : Hid (HdV (hacked 3 x.data.toList) ⟨3, n1, b0, b1, false, ⟨#[]⟩, M8, l⟩ true) := hide (HdV.yes (by
                rw [HEnd.out]
                unfold ackG
                rw [if_pos rfl, hv3]
                simp only [Option.map_some, List.getD_cons_zero, List.getD_cons_succ, List.append_nil]
                rw [← hM8l, eta_bytes]))
              have HS4 := hide ((HS3.out.set (g := ⟨3, n1, b0, 0, false, ⟨#[]⟩, ⟨#[]⟩, l⟩) HFw.out HFR.out 2 (.int .u64 (b0 : Nat)) rfl rfl).set (g := ⟨3, n1, b0, b1, false, ⟨#[]⟩, ⟨#[]⟩, l⟩) HFw.out HFR.out 3 (.int .u64 (b1 : Nat)) rfl rfl)
              have hwv : gm ≠ F := fun e => hn.ne HS3.out.fr (by decide) gm rfl e
              clear hv3 hl3 hns hrl hT2 hT2z hT2l hM8 hM8l m3 hn
              go_wp2_with fail
              obtain ⟨X4, hX4⟩ : ∃ X4, (w3.setCell ⟨F, 2, none⟩ (.int .u64 (b0 : Nat))).setCell ⟨F, 3, none⟩ (.int .u64 (b1 : Nat)) = X4 := ⟨_, rfl⟩
              rw [hX4] at HS4
              rw [hX4]
              refine (HBy.out _).mono ?_
              rintro e0 w5 ⟨rfl, m5⟩
              have HS5 := hide (HS4.out.new m5)
              have HS6 := hide (HS5.out.set (g := ⟨3, n1, b0, b1, false, ⟨#[]⟩, M8, l⟩) HFw.out HFR.out 6 (.string M8) rfl rfl)
              clear p0 f0 z0 r0 p1 f1 z1 r1 p2 f2 z2 r2 p3 f3 z3 r3 p4 f4 z4 r4 p5 f5 z5 r5 p6 f6 z6 r6 p7 f7 z7 r7 lF lR x0 x1 x2 hgm m5 hX4
              have p0 : w5.cell? ⟨F, 0, none⟩ = some (.int .u64 3) := HS5.out.fr.cell 0
              have f0 : w5.frozen? ⟨F, 0, none⟩ = false := HS5.out.fr.frozen 0
              have p1 : w5.cell? ⟨F, 1, none⟩ = some (.int .u64 (n1 : Nat)) := HS5.out.fr.cell 1
              have f1 : w5.frozen? ⟨F, 1, none⟩ = false := HS5.out.fr.frozen 1
              have p2 : w5.cell? ⟨F, 2, none⟩ = some (.int .u64 (b0 : Nat)) := HS5.out.fr.cell 2
              have f2 : w5.frozen? ⟨F, 2, none⟩ = false := HS5.out.fr.frozen 2
              have p3 : w5.cell? ⟨F, 3, none⟩ = some (.int .u64 (b1 : Nat)) := HS5.out.fr.cell 3
              have f3 : w5.frozen? ⟨F, 3, none⟩ = false := HS5.out.fr.frozen 3
              have p4 : w5.cell? ⟨F, 4, none⟩ = some (.bool false) := HS5.out.fr.cell 4
              have f4 : w5.frozen? ⟨F, 4, none⟩ = false := HS5.out.fr.frozen 4
              have p5 : w5.cell? ⟨F, 5, none⟩ = some (.string ⟨#[]⟩) := HS5.out.fr.cell 5
              have f5 : w5.frozen? ⟨F, 5, none⟩ = false := HS5.out.fr.frozen 5
              have p6 : w5.cell? ⟨F, 6, none⟩ = some (.string ⟨#[]⟩) := HS5.out.fr.cell 6
              have f6 : w5.frozen? ⟨F, 6, none⟩ = false := HS5.out.fr.frozen 6
              have p7 : w5.cell? ⟨F, 7, none⟩ = some (.slice A l.length c) := HS5.out.fr.cell 7
              have f7 : w5.frozen? ⟨F, 7, none⟩ = false := HS5.out.fr.frozen 7
              have z0 : w5.cell? ⟨RB, 0, none⟩ = some (.int .u64 0) := HS5.out.rb.cell 0
              have r0 : w5.frozen? ⟨RB, 0, none⟩ = false := HS5.out.rb.frozen 0
              have z1 : w5.cell? ⟨RB, 1, none⟩ = some (.int .u64 0) := HS5.out.rb.cell 1
              have r1 : w5.frozen? ⟨RB, 1, none⟩ = false := HS5.out.rb.frozen 1
              have z2 : w5.cell? ⟨RB, 2, none⟩ = some (.int .u64 0) := HS5.out.rb.cell 2
              have r2 : w5.frozen? ⟨RB, 2, none⟩ = false := HS5.out.rb.frozen 2
              have z3 : w5.cell? ⟨RB, 3, none⟩ = some (.int .u64 0) := HS5.out.rb.cell 3
              have r3 : w5.frozen? ⟨RB, 3, none⟩ = false := HS5.out.rb.frozen 3
              have z4 : w5.cell? ⟨RB, 4, none⟩ = some (.bool false) := HS5.out.rb.cell 4
              have r4 : w5.frozen? ⟨RB, 4, none⟩ = false := HS5.out.rb.frozen 4
              have z5 : w5.cell? ⟨RB, 5, none⟩ = some (.string ⟨#[]⟩) := HS5.out.rb.cell 5
              have r5 : w5.frozen? ⟨RB, 5, none⟩ = false := HS5.out.rb.frozen 5
              have z6 : w5.cell? ⟨RB, 6, none⟩ = some (.string ⟨#[]⟩) := HS5.out.rb.cell 6
              have r6 : w5.frozen? ⟨RB, 6, none⟩ = false := HS5.out.rb.frozen 6
              have z7 : w5.cell? ⟨RB, 7, none⟩ = some (.slice none 0 0) := HS5.out.rb.cell 7
              have r7 : w5.frozen? ⟨RB, 7, none⟩ = false := HS5.out.rb.frozen 7
              have lF := HS5.out.fr.lt
              have lR := HS5.out.rb.lt
              go_wp2_with fail
              have HE := hide (HdP.fin2 (X := (w5.setCell ⟨F, 6, none⟩ (.string M8))) (f := ⟨3, n1, b0, b1, false, ⟨#[]⟩, M8, l⟩) (A := A) (c := c) HV.out (HS6.out).own HLl.out (HS6.out).mod (HS6.out).rb HRBw.out)
              refine bodyPost_ret (results_cell_tmp_row rfl _ _ RB 26 (fcs A (⟨3, n1, b0, b1, false, ⟨#[]⟩, M8, l⟩ : Fr).list.length c ⟨3, n1, b0, b1, false, ⟨#[]⟩, M8, l⟩) _ rfl ?_ Tryd.underlying26 rfl (by kernel_rfl)) rfl ?_
              · exact HE.out.1
              exact HE.out.2
end Go.Proofs.YtbjmcnmcodbkdaaDoor
