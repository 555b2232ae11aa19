/-
  The statement FrameCut: its walk, and the walk brought to the given statement; no condition.
-/
import Derived.Test.YtbjmcnmcodbkdaaDoorG8
import Derived.Test.YtbjmcnmcodbkdaaDoorRows
import Derived.Test.YtbjmcnmcodbkdaaDoorCards
import Derived.Test.YtbjmcnmcodbkdaaDoorTie
import Derived.Lay
import Derived.LaidOnce
import Derived.SevenTiedAt
import Derived.WalkKit
import Derived.ProofKit
import Derived.OpenShut
import Derived.ShutString
import Derived.ChangeOld
import Derived.Below

/-
  FrameCut: the walk.
-/
namespace Go.Proofs.YtbjmcnmcodbkdaaDoor
open Go.RowKit

set_option maxRecDepth 100000 in
set_option maxHeartbeats 8000000 in
theorem walkFrameCut (f : Fr) (A : Option Addr) (c : Nat) (at_ : Nat) (hat : at_ ≤ 65535) (W : World) (hr : f.list.length ≤ 4611686018427387904 → Rngs W A f.list.length f.list) :
    Calls Tryd.prog 8 #[fval A f.list.length c f, .int .u16 at_] W fun e w' => e = .returned (.bool true) ∧ Below W.heap.size W w' := by
  have hb0 : Blk (W.alloc (.cells (fcs A f.list.length c f) 26)) W.heap.size 26 (fcs A f.list.length c f) := Blk.new _ _ _
  have hm0 : Mod [] W (W.alloc (.cells (fcs A f.list.length c f) 26)) := (Mod.refl _ _).alloc _
  have HB0 := hide hb0
  have HM0 := hide hm0
  have HR := hide hr
  have HL := hide (fun w => large_any w A c f)
  clear hb0 hm0 hr
  unfold fval fcs at *
  go_enter Tryd.func8, Tryd.ntmps8
  go_wp2_with fail
  refine (awake_any _).mono ?_
  rintro e w1 ⟨rfl, m1⟩
  have hb1 := m1.blk HB0.out (by simp)
  have hm1 := HM0.out.trans m1 (by simp)
  have HB1 := hide hb1
  have HM1 := hide hm1
  clear m1 hb1 hm1 HB0 HM0
  have c0 : w1.cell? ⟨W.heap.size, 0, none⟩ = some (.int .u64 (f.kind : Nat)) := HB1.out.cell 0
  have c1 : w1.cell? ⟨W.heap.size, 1, none⟩ = some (.int .u64 (f.a : Nat)) := HB1.out.cell 1
  have c2 : w1.cell? ⟨W.heap.size, 2, none⟩ = some (.int .u64 (f.b : Nat)) := HB1.out.cell 2
  have c3 : w1.cell? ⟨W.heap.size, 3, none⟩ = some (.int .u64 (f.c : Nat)) := HB1.out.cell 3
  have c4 : w1.cell? ⟨W.heap.size, 4, none⟩ = some (.bool f.fin) := HB1.out.cell 4
  have c5 : w1.cell? ⟨W.heap.size, 5, none⟩ = some (.string f.data) := HB1.out.cell 5
  have c6 : w1.cell? ⟨W.heap.size, 6, none⟩ = some (.string f.more) := HB1.out.cell 6
  have c7 : w1.cell? ⟨W.heap.size, 7, none⟩ = some (.slice A f.list.length c) := HB1.out.cell 7
  have cl := HB1.out.lt
  cases hlg : flarge f with
  | true =>
    have HLg := hide hlg
    clear hlg
    go_wp2_with fail
    refine (HL.out w1 true HLg.out).mono ?_
    rintro e w2 ⟨rfl, m2⟩
    have HM := HM1.out.trans m2 (by simp)
    clear m2
    go_wp2_with fail
    go_ret
    exact ⟨rfl, HM.below (Nat.le_refl _) (by simp)⟩
  | false =>
    have HLg := hide hlg
    have hl200 := (flarge_no hlg).2.2
    have HRg := hide (fun w (m : Mod [] W w) => (HR.out (by omega)).new m)
    clear hlg
    by_cases hk : f.kind = 0
    · have hkb : ((f.kind : Int) == 0) = true := by simp; omega
      clear hk
      go_wp2_with fail
      refine (HL.out w1 false HLg.out).mono ?_
      rintro e w2 ⟨rfl, m2⟩
      have HM := HM1.out.trans m2 (by simp)
      have hb2 := m2.blk HB1.out (by simp)
      clear m2 c0 c1 c2 c3 c4 c5 c6 c7 cl
      have c0 : w2.cell? ⟨W.heap.size, 0, none⟩ = some (.int .u64 (f.kind : Nat)) := hb2.cell 0
      have c1 : w2.cell? ⟨W.heap.size, 1, none⟩ = some (.int .u64 (f.a : Nat)) := hb2.cell 1
      have c2 : w2.cell? ⟨W.heap.size, 2, none⟩ = some (.int .u64 (f.b : Nat)) := hb2.cell 2
      have c3 : w2.cell? ⟨W.heap.size, 3, none⟩ = some (.int .u64 (f.c : Nat)) := hb2.cell 3
      have c4 : w2.cell? ⟨W.heap.size, 4, none⟩ = some (.bool f.fin) := hb2.cell 4
      have c5 : w2.cell? ⟨W.heap.size, 5, none⟩ = some (.string f.data) := hb2.cell 5
      have c6 : w2.cell? ⟨W.heap.size, 6, none⟩ = some (.string f.more) := hb2.cell 6
      have c7 : w2.cell? ⟨W.heap.size, 7, none⟩ = some (.slice A f.list.length c) := hb2.cell 7
      have cl := hb2.lt
      go_wp2_with fail
      go_ret
      exact ⟨rfl, HM.below (Nat.le_refl _) (by simp)⟩
    · have hkb : ((f.kind : Int) == 0) = false := by simp; omega
      have HK := hide hk
      clear hk
      go_wp2_with fail
      refine (HL.out w1 false HLg.out).mono ?_
      rintro e w2 ⟨rfl, m2⟩
      have HM2 := hide (HM1.out.trans m2 (by simp))
      have hb2 := m2.blk HB1.out (by simp)
      have HB2 := hide hb2
      clear m2 hb2 HB1 HM1 c0 c1 c2 c3 c4 c5 c6 c7 cl
      have c0 : w2.cell? ⟨W.heap.size, 0, none⟩ = some (.int .u64 (f.kind : Nat)) := HB2.out.cell 0
      have c1 : w2.cell? ⟨W.heap.size, 1, none⟩ = some (.int .u64 (f.a : Nat)) := HB2.out.cell 1
      have c2 : w2.cell? ⟨W.heap.size, 2, none⟩ = some (.int .u64 (f.b : Nat)) := HB2.out.cell 2
      have c3 : w2.cell? ⟨W.heap.size, 3, none⟩ = some (.int .u64 (f.c : Nat)) := HB2.out.cell 3
      have c4 : w2.cell? ⟨W.heap.size, 4, none⟩ = some (.bool f.fin) := HB2.out.cell 4
      have c5 : w2.cell? ⟨W.heap.size, 5, none⟩ = some (.string f.data) := HB2.out.cell 5
      have c6 : w2.cell? ⟨W.heap.size, 6, none⟩ = some (.string f.more) := HB2.out.cell 6
      have c7 : w2.cell? ⟨W.heap.size, 7, none⟩ = some (.slice A f.list.length c) := HB2.out.cell 7
      have cl := HB2.out.lt
      have HW := hide (fwrite_any w2 A f.list.length c f (HRg.out w2 HM2.out))
      cases hmay : fmay f with
      | false =>
        obtain ⟨he1, he2⟩ := fw_of f false hmay
        simp only [Bool.false_eq_true, if_false] at he1 he2
        rw [he1, he2] at HW
        unfold fval fcs at HW
        clear hmay he1 he2
        go_wp2_with fail
        refine HW.out.mono ?_
        rintro e w3 ⟨rfl, m3⟩
        have HM := HM2.out.trans m3 (by simp)
        clear m3
        go_wp2_with fail
        go_ret
        exact ⟨rfl, HM.below (Nat.le_refl _) (by simp)⟩
      | true =>
        obtain ⟨he1, he2⟩ := fw_of f true hmay
        simp only [if_true] at he1 he2
        obtain ⟨S, hS⟩ : ∃ S : ByteArray, (⟨(fbytes f).toArray⟩ : ByteArray) = S := ⟨_, rfl⟩
        have hSl : S.data.toList = fbytes f := by rw [← hS]
        have hSz : S.size ≤ 20000 := by
          have := fbytes_le hmay
          rw [← bytes_len, hSl]; omega
        have hS0 : 0 < S.size := by
          rw [← bytes_len, hSl]; exact List.length_pos_iff.2 (fbytes_ne hmay)
        rw [hS] at he2
        rw [he1, he2] at HW
        obtain ⟨k, hk⟩ : ∃ k, at_ % S.size = k := ⟨_, rfl⟩
        have hkl : k < S.size := by rw [← hk]; exact Nat.mod_lt _ hS0
        have hX : (S.extract 0 k).data.toList = (fbytes f).take k := by rw [Lib.extract_data, hSl]; simp
        have hXs : (S.extract 0 k).size ≤ 1000000 := by rw [← bytes_len, hX, List.length_take]; omega
        have hcut := frd_cut hmay HK.out (k := k) (by rw [← hSl, bytes_len]; exact hkl)
        have HRd := hide (fun w => read_any w (S.extract 0 k) hXs)
        rw [hX, hcut] at HRd
        have hkm : (at_ : Int) % (S.size : Int) = (k : Nat) := by rw [← hk]; exact (Int.natCast_emod _ _).symm
        have hkli : (k : Int) < S.size := by omega
        have hS0i : ¬ (S.size : Int) = 0 := by omega
        have hS0b : ((S.size : Int) == 0) = false := by rw [beq_eq_false_iff_ne]; omega
        unfold fval fcs at HW
        clear hmay he1 he2 hS hSl hk hX hXs hcut
        go_wp2_with fail
        refine HW.out.mono ?_
        rintro e w3 ⟨rfl, m3⟩
        have HM3 := hide (HM2.out.trans m3 (by simp))
        clear m3
        go_wp2_with fail
        refine (HRd.out w3).mono ?_
        rintro e w4 ⟨A4, c4, rfl, _, _, m4⟩
        have HM4 := hide ((HM3.out.trans m4 (by simp)).alloc (.cells (fcs A4 0 c4 fr0) 26))
        have HSm := hide (fun w => same_any w A4 none 0 0 c4 0 fr0 fr0 ⟨rfl, Nat.zero_le _, .inl rfl⟩ (Rngs.nil w) true (by decide +kernel))
        clear m4
        unfold fval fcs str at *
        by_cases hk0 : k = 0
        · have hk0b : ((k : Int) == 0) = true := by simp; omega
          rw [if_pos hk0]
          clear hk0
          go_wp2_with fail
          refine (HSm.out _).mono ?_
          rintro e w5 ⟨rfl, m5⟩
          have HM := HM4.out.trans m5 (by simp)
          clear m5
          go_wp2_with fail
          go_ret
          exact ⟨rfl, HM.below (Nat.le_refl _) (by simp)⟩
        · have hk0b : ((k : Int) == 0) = false := by simp; omega
          rw [if_neg hk0]
          clear hk0
          go_wp2_with fail
          refine (HSm.out _).mono ?_
          rintro e w5 ⟨rfl, m5⟩
          have HM := HM4.out.trans m5 (by simp)
          clear m5
          go_wp2_with fail
          go_ret
          exact ⟨rfl, HM.below (Nat.le_refl _) (by simp)⟩
end Go.Proofs.YtbjmcnmcodbkdaaDoor

/-
  The row of 'FrameCut': the walk's contract brought to the given statement.
-/
namespace Go.Proofs.YtbjmcnmcodbkdaaDoor.lawFrameCut
open Go.ChangeShapes Go.WideShapes Go.ChangeAt Go.RowKit
open Go.ChangeMaps (open_string shut_string)
set_option linter.unusedVariables false

theorem own : ownKnob Tryd.prog.godebug = none := by kernel_rfl
theorem laidOut : laidOutB Tryd.prog = true := by kernel_rfl

set_option maxRecDepth 100000 in
theorem lifted (os : Os) (started : os.Started) (H : Type) (enc : TypeId × Value → H) :
    ReturnsInHanded {} Tryd.checked os 8 .any (fun w args => (Rows.frameCutSpec.pre enc Tryd.prog Tryd.f8 Rows.frameCutRow.domain false w args ∧ laidMetH Tryd.prog Rows.frameCutRow.laid w) ∧ sizedMet enc Tryd.prog Tryd.f8 (OpenSpec.ofChange Rows.frameCutSpec) false w args)
      (Rows.frameCutSpec.post enc Tryd.prog Tryd.f8 false true false false) := by
  refine returnsInHanded_of_change_and (C := Tryd.checked) (X := fun w _ => laidMetH Tryd.prog Rows.frameCutRow.laid w) (fun _ _ _ hh h => h.of_heap hh) own started (by kernel_rfl) Tryd.func8
    (ChangeSpec.witness_shaped (enc := enc) (C := Tryd.checked) (os := os) (X := fun w _ => laidMetH Tryd.prog Rows.frameCutRow.laid w) false (World.laidAll Tryd.prog os Rows.frameCutRow.laid) #[.agg #[.int .u64 0, .int .u64 0, .int .u64 0, .int .u64 0, .bool false, .string ⟨#[]⟩, .string ⟨#[]⟩, .slice none 0 0], .int .u16 0] 8 (World.laidAll_os _ _ _)
      (World.shaped_of_ZipB (by kernel_rfl) (by kernel_rfl)) (by kernel_rfl) (by kernel_rfl) (by kernel_rfl)
      (by rw [MakeChecks.laidMetH_plain _ _ _ (by kernel_rfl)]; exact laidMet_laidAll _ (by kernel_rfl) (by kernel_rfl))) ?_
  intro W base args ds gs before hval0 hW hcnd _ _ _
  have hval : ∀ (j : Nat) t v, Tryd.f8.params[j]? = some t → args[j]? = some v → Value.okWide Tryd.prog W .any base t v := hval0
  have hW' := hW
  obtain ⟨p, q, hA0, hV, rfl, hfz, hnd⟩ := hW
  have hA : DataW.TrodAll enc Tryd.prog W 0 (fun _ => true) true Tryd.f8.params.toList args.toList ds p := hA0
  rw [Tryd.params8] at hA hval
  obtain ⟨v0, vs0, d0, ds0, p0, q0, hargs, rfl, rfl, h0, r0⟩ := trodAll_cons hA
  obtain ⟨v1, vs1, d1, ds1, p1, q1, rfl, rfl, rfl, h1, r1⟩ := trodAll_cons r0
  obtain ⟨rfl, rfl, rfl⟩ := trodAll_nil r1
  obtain rfl : args = #[v0, v1] := by cases args; simp_all
  obtain ⟨rfl, rfl⟩ := trodVars_none hV
  have k0 := h0
  have lt0 : ∀ x ∈ p0, x.block < W.heap.size := by obtain ⟨m, hm⟩ := k0; exact DataW.trod_lt m _ _ _ hm
  obtain ⟨f0, A0, c0, rfl, hr0, _⟩ := open_frame (hval 0 26 v0 rfl rfl) h0
  obtain ⟨z1, rfl, rfl, rfl, w1⟩ := open_int Tryd.underlying44 (hval 1 44 v1 rfl rfl) h1
  have bd1 := bounds_u16 w1
  obtain ⟨n1, rfl⟩ := Int.eq_ofNat_of_zero_le bd1.1
  clear hA0 hval0
  refine (walkFrameCut f0 A0 c0 n1 (by omega) W hr0).mono fun e W' ⟨he, bel⟩ => ?_
  subst he
  exact ⟨_, rfl, _, _, _, [], _, [], hW', trodAll_mk1 (shut_bool Tryd.underlying4 _), (trodAll_cons_mk (Below.trod laidOut (by kernel_rfl) (of_decide_eq_true (by kernel_rfl)) k0 bel lt0) (trodAll_cons_mk (shut_int Tryd.underlying44 w1) trodAll_mk0)), rfl, bel.frame _, fun h => by cases h⟩

theorem over : Rows.frameCutRow.holds Tryd.pinned (OpenSpec.ofChange Rows.frameCutSpec) :=
  OpenClaim.holds_of_wide 8 Tryd.f8 rfl rfl rfl rfl rfl rfl rfl ⟨rfl, rfl, rfl, rfl, rfl⟩ rfl rfl rfl rfl rfl (by kernel_rfl) Tryd.func8 (by kernel_rfl)
    (of_decide_eq_true (by kernel_rfl)) (by unfold Func.isWrapper; first | (rw [if_pos (by decide +kernel)]; kernel_rfl) | (rw [if_neg (by decide +kernel)]; exact ⟨rfl, rfl⟩))
    (fun os started H enc _ => lifted os started H enc)

/-- The statement: the card. -/
theorem proved : Rows.FrameCutCardSaid :=
  Claim7.holds_tied_plain_at .later [] [.data, .pinned] true (true, "dd957caea826dfd9588818920ea08f281d87fb61899cd75292fd604fb4911ede") false over (fun _ h => by cases h) (by kernel_rfl) (fun _ h => by cases h) frameCut_row_tie rfl ⟨rfl, rfl⟩ (by kernel_rfl) rfl
    (fun f fn hf hfn => by
      obtain rfl : f = 8 := Option.some.inj ((show Tryd.prog.funcNamed "kymograph/kymographlaw03.FrameCut" = some 8 by kernel_rfl).symm.trans hf) |>.symm
      obtain rfl : fn = Tryd.f8 := (Option.some.inj (Tryd.func8.symm.trans hfn)).symm
      exact ⟨by kernel_rfl, fun j t ht => by
        rw [Tryd.params8] at ht
        have hm : t ∈ [26, 44] := by simpa using Array.mem_of_getElem? ht
        have hall : ([26, 44].all fun u => !Tryd.prog.wantsStandIn u) = true := by kernel_rfl
        exact (show Tryd.prog.wantsStandIn t = false by simpa using List.all_eq_true.1 hall t hm)⟩)
    (by kernel_rfl)
#print axioms proved
end Go.Proofs.YtbjmcnmcodbkdaaDoor.lawFrameCut
