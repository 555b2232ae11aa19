/-
  The statement FrameBack: its walk, and the walk brought to the given statement; no condition.
-/
import Derived.Test.YtbjmcnmcodbkdaaDoorG8
import Derived.Test.YtbjmcnmcodbkdaaDoorRows
import Derived.Test.YtbjmcnmcodbkdaaDoorCards
import Derived.Test.YtbjmcnmcodbkdaaDoorTie
import Derived.Lay
import Derived.LaidOnce
import Derived.SevenTiedAt
import Derived.WalkKit
import Derived.ProofKit
import Derived.OpenShut
import Derived.ShutString
import Derived.ChangeOld
import Derived.Below

/-
  FrameBack: the walk.
-/
namespace Go.Proofs.YtbjmcnmcodbkdaaDoor
open Go.RowKit

theorem one_app (x : ByteArray) : str (1 :: x.data.toList) = .string (⟨#[1]⟩ ++ x) := by
  unfold str
  exact congrArg Value.string (bytes_eq (by simp))
set_option maxRecDepth 100000 in
set_option maxHeartbeats 1500000 in
theorem walkFrameBack (f : Fr) (A : Option Addr) (c : Nat) (x : ByteArray) (_hx : x.size ≤ maxLen) (W : World) (hr : f.list.length ≤ 4611686018427387904 → Rngs W A f.list.length f.list) :
    Calls Tryd.prog 6 #[fval A f.list.length c f, .string x] W fun e w' => e = .returned (.bool true) ∧ Below W.heap.size W w' := by
  have hb0 : Blk (W.alloc (.cells (fcs A f.list.length c f) 26)) W.heap.size 26 (fcs A f.list.length c f) := Blk.new _ _ _
  have hm0 : Mod [] W (W.alloc (.cells (fcs A f.list.length c f) 26)) := (Mod.refl _ _).alloc _
  have HB0 := hide hb0
  have HM0 := hide hm0
  have HR := hide hr
  have HL := hide (fun w => large_any w A c f)
  clear hb0 hm0 hr
  unfold fval fcs at *
  go_enter Tryd.func6, Tryd.ntmps6
  go_wp2_with fail
  refine (awake_any _).mono ?_
  rintro e w1 ⟨rfl, m1⟩
  have hb1 := m1.blk HB0.out (by simp)
  have hm1 := HM0.out.trans m1 (by simp)
  have HB1 := hide hb1
  have HM1 := hide hm1
  clear m1 hb1 hm1 HB0 HM0
  have c0 : w1.cell? ⟨W.heap.size, 0, none⟩ = some (.int .u64 (f.kind : Nat)) := HB1.out.cell 0
  have c1 : w1.cell? ⟨W.heap.size, 1, none⟩ = some (.int .u64 (f.a : Nat)) := HB1.out.cell 1
  have c2 : w1.cell? ⟨W.heap.size, 2, none⟩ = some (.int .u64 (f.b : Nat)) := HB1.out.cell 2
  have c3 : w1.cell? ⟨W.heap.size, 3, none⟩ = some (.int .u64 (f.c : Nat)) := HB1.out.cell 3
  have c4 : w1.cell? ⟨W.heap.size, 4, none⟩ = some (.bool f.fin) := HB1.out.cell 4
  have c5 : w1.cell? ⟨W.heap.size, 5, none⟩ = some (.string f.data) := HB1.out.cell 5
  have c6 : w1.cell? ⟨W.heap.size, 6, none⟩ = some (.string f.more) := HB1.out.cell 6
  have c7 : w1.cell? ⟨W.heap.size, 7, none⟩ = some (.slice A f.list.length c) := HB1.out.cell 7
  have cl := HB1.out.lt
  cases hlg : flarge f with
  | true =>
    have HLg := hide hlg
    clear hlg
    go_wp2_with fail
    refine (HL.out w1 true HLg.out).mono ?_
    rintro e w2 ⟨rfl, m2⟩
    have HM := HM1.out.trans m2 (by simp)
    clear m2
    go_wp2_with fail
    go_ret
    exact ⟨rfl, HM.below (Nat.le_refl _) (by simp)⟩
  | false =>
    have HLg := hide hlg
    have hl200 := (flarge_no hlg).2.2
    have HRg := hide (fun w (m : Mod [] W w) => (HR.out (by omega)).new m)
    clear hlg
    by_cases hbig : 2048 < x.size
    · have hbi : (2048 : Int) < x.size := by omega
      clear hbig
      go_wp2_with fail
      refine (HL.out w1 false HLg.out).mono ?_
      rintro e w2 ⟨rfl, m2⟩
      have HM := HM1.out.trans m2 (by simp)
      clear m2 c0 c1 c2 c3 c4 c5 c6 c7 cl
      go_wp2_with fail
      go_ret
      exact ⟨rfl, HM.below (Nat.le_refl _) (by simp)⟩
    · have hbi : ¬ (2048 : Int) < x.size := by omega
      have HRx := hide (fun w => read_any w x (by omega))
      have HXs := hide hbig
      clear hbig
      go_wp2_with fail
      refine (HL.out w1 false HLg.out).mono ?_
      rintro e w2 ⟨rfl, m2⟩
      have HM2 := hide (HM1.out.trans m2 (by simp))
      have hb2 := m2.blk HB1.out (by simp)
      have HB2 := hide hb2
      clear m2 hb2 HB1 HM1 c0 c1 c2 c3 c4 c5 c6 c7 cl
      have c0 : w2.cell? ⟨W.heap.size, 0, none⟩ = some (.int .u64 (f.kind : Nat)) := HB2.out.cell 0
      have c1 : w2.cell? ⟨W.heap.size, 1, none⟩ = some (.int .u64 (f.a : Nat)) := HB2.out.cell 1
      have c2 : w2.cell? ⟨W.heap.size, 2, none⟩ = some (.int .u64 (f.b : Nat)) := HB2.out.cell 2
      have c3 : w2.cell? ⟨W.heap.size, 3, none⟩ = some (.int .u64 (f.c : Nat)) := HB2.out.cell 3
      have c4 : w2.cell? ⟨W.heap.size, 4, none⟩ = some (.bool f.fin) := HB2.out.cell 4
      have c5 : w2.cell? ⟨W.heap.size, 5, none⟩ = some (.string f.data) := HB2.out.cell 5
      have c6 : w2.cell? ⟨W.heap.size, 6, none⟩ = some (.string f.more) := HB2.out.cell 6
      have c7 : w2.cell? ⟨W.heap.size, 7, none⟩ = some (.slice A f.list.length c) := HB2.out.cell 7
      have cl := HB2.out.lt
      have HW := hide (fwrite_any w2 A f.list.length c f (HRg.out w2 HM2.out))
      cases hmay : fmay f with
      | false =>
        have HMay := hide (fun w (h : Rngs w A f.list.length f.list) => may_any w A f.list.length c f h false hmay)
        obtain ⟨he1, he2⟩ := fw_of f false hmay
        simp only [Bool.false_eq_true, if_false] at he1 he2
        rw [he1, he2] at HW
        unfold fval fcs at HW HMay
        clear hmay he1 he2
        go_wp2_with fail
        refine HW.out.mono ?_
        rintro e w3 ⟨rfl, m3⟩
        have HM3 := hide (HM2.out.trans m3 (by simp))
        have hb3 := m3.blk HB2.out (by simp)
        clear m3 c0 c1 c2 c3 c4 c5 c6 c7 cl
        have c0 : w3.cell? ⟨W.heap.size, 0, none⟩ = some (.int .u64 (f.kind : Nat)) := hb3.cell 0
        have c1 : w3.cell? ⟨W.heap.size, 1, none⟩ = some (.int .u64 (f.a : Nat)) := hb3.cell 1
        have c2 : w3.cell? ⟨W.heap.size, 2, none⟩ = some (.int .u64 (f.b : Nat)) := hb3.cell 2
        have c3 : w3.cell? ⟨W.heap.size, 3, none⟩ = some (.int .u64 (f.c : Nat)) := hb3.cell 3
        have c4 : w3.cell? ⟨W.heap.size, 4, none⟩ = some (.bool f.fin) := hb3.cell 4
        have c5 : w3.cell? ⟨W.heap.size, 5, none⟩ = some (.string f.data) := hb3.cell 5
        have c6 : w3.cell? ⟨W.heap.size, 6, none⟩ = some (.string f.more) := hb3.cell 6
        have c7 : w3.cell? ⟨W.heap.size, 7, none⟩ = some (.slice A f.list.length c) := hb3.cell 7
        have cl := hb3.lt
        clear hb3
        go_wp2_with fail
        refine (HMay.out w3 (HRg.out w3 HM3.out)).mono ?_
        rintro e w6 ⟨rfl, m6⟩
        have HM6 := hide (HM3.out.trans m6 (by simp))
        clear m6 c0 c1 c2 c3 c4 c5 c6 c7 cl
        go_wp2_with fail
        refine (HRx.out w6).mono ?_
        rcases frd_cases x.data.toList with ⟨er, hfe, her, -⟩ | ⟨g, r, hfe, -, hgm, hxe⟩
        · rw [hfe]
          rintro e w7 ⟨A7, c7, rfl, o7, l7, m7⟩
          have HM7 := hide ((HM6.out.trans m7 (by simp)).alloc (.cells (fcs A7 0 c7 fr0) 26))
          have HSm0 := hide (fun w => same_any w A7 none 0 0 c7 0 fr0 fr0 ⟨rfl, Nat.zero_le _, .inl rfl⟩ (Rngs.nil w) true (by decide +kernel))
          have herb : (er != 0) = true := by rcases her with rfl | rfl <;> rfl
          clear o7 l7 m7 hfe her
          unfold fval fcs str at *
          go_wp2_with fail
          refine (HSm0.out _).mono ?_
          rintro e w8 ⟨rfl, m8⟩
          have HM := HM7.out.trans m8 (by simp)
          clear m8
          go_wp2_with fail
          go_ret
          exact ⟨rfl, HM.below (Nat.le_refl _) (by simp)⟩
        · rw [hfe]
          rintro e w7 ⟨A7, c7, rfl, o7, l7, m7⟩
          simp only at o7 l7
          have HM7 := hide ((HM6.out.trans m7 (by simp)).alloc (.cells (fcs A7 g.list.length c7 g) 26))
          have HRg7 := hide ((o7.rngs (by omega)).new ((Mod.refl [] w7).alloc (.cells (fcs A7 g.list.length c7 g) 26)))
          have HWg := hide (fun w (h : Rngs w A7 g.list.length g.list) => fwrite_any w A7 g.list.length c7 g h)
          obtain ⟨hg1, hg2⟩ := fw_of g true hgm
          simp only [if_true] at hg1 hg2
          obtain ⟨G, hG⟩ : ∃ G : ByteArray, (⟨(fbytes g).toArray⟩ : ByteArray) = G := ⟨_, rfl⟩
          obtain ⟨R, hR⟩ : ∃ R : ByteArray, (⟨r.toArray⟩ : ByteArray) = R := ⟨_, rfl⟩
          have hGx : G ++ R = x := bytes_eq (by rw [hxe, ← hG, ← hR]; simp)
          have hGs : G.size + R.size ≤ 2048 := by rw [← ByteArray.size_append, hGx]; have := HXs.out; omega
          have hsr : str r = .string R := by unfold str; rw [hR]
          rw [hG] at hg2
          rw [hg1, hg2] at HWg
          have k1 : ¬ 9223372036854775807 < G.size + R.size := by omega
          have HGx := hide hGx
          simp only [hsr]
          clear o7 l7 m7 hfe hgm hxe hg1 hg2 hG hR hGx hGs hsr
          unfold fval fcs at *
          go_wp2_with fail
          refine (HWg.out _ HRg7.out).mono ?_
          rintro e w8 ⟨rfl, m8⟩
          have HM := HM7.out.trans m8 (by simp)
          clear m8
          go_wp2_with fail
          go_ret
          refine ⟨?_, HM.below (Nat.le_refl _) (by simp)⟩
          first | rfl | (rw [HGx.out]; simp) | (simp [HGx.out])
      | true =>
        have HMay := hide (fun w (h : Rngs w A f.list.length f.list) => may_any w A f.list.length c f h true hmay)
        obtain ⟨he1, he2⟩ := fw_of f true hmay
        simp only [if_true] at he1 he2
        obtain ⟨S, hS⟩ : ∃ S : ByteArray, (⟨(fbytes f).toArray⟩ : ByteArray) = S := ⟨_, rfl⟩
        have hSl : S.data.toList = fbytes f := by rw [← hS]
        have hSz : S.size ≤ 20000 := by
          have := fbytes_le hmay
          rw [← bytes_len, hSl]; omega
        rw [hS] at he2
        rw [he1, he2] at HW
        have hX : (S ++ ⟨#[1]⟩ ++ x).data.toList = fbytes f ++ 1 :: x.data.toList := by rw [← hSl]; simp
        have hone : (⟨#[1]⟩ : ByteArray).size = 1 := rfl
        have hXs : (S ++ ⟨#[1]⟩ ++ x).size ≤ 1000000 := by
          rw [ByteArray.size_append, ByteArray.size_append, hone]; have := HXs.out; omega
        have hback := frd_back hmay x.data.toList
        have HRd := hide (fun w => read_any w (S ++ ⟨#[1]⟩ ++ x) hXs)
        rw [hX, hback] at HRd
        have HSm := hide (fun w A4 c4 (h1 : Rngs w A4 f.list.length f.list) (h2 : Rngs w A f.list.length f.list) => same_any w A4 A f.list.length f.list.length c4 c f f h1 h2 true (fsame_iff.2 rfl))
        have n1 : ¬ 9223372036854775807 < S.size + 1 := by omega
        have n2 : ¬ 9223372036854775807 < S.size + 1 + x.size := by have := HXs.out; omega
        have n3 : ¬ 9223372036854775807 < 1 + x.size := by have := HXs.out; omega
        unfold fval fcs at HW HMay HSm
        clear hmay he1 he2 hS hSl hX hXs hback hone
        go_wp2_with fail
        refine HW.out.mono ?_
        rintro e w3 ⟨rfl, m3⟩
        have HM3 := hide (HM2.out.trans m3 (by simp))
        have HB3 := hide (m3.blk HB2.out (by simp))
        clear m3 c0 c1 c2 c3 c4 c5 c6 c7 cl
        go_wp2_with fail
        refine (HRd.out w3).mono ?_
        rintro e w4 ⟨A4, d4, rfl, o4, l4, m4⟩
        simp only at o4 l4
        have HM4 := hide ((HM3.out.trans m4 (by simp)).alloc (.cells (fcs A4 f.list.length d4 f) 26))
        have hb4 := m4.blk HB3.out (by simp)
        have HB4 := hide (hb4.alloc (.cells (fcs A4 f.list.length d4 f) 26))
        have HR4 := hide ((o4.rngs (by omega)).new ((Mod.refl [] w4).alloc (.cells (fcs A4 f.list.length d4 f) 26)))
        simp only [one_app]
        clear m4 o4 l4
        have c0 : w4.cell? ⟨W.heap.size, 0, none⟩ = some (.int .u64 (f.kind : Nat)) := hb4.cell 0
        have c1 : w4.cell? ⟨W.heap.size, 1, none⟩ = some (.int .u64 (f.a : Nat)) := hb4.cell 1
        have c2 : w4.cell? ⟨W.heap.size, 2, none⟩ = some (.int .u64 (f.b : Nat)) := hb4.cell 2
        have c3 : w4.cell? ⟨W.heap.size, 3, none⟩ = some (.int .u64 (f.c : Nat)) := hb4.cell 3
        have c4 : w4.cell? ⟨W.heap.size, 4, none⟩ = some (.bool f.fin) := hb4.cell 4
        have c5 : w4.cell? ⟨W.heap.size, 5, none⟩ = some (.string f.data) := hb4.cell 5
        have c6 : w4.cell? ⟨W.heap.size, 6, none⟩ = some (.string f.more) := hb4.cell 6
        have c7 : w4.cell? ⟨W.heap.size, 7, none⟩ = some (.slice A f.list.length c) := hb4.cell 7
        have cl := hb4.lt
        clear hb4
        unfold fval
        unfold fcs at *
        go_wp2_with fail
        refine (HSm.out _ A4 d4 HR4.out (HRg.out _ HM4.out)).mono ?_
        rintro e w5 ⟨rfl, m5⟩
        have HM5 := hide (HM4.out.trans m5 (by simp))
        have hb5 := m5.blk HB4.out (by simp)
        clear m5 c0 c1 c2 c3 c4 c5 c6 c7 cl
        obtain ⟨c0, c1, c2, c3, c4', c5, c6, c7⟩ := fcells hb5
        have cl := hb5.lt
        clear hb5
        go_wp2_with fail
        refine (HMay.out w5 (HRg.out w5 HM5.out)).mono ?_
        rintro e w6 ⟨rfl, m6⟩
        have HM6 := hide (HM5.out.trans m6 (by simp))
        clear m6 c0 c1 c2 c3 c4' c5 c6 c7 cl
        go_wp2_with fail
        refine (HRx.out w6).mono ?_
        rcases frd_cases x.data.toList with ⟨er, hfe, her, -⟩ | ⟨g, r, hfe, -, hgm, hxe⟩
        · rw [hfe]
          rintro e w7 ⟨A7, c7, rfl, o7, l7, m7⟩
          have HM7 := hide ((HM6.out.trans m7 (by simp)).alloc (.cells (fcs A7 0 c7 fr0) 26))
          have HSm0 := hide (fun w => same_any w A7 none 0 0 c7 0 fr0 fr0 ⟨rfl, Nat.zero_le _, .inl rfl⟩ (Rngs.nil w) true (by decide +kernel))
          have herb : (er != 0) = true := by rcases her with rfl | rfl <;> rfl
          clear o7 l7 m7 hfe her
          unfold fval fcs str at *
          go_wp2_with fail
          refine (HSm0.out _).mono ?_
          rintro e w8 ⟨rfl, m8⟩
          have HM := HM7.out.trans m8 (by simp)
          clear m8
          go_wp2_with fail
          go_ret
          exact ⟨rfl, HM.below (Nat.le_refl _) (by simp)⟩
        · rw [hfe]
          rintro e w7 ⟨A7, c7, rfl, o7, l7, m7⟩
          simp only at o7 l7
          have HM7 := hide ((HM6.out.trans m7 (by simp)).alloc (.cells (fcs A7 g.list.length c7 g) 26))
          have HRg7 := hide ((o7.rngs (by omega)).new ((Mod.refl [] w7).alloc (.cells (fcs A7 g.list.length c7 g) 26)))
          have HWg := hide (fun w (h : Rngs w A7 g.list.length g.list) => fwrite_any w A7 g.list.length c7 g h)
          obtain ⟨hg1, hg2⟩ := fw_of g true hgm
          simp only [if_true] at hg1 hg2
          obtain ⟨G, hG⟩ : ∃ G : ByteArray, (⟨(fbytes g).toArray⟩ : ByteArray) = G := ⟨_, rfl⟩
          obtain ⟨R, hR⟩ : ∃ R : ByteArray, (⟨r.toArray⟩ : ByteArray) = R := ⟨_, rfl⟩
          have hGx : G ++ R = x := bytes_eq (by rw [hxe, ← hG, ← hR]; simp)
          have hGs : G.size + R.size ≤ 2048 := by rw [← ByteArray.size_append, hGx]; have := HXs.out; omega
          have hsr : str r = .string R := by unfold str; rw [hR]
          rw [hG] at hg2
          rw [hg1, hg2] at HWg
          have k1 : ¬ 9223372036854775807 < G.size + R.size := by omega
          have HGx := hide hGx
          simp only [hsr]
          clear o7 l7 m7 hfe hgm hxe hg1 hg2 hG hR hGx hGs hsr
          unfold fval fcs at *
          go_wp2_with fail
          refine (HWg.out _ HRg7.out).mono ?_
          rintro e w8 ⟨rfl, m8⟩
          have HM := HM7.out.trans m8 (by simp)
          clear m8
          go_wp2_with fail
          go_ret
          refine ⟨?_, HM.below (Nat.le_refl _) (by simp)⟩
          first | rfl | (rw [HGx.out]; simp) | (simp [HGx.out])
end Go.Proofs.YtbjmcnmcodbkdaaDoor

/-
  The row of 'FrameBack': the walk's contract brought to the given statement.
-/
namespace Go.Proofs.YtbjmcnmcodbkdaaDoor.lawFrameBack
open Go.ChangeShapes Go.WideShapes Go.ChangeAt Go.RowKit
open Go.ChangeMaps (open_string shut_string)
set_option linter.unusedVariables false

theorem own : ownKnob Tryd.prog.godebug = none := by kernel_rfl
theorem laidOut : laidOutB Tryd.prog = true := by kernel_rfl

set_option maxRecDepth 100000 in
theorem lifted (os : Os) (started : os.Started) (H : Type) (enc : TypeId × Value → H) :
    ReturnsInHanded {} Tryd.checked os 6 .any (fun w args => (Rows.frameBackSpec.pre enc Tryd.prog Tryd.f6 Rows.frameBackRow.domain false w args ∧ laidMetH Tryd.prog Rows.frameBackRow.laid w) ∧ sizedMet enc Tryd.prog Tryd.f6 (OpenSpec.ofChange Rows.frameBackSpec) false w args)
      (Rows.frameBackSpec.post enc Tryd.prog Tryd.f6 false true false false) := by
  refine returnsInHanded_of_change_and (C := Tryd.checked) (X := fun w _ => laidMetH Tryd.prog Rows.frameBackRow.laid w) (fun _ _ _ hh h => h.of_heap hh) own started (by kernel_rfl) Tryd.func6
    (ChangeSpec.witness_shaped (enc := enc) (C := Tryd.checked) (os := os) (X := fun w _ => laidMetH Tryd.prog Rows.frameBackRow.laid w) false (World.laidAll Tryd.prog os Rows.frameBackRow.laid) #[.agg #[.int .u64 0, .int .u64 0, .int .u64 0, .int .u64 0, .bool false, .string ⟨#[]⟩, .string ⟨#[]⟩, .slice none 0 0], .string ⟨#[]⟩] 8 (World.laidAll_os _ _ _)
      (World.shaped_of_ZipB (by kernel_rfl) (by kernel_rfl)) (by kernel_rfl) (by kernel_rfl) (by kernel_rfl)
      (by rw [MakeChecks.laidMetH_plain _ _ _ (by kernel_rfl)]; exact laidMet_laidAll _ (by kernel_rfl) (by kernel_rfl))) ?_
  intro W base args ds gs before hval0 hW hcnd _ _ _
  have hval : ∀ (j : Nat) t v, Tryd.f6.params[j]? = some t → args[j]? = some v → Value.okWide Tryd.prog W .any base t v := hval0
  have hW' := hW
  obtain ⟨p, q, hA0, hV, rfl, hfz, hnd⟩ := hW
  have hA : DataW.TrodAll enc Tryd.prog W 0 (fun _ => true) true Tryd.f6.params.toList args.toList ds p := hA0
  rw [Tryd.params6] at hA hval
  obtain ⟨v0, vs0, d0, ds0, p0, q0, hargs, rfl, rfl, h0, r0⟩ := trodAll_cons hA
  obtain ⟨v1, vs1, d1, ds1, p1, q1, rfl, rfl, rfl, h1, r1⟩ := trodAll_cons r0
  obtain ⟨rfl, rfl, rfl⟩ := trodAll_nil r1
  obtain rfl : args = #[v0, v1] := by cases args; simp_all
  obtain ⟨rfl, rfl⟩ := trodVars_none hV
  have k0 := h0
  have lt0 : ∀ x ∈ p0, x.block < W.heap.size := by obtain ⟨m, hm⟩ := k0; exact DataW.trod_lt m _ _ _ hm
  obtain ⟨f0, A0, c0, rfl, hr0, _⟩ := open_frame (hval 0 26 v0 rfl rfl) h0
  obtain ⟨x1, rfl, rfl, rfl, ws1⟩ := open_string Tryd.underlying9 (hval 1 9 v1 rfl rfl) h1
  clear hA0 hval0
  refine (walkFrameBack f0 A0 c0 x1 ws1 W hr0).mono fun e W' ⟨he, bel⟩ => ?_
  subst he
  exact ⟨_, rfl, _, _, _, [], _, [], hW', trodAll_mk1 (shut_bool Tryd.underlying4 _), (trodAll_cons_mk (Below.trod laidOut (by kernel_rfl) (of_decide_eq_true (by kernel_rfl)) k0 bel lt0) (trodAll_cons_mk (shut_string Tryd.underlying9 ws1) trodAll_mk0)), rfl, bel.frame _, fun h => by cases h⟩

theorem over : Rows.frameBackRow.holds Tryd.pinned (OpenSpec.ofChange Rows.frameBackSpec) :=
  OpenClaim.holds_of_wide 6 Tryd.f6 rfl rfl rfl rfl rfl rfl rfl ⟨rfl, rfl, rfl, rfl, rfl⟩ rfl rfl rfl rfl rfl (by kernel_rfl) Tryd.func6 (by kernel_rfl)
    (of_decide_eq_true (by kernel_rfl)) (by unfold Func.isWrapper; first | (rw [if_pos (by decide +kernel)]; kernel_rfl) | (rw [if_neg (by decide +kernel)]; exact ⟨rfl, rfl⟩))
    (fun os started H enc _ => lifted os started H enc)

/-- The statement: the card. -/
theorem proved : Rows.FrameBackCardSaid :=
  Claim7.holds_tied_plain_at .later [] [.data, .pinned] true (true, "dd957caea826dfd9588818920ea08f281d87fb61899cd75292fd604fb4911ede") false over (fun _ h => by cases h) (by kernel_rfl) (fun _ h => by cases h) frameBack_row_tie rfl ⟨rfl, rfl⟩ (by kernel_rfl) rfl
    (fun f fn hf hfn => by
      obtain rfl : f = 6 := Option.some.inj ((show Tryd.prog.funcNamed "kymograph/kymographlaw03.FrameBack" = some 6 by kernel_rfl).symm.trans hf) |>.symm
      obtain rfl : fn = Tryd.f6 := (Option.some.inj (Tryd.func6.symm.trans hfn)).symm
      exact ⟨by kernel_rfl, fun j t ht => by
        rw [Tryd.params6] at ht
        have hm : t ∈ [26, 9] := by simpa using Array.mem_of_getElem? ht
        have hall : ([26, 9].all fun u => !Tryd.prog.wantsStandIn u) = true := by kernel_rfl
        exact (show Tryd.prog.wantsStandIn t = false by simpa using List.all_eq_true.1 hall t hm)⟩)
    (by kernel_rfl)
#print axioms proved
end Go.Proofs.YtbjmcnmcodbkdaaDoor.lawFrameBack
