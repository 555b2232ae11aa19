/-
  The statement FrameTold: its walk, and the walk brought to the given statement; no condition.
-/
import Derived.Test.YtbjmcnmcodbkdabDoorG8
import Derived.Test.YtbjmcnmcodbkdabDoorRows
import Derived.Test.YtbjmcnmcodbkdabDoorCards
import Derived.Test.YtbjmcnmcodbkdabDoorTie
import Derived.Lay
import Derived.LaidOnce
import Derived.SevenTiedAt
import Derived.WalkKit
import Derived.ProofKit
import Derived.OpenShut
import Derived.ShutString
import Derived.ChangeOld
import Derived.Below

/-
  frames, plain: a frame tells no more than its kind does.
-/
namespace Go.Proofs.YtbjmcnmcodbkdabDoor
open Go.RowKit

theorem may_kind {f : Fr} (h : fmay f = true) : f.kind < 31 := by
  obtain ⟨_, _, _, _, ho⟩ := fmay_parts h
  cases hs : fshape f.kind with
  | some s => exact (fshape_lt hs).1
  | none =>
    rw [hs] at ho
    have := own_cases ho
    omega
theorem told_kind {f : Fr} : fmay { f with kind := f.kind + 32 } = false := by
  cases h2 : fmay { f with kind := f.kind + 32 } with
  | false => rfl
  | true => have := may_kind h2; simp only at this; omega
theorem or32 {k : Nat} (h : k < 31) : bits .or .u64 (k : Int) 32 = ((k + 32 : Nat) : Int) := by
  have : k = 0 ∨ k = 1 ∨ k = 2 ∨ k = 3 ∨ k = 4 ∨ k = 5 ∨ k = 6 ∨ k = 7 ∨ k = 8 ∨ k = 9 ∨ k = 10 ∨ k = 11 ∨ k = 12 ∨ k = 13 ∨ k = 14 ∨ k = 15 ∨ k = 16 ∨ k = 17 ∨ k = 18 ∨ k = 19 ∨ k = 20 ∨ k = 21 ∨ k = 22 ∨ k = 23 ∨ k = 24 ∨ k = 25 ∨ k = 26 ∨ k = 27 ∨ k = 28 ∨ k = 29 ∨ k = 30 := by omega
  rcases this with rfl | rfl | rfl | rfl | rfl | rfl | rfl | rfl | rfl | rfl | rfl | rfl | rfl | rfl | rfl | rfl | rfl | rfl | rfl | rfl | rfl | rfl | rfl | rfl | rfl | rfl | rfl | rfl | rfl | rfl | rfl <;> decide +kernel
theorem shape3 {k : Nat} {s : Shp} (h : fshape k = some s) (h3 : 3 ≤ s.n) : k = 4 := by
  unfold fshape at h
  repeat' split at h
  all_goals first | (cases h; done) | (cases h; simp at h3; done) | assumption
theorem may_c {f : Fr} (h : fmay f = true) (h4 : f.kind ≠ 4) (h3 : f.kind ≠ 3) : f.c = 0 := by
  obtain ⟨_, _, _, _, ho⟩ := fmay_parts h
  cases hs : fshape f.kind with
  | some s =>
    rw [hs] at ho
    simp only [Bool.and_eq_true] at ho
    rcases (fclear_parts ho.1.1).2.2.1 with h5 | h5
    · exact absurd (shape3 hs h5) h4
    · exact h5
  | none =>
    rw [hs] at ho
    rcases own_cases ho with h0 | h2 | h33 | h8 | h24
    · have := (own0 h0 ho).2.2; rw [this]
    · exact ((ownA (.inl h2) ho).2.2.2.1 h2).2.1
    · exact absurd h33 h3
    · have := (own8 h8 ho).2; rw [this]
    · have := (own24 h24 ho).2.2.2.2; rw [this]
theorem may_more {f : Fr} (h : fmay f = true) (h3 : f.kind ≠ 3) (h24 : f.kind ≠ 24) : f.more.size = 0 := by
  obtain ⟨_, _, _, _, ho⟩ := fmay_parts h
  cases hs : fshape f.kind with
  | some s =>
    rw [hs] at ho
    simp only [Bool.and_eq_true] at ho
    exact (fclear_parts ho.1.1).2.2.2.2.2.1
  | none =>
    rw [hs] at ho
    rcases own_cases ho with h0 | h2 | h33 | h8 | h244
    · have := (own0 h0 ho).2.2; rw [this]; rfl
    · rw [((ownA (.inl h2) ho).2.2.2.1 h2).2.2]; rfl
    · exact absurd h33 h3
    · have := (own8 h8 ho).2; rw [this]; rfl
    · exact absurd h244 h24
theorem may_fin {f : Fr} (h : fmay f = true) (h8 : f.kind ≠ 8) : f.fin = false := by
  obtain ⟨_, _, _, _, ho⟩ := fmay_parts h
  cases hs : fshape f.kind with
  | some s =>
    rw [hs] at ho
    simp only [Bool.and_eq_true] at ho
    exact (fclear_parts ho.1.1).2.2.2.1
  | none =>
    rw [hs] at ho
    rcases own_cases ho with h0 | h2 | h3 | h88 | h24
    · have := (own0 h0 ho).2.2; rw [this]
    · exact (ownA (.inl h2) ho).2.1
    · exact (ownA (.inr h3) ho).2.1
    · exact absurd h88 h8
    · have := (own24 h24 ho).2.2.2.2; rw [this]
theorem told_c {f : Fr} (h4 : f.kind ≠ 4) (h3 : f.kind ≠ 3) : fmay { f with c := f.c + 1 } = false := by
  cases h2 : fmay { f with c := f.c + 1 } with
  | false => rfl
  | true => have := may_c h2 h4 h3; simp at this
theorem told_more {f : Fr} (h3 : f.kind ≠ 3) (h24 : f.kind ≠ 24) : fmay { f with more := f.more ++ ⟨#[120]⟩ } = false := by
  cases h2 : fmay { f with more := f.more ++ ⟨#[120]⟩ } with
  | false => rfl
  | true =>
    have := may_more h2 h3 h24
    simp only [ByteArray.size_append] at this
    have e : (⟨#[120]⟩ : ByteArray).size = 1 := rfl
    omega
theorem told_fin {f : Fr} (h8 : f.kind ≠ 8) : fmay { f with fin := true } = false := by
  cases h2 : fmay { f with fin := true } with
  | false => rfl
  | true => have := may_fin h2 h8; simp at this
end Go.Proofs.YtbjmcnmcodbkdabDoor

/-
  FrameTold: the walk.
-/
namespace Go.Proofs.YtbjmcnmcodbkdabDoor
open Go.RowKit

set_option maxRecDepth 100000 in
set_option maxHeartbeats 1000000 in
theorem walkFrameTold (f : Fr) (A : Option Addr) (c : Nat) (wh : Nat) (hwh : wh ≤ 255) (W : World) (hr : f.list.length ≤ 4611686018427387904 → Rngs W A f.list.length f.list) :
    Calls Tryd.prog 4 #[fval A f.list.length c f, .int .u8 wh] W fun e w' => e = .returned (.bool true) ∧ Below W.heap.size W w' := by
  have hb0 : Blk (W.alloc (.cells (fcs A f.list.length c f) 28)) W.heap.size 28 (fcs A f.list.length c f) := Blk.new _ _ _
  have hm0 : Mod [] W (W.alloc (.cells (fcs A f.list.length c f) 28)) := (Mod.refl _ _).alloc _
  have HB0 := hide hb0
  have HM0 := hide hm0
  have HR := hide hr
  have HL := hide (fun w => large_any w A c f)
  clear hb0 hm0 hr
  unfold fval fcs at *
  go_enter Tryd.func4, Tryd.ntmps4
  go_wp2_with fail
  refine (awake_any _).mono ?_
  rintro e w1 ⟨rfl, m1⟩
  have hb1 := m1.blk HB0.out (by simp)
  have hm1 := HM0.out.trans m1 (by simp)
  have HB1 := hide hb1
  have HM1 := hide hm1
  clear m1 hb1 hm1 HB0 HM0
  have c0 : w1.cell? ⟨W.heap.size, 0, none⟩ = some (.int .u64 (f.kind : Nat)) := HB1.out.cell 0
  have c1 : w1.cell? ⟨W.heap.size, 1, none⟩ = some (.int .u64 (f.a : Nat)) := HB1.out.cell 1
  have c2 : w1.cell? ⟨W.heap.size, 2, none⟩ = some (.int .u64 (f.b : Nat)) := HB1.out.cell 2
  have c3 : w1.cell? ⟨W.heap.size, 3, none⟩ = some (.int .u64 (f.c : Nat)) := HB1.out.cell 3
  have c4 : w1.cell? ⟨W.heap.size, 4, none⟩ = some (.bool f.fin) := HB1.out.cell 4
  have c5 : w1.cell? ⟨W.heap.size, 5, none⟩ = some (.string f.data) := HB1.out.cell 5
  have c6 : w1.cell? ⟨W.heap.size, 6, none⟩ = some (.string f.more) := HB1.out.cell 6
  have c7 : w1.cell? ⟨W.heap.size, 7, none⟩ = some (.slice A f.list.length c) := HB1.out.cell 7
  have cl := HB1.out.lt
  cases hlg : flarge f with
  | true =>
    have HLg := hide hlg
    clear hlg
    go_wp2_with fail
    refine (HL.out w1 true HLg.out).mono ?_
    rintro e w2 ⟨rfl, m2⟩
    have HM := HM1.out.trans m2 (by simp)
    clear m2
    go_wp2_with fail
    go_ret
    exact ⟨rfl, HM.below (Nat.le_refl _) (by simp)⟩
  | false =>
    have HLg := hide hlg
    obtain ⟨_, hmsz, hl200⟩ := flarge_no hlg
    have HRg := hide (fun w (m : Mod [] W w) => (HR.out (by omega)).new m)
    clear hlg
    go_wp2_with fail
    refine (HL.out w1 false HLg.out).mono ?_
    rintro e w2 ⟨rfl, m2⟩
    have HM2 := hide (HM1.out.trans m2 (by simp))
    have HB2 := hide (m2.blk HB1.out (by simp))
    clear m2 HB1 HM1 c0 c1 c2 c3 c4 c5 c6 c7 cl
    have c0 : w2.cell? ⟨W.heap.size, 0, none⟩ = some (.int .u64 (f.kind : Nat)) := HB2.out.cell 0
    have c1 : w2.cell? ⟨W.heap.size, 1, none⟩ = some (.int .u64 (f.a : Nat)) := HB2.out.cell 1
    have c2 : w2.cell? ⟨W.heap.size, 2, none⟩ = some (.int .u64 (f.b : Nat)) := HB2.out.cell 2
    have c3 : w2.cell? ⟨W.heap.size, 3, none⟩ = some (.int .u64 (f.c : Nat)) := HB2.out.cell 3
    have c4 : w2.cell? ⟨W.heap.size, 4, none⟩ = some (.bool f.fin) := HB2.out.cell 4
    have c5 : w2.cell? ⟨W.heap.size, 5, none⟩ = some (.string f.data) := HB2.out.cell 5
    have c6 : w2.cell? ⟨W.heap.size, 6, none⟩ = some (.string f.more) := HB2.out.cell 6
    have c7 : w2.cell? ⟨W.heap.size, 7, none⟩ = some (.slice A f.list.length c) := HB2.out.cell 7
    have cl := HB2.out.lt
    cases hmay : fmay f with
    | false =>
      have HMay := hide (may_any w2 A f.list.length c f (HRg.out w2 HM2.out) false hmay)
      unfold fval fcs at HMay
      clear hmay
      go_wp2_with fail
      refine HMay.out.mono ?_
      rintro e w3 ⟨rfl, m3⟩
      have HM := HM2.out.trans m3 (by simp)
      clear m3
      go_wp2_with fail
      go_ret
      exact ⟨rfl, HM.below (Nat.le_refl _) (by simp)⟩
    | true =>
      have HMay := hide (may_any w2 A f.list.length c f (HRg.out w2 HM2.out) true hmay)
      have hk31 := may_kind hmay
      have hcb := (fmay_parts hmay).2.2.1
      have HMy := hide hmay
      obtain ⟨m, hm⟩ : ∃ m, wh % 4 = m := ⟨_, rfl⟩
      have hmi : (wh : Int) % 4 = (m : Nat) := by omega
      have hm4 : m = 0 ∨ m = 1 ∨ m = 2 ∨ m = 3 := by omega
      unfold fval fcs at HMay
      clear hmay hm
      go_wp2_with fail
      refine HMay.out.mono ?_
      rintro e w3 ⟨rfl, m3⟩
      have HM3 := hide (HM2.out.trans m3 (by simp))
      have HB3 := hide (m3.blk HB2.out (by simp))
      clear m3 HM2 HB2 HMay c0 c1 c2 c3 c4 c5 c6 c7 cl
      have y0 : w3.cell? ⟨W.heap.size, 0, none⟩ = some (.int .u64 (f.kind : Nat)) := HB3.out.cell 0
      have y1 : w3.cell? ⟨W.heap.size, 1, none⟩ = some (.int .u64 (f.a : Nat)) := HB3.out.cell 1
      have y2 : w3.cell? ⟨W.heap.size, 2, none⟩ = some (.int .u64 (f.b : Nat)) := HB3.out.cell 2
      have y3 : w3.cell? ⟨W.heap.size, 3, none⟩ = some (.int .u64 (f.c : Nat)) := HB3.out.cell 3
      have y4 : w3.cell? ⟨W.heap.size, 4, none⟩ = some (.bool f.fin) := HB3.out.cell 4
      have y5 : w3.cell? ⟨W.heap.size, 5, none⟩ = some (.string f.data) := HB3.out.cell 5
      have y6 : w3.cell? ⟨W.heap.size, 6, none⟩ = some (.string f.more) := HB3.out.cell 6
      have y7 : w3.cell? ⟨W.heap.size, 7, none⟩ = some (.slice A f.list.length c) := HB3.out.cell 7
      have yl := HB3.out.lt
      rcases hm4 with rfl | rfl | rfl | rfl
      · obtain ⟨k2, hk2⟩ : ∃ k2, f.kind + 32 = k2 := ⟨_, rfl⟩
        have hor : bits .or .u64 (f.kind : Int) 32 = (k2 : Nat) := by rw [or32 hk31, hk2]
        have hbX := HB3.out.set_ 0 (.int .u64 (k2 : Nat))
        have hmX := HM3.out.setCell (p := ⟨W.heap.size, 0, none⟩) (.inr (Nat.le_refl _)) (.int .u64 (k2 : Nat))
        have htold : fmay { f with kind := k2 } = false := by rw [← hk2]; exact told_kind
        have HBX : Hid (Blk (w3.setCell ⟨W.heap.size, 0, none⟩ (.int .u64 (k2 : Nat))) W.heap.size 28 (fcs A f.list.length c { f with kind := k2 })) := hide hbX
        have HMX := hide hmX
        have HWX := hide (fwrite_any (w3.setCell ⟨W.heap.size, 0, none⟩ (.int .u64 (k2 : Nat))) A f.list.length c { f with kind := k2 } (HRg.out _ hmX))
        obtain ⟨he1, he2⟩ := fw_of { f with kind := k2 } false htold
        simp only [Bool.false_eq_true, if_false] at he1 he2
        rw [he1, he2] at HWX
        have HMay2 := hide (fun w (h : Rngs w A f.list.length f.list) => may_any w A f.list.length c { f with kind := k2 } h false htold)
        have q0 := HB3.out.frozen 0
        unfold fval fcs at HWX HMay2
        clear hbX hmX htold he1 he2
        go_wp2_with fail
        refine HWX.out.mono ?_
        rintro e w4 ⟨rfl, m4⟩
        have HM4 := hide (HMX.out.trans m4 (by simp))
        have hb4 := m4.blk HBX.out (by simp)
        obtain ⟨x0, x1, x2, x3, x4, x5, x6, x7⟩ := fcells hb4
        have xl := hb4.lt
        clear m4 hb4 y0 y1 y2 y3 y4 y5 y6 y7 yl
        go_wp2_with fail
        refine (HMay2.out w4 (HRg.out w4 HM4.out)).mono ?_
        rintro e w5 ⟨rfl, m5⟩
        have HM := HM4.out.trans m5 (by simp)
        clear m5
        go_wp2_with fail
        go_ret
        exact ⟨rfl, HM.below (Nat.le_refl _) (by simp)⟩
      · by_cases h4 : f.kind = 4
        · have h4b : ((f.kind : Int) == 4) = true := by simp; omega
          clear h4
          have HM := HM3.out
          go_wp2_with fail
          go_ret
          exact ⟨rfl, HM.below (Nat.le_refl _) (by simp)⟩
        · have h4b : ((f.kind : Int) == 4) = false := by simp; omega
          by_cases h3 : f.kind = 3
          · have h3b : ((f.kind : Int) == 3) = true := by simp; omega
            clear h3 h4
            have HM := HM3.out
            go_wp2_with fail
            go_ret
            exact ⟨rfl, HM.below (Nat.le_refl _) (by simp)⟩
          · have h3b : ((f.kind : Int) == 3) = false := by simp; omega
            obtain ⟨cc, hcc⟩ : ∃ cc, f.c + 1 = cc := ⟨_, rfl⟩
            have hcci : (f.c : Int) + 1 = (cc : Nat) := by omega
            have hccb : cc ≤ 4611686018427387904 := by omega
            have hbX := HB3.out.set_ 3 (.int .u64 (cc : Nat))
            have hmX := HM3.out.setCell (p := ⟨W.heap.size, 3, none⟩) (.inr (Nat.le_refl _)) (.int .u64 (cc : Nat))
            have htold : fmay { f with c := cc } = false := by rw [← hcc]; exact told_c h4 h3
            have HBX : Hid (Blk (w3.setCell ⟨W.heap.size, 3, none⟩ (.int .u64 (cc : Nat))) W.heap.size 28 (fcs A f.list.length c { f with c := cc })) := hide hbX
            have HMX := hide hmX
            have HWX := hide (fwrite_any (w3.setCell ⟨W.heap.size, 3, none⟩ (.int .u64 (cc : Nat))) A f.list.length c { f with c := cc } (HRg.out _ hmX))
            obtain ⟨he1, he2⟩ := fw_of { f with c := cc } false htold
            simp only [Bool.false_eq_true, if_false] at he1 he2
            rw [he1, he2] at HWX
            have HMay2 := hide (fun w (h : Rngs w A f.list.length f.list) => may_any w A f.list.length c { f with c := cc } h false htold)
            have q3 := HB3.out.frozen 3
            unfold fval fcs at HWX HMay2
            clear hbX hmX htold he1 he2
            go_wp2_with fail
            refine HWX.out.mono ?_
            rintro e w4 ⟨rfl, m4⟩
            have HM4 := hide (HMX.out.trans m4 (by simp))
            have hb4 := m4.blk HBX.out (by simp)
            obtain ⟨x0, x1, x2, x3, x4, x5, x6, x7⟩ := fcells hb4
            have xl := hb4.lt
            clear m4 hb4 y0 y1 y2 y3 y4 y5 y6 y7 yl
            go_wp2_with fail
            refine (HMay2.out w4 (HRg.out w4 HM4.out)).mono ?_
            rintro e w5 ⟨rfl, m5⟩
            have HM := HM4.out.trans m5 (by simp)
            clear m5
            go_wp2_with fail
            go_ret
            exact ⟨rfl, HM.below (Nat.le_refl _) (by simp)⟩
      · by_cases h3 : f.kind = 3
        · have h3b : ((f.kind : Int) == 3) = true := by simp; omega
          clear h3
          have HM := HM3.out
          go_wp2_with fail
          go_ret
          exact ⟨rfl, HM.below (Nat.le_refl _) (by simp)⟩
        · have h3b : ((f.kind : Int) == 3) = false := by simp; omega
          by_cases h24 : f.kind = 24
          · have h24b : ((f.kind : Int) == 24) = true := by simp; omega
            clear h3 h24
            have HM := HM3.out
            go_wp2_with fail
            go_ret
            exact ⟨rfl, HM.below (Nat.le_refl _) (by simp)⟩
          · have h24b : ((f.kind : Int) == 24) = false := by simp; omega
            have n1 : ¬ 9223372036854775807 < f.more.size + 1 := by omega
            have hbX := HB3.out.set_ 6 (.string (f.more ++ ⟨#[120]⟩))
            have hmX := HM3.out.setCell (p := ⟨W.heap.size, 6, none⟩) (.inr (Nat.le_refl _)) (.string (f.more ++ ⟨#[120]⟩))
            have htold : fmay { f with more := f.more ++ ⟨#[120]⟩ } = false := told_more h3 h24
            have HBX : Hid (Blk (w3.setCell ⟨W.heap.size, 6, none⟩ (.string (f.more ++ ⟨#[120]⟩))) W.heap.size 28 (fcs A f.list.length c { f with more := f.more ++ ⟨#[120]⟩ })) := hide hbX
            have HMX := hide hmX
            have HWX := hide (fwrite_any (w3.setCell ⟨W.heap.size, 6, none⟩ (.string (f.more ++ ⟨#[120]⟩))) A f.list.length c { f with more := f.more ++ ⟨#[120]⟩ } (HRg.out _ hmX))
            obtain ⟨he1, he2⟩ := fw_of { f with more := f.more ++ ⟨#[120]⟩ } false htold
            simp only [Bool.false_eq_true, if_false] at he1 he2
            rw [he1, he2] at HWX
            have HMay2 := hide (fun w (h : Rngs w A f.list.length f.list) => may_any w A f.list.length c { f with more := f.more ++ ⟨#[120]⟩ } h false htold)
            have q6 := HB3.out.frozen 6
            unfold fval fcs at HWX HMay2
            clear hbX hmX htold he1 he2
            go_wp2_with fail
            refine HWX.out.mono ?_
            rintro e w4 ⟨rfl, m4⟩
            have HM4 := hide (HMX.out.trans m4 (by simp))
            have hb4 := m4.blk HBX.out (by simp)
            obtain ⟨x0, x1, x2, x3, x4, x5, x6, x7⟩ := fcells hb4
            have xl := hb4.lt
            clear m4 hb4 y0 y1 y2 y3 y4 y5 y6 y7 yl
            go_wp2_with fail
            refine (HMay2.out w4 (HRg.out w4 HM4.out)).mono ?_
            rintro e w5 ⟨rfl, m5⟩
            have HM := HM4.out.trans m5 (by simp)
            clear m5
            go_wp2_with fail
            go_ret
            exact ⟨rfl, HM.below (Nat.le_refl _) (by simp)⟩
      · by_cases h8 : f.kind = 8
        · have h8b : ((f.kind : Int) == 8) = true := by simp; omega
          clear h8
          have HM := HM3.out
          go_wp2_with fail
          go_ret
          exact ⟨rfl, HM.below (Nat.le_refl _) (by simp)⟩
        · have h8b : ((f.kind : Int) == 8) = false := by simp; omega
          have hfin := may_fin HMy.out h8
          rw [hfin] at y4
          have hbX := HB3.out.set_ 4 (.bool true)
          have hmX := HM3.out.setCell (p := ⟨W.heap.size, 4, none⟩) (.inr (Nat.le_refl _)) (.bool true)
          have htold : fmay { f with fin := true } = false := told_fin h8
          have HBX : Hid (Blk (w3.setCell ⟨W.heap.size, 4, none⟩ (.bool true)) W.heap.size 28 (fcs A f.list.length c { f with fin := true })) := hide hbX
          have HMX := hide hmX
          have HWX := hide (fwrite_any (w3.setCell ⟨W.heap.size, 4, none⟩ (.bool true)) A f.list.length c { f with fin := true } (HRg.out _ hmX))
          obtain ⟨he1, he2⟩ := fw_of { f with fin := true } false htold
          simp only [Bool.false_eq_true, if_false] at he1 he2
          rw [he1, he2] at HWX
          have HMay2 := hide (fun w (h : Rngs w A f.list.length f.list) => may_any w A f.list.length c { f with fin := true } h false htold)
          have q4 := HB3.out.frozen 4
          unfold fval fcs at HWX HMay2
          clear hbX hmX htold he1 he2
          go_wp2_with fail
          refine HWX.out.mono ?_
          rintro e w4 ⟨rfl, m4⟩
          have HM4 := hide (HMX.out.trans m4 (by simp))
          have hb4 := m4.blk HBX.out (by simp)
          obtain ⟨x0, x1, x2, x3, x4, x5, x6, x7⟩ := fcells hb4
          have xl := hb4.lt
          clear m4 hb4 y0 y1 y2 y3 y4 y5 y6 y7 yl
          go_wp2_with fail
          refine (HMay2.out w4 (HRg.out w4 HM4.out)).mono ?_
          rintro e w5 ⟨rfl, m5⟩
          have HM := HM4.out.trans m5 (by simp)
          clear m5
          go_wp2_with fail
          go_ret
          exact ⟨rfl, HM.below (Nat.le_refl _) (by simp)⟩
end Go.Proofs.YtbjmcnmcodbkdabDoor

/-
  The row of 'FrameTold': the walk's contract brought to the given statement.
-/
namespace Go.Proofs.YtbjmcnmcodbkdabDoor.lawFrameTold
open Go.ChangeShapes Go.WideShapes Go.ChangeAt Go.RowKit
open Go.ChangeMaps (open_string shut_string)
set_option linter.unusedVariables false

theorem own : ownKnob Tryd.prog.godebug = none := by kernel_rfl
theorem laidOut : laidOutB Tryd.prog = true := by kernel_rfl

set_option maxRecDepth 100000 in
theorem lifted (os : Os) (started : os.Started) (H : Type) (enc : TypeId × Value → H) :
    ReturnsInHanded {} Tryd.checked os 4 .any (fun w args => (Rows.frameToldSpec.pre enc Tryd.prog Tryd.f4 Rows.frameToldRow.domain false w args ∧ laidMetH Tryd.prog Rows.frameToldRow.laid w) ∧ sizedMet enc Tryd.prog Tryd.f4 (OpenSpec.ofChange Rows.frameToldSpec) false w args)
      (Rows.frameToldSpec.post enc Tryd.prog Tryd.f4 false true false false) := by
  refine returnsInHanded_of_change_and (C := Tryd.checked) (X := fun w _ => laidMetH Tryd.prog Rows.frameToldRow.laid w) (fun _ _ _ hh h => h.of_heap hh) own started (by kernel_rfl) Tryd.func4
    (ChangeSpec.witness_shaped (enc := enc) (C := Tryd.checked) (os := os) (X := fun w _ => laidMetH Tryd.prog Rows.frameToldRow.laid w) false (World.laidAll Tryd.prog os Rows.frameToldRow.laid) #[.agg #[.int .u64 0, .int .u64 0, .int .u64 0, .int .u64 0, .bool false, .string ⟨#[]⟩, .string ⟨#[]⟩, .slice none 0 0], .int .u8 0] 8 (World.laidAll_os _ _ _)
      (World.shaped_of_ZipB (by kernel_rfl) (by kernel_rfl)) (by kernel_rfl) (by kernel_rfl) (by kernel_rfl)
      (by rw [MakeChecks.laidMetH_plain _ _ _ (by kernel_rfl)]; exact laidMet_laidAll _ (by kernel_rfl) (by kernel_rfl))) ?_
  intro W base args ds gs before hval0 hW hcnd _ _ _
  have hval : ∀ (j : Nat) t v, Tryd.f4.params[j]? = some t → args[j]? = some v → Value.okWide Tryd.prog W .any base t v := hval0
  have hW' := hW
  obtain ⟨p, q, hA0, hV, rfl, hfz, hnd⟩ := hW
  have hA : DataW.TrodAll enc Tryd.prog W 0 (fun _ => true) true Tryd.f4.params.toList args.toList ds p := hA0
  rw [Tryd.params4] at hA hval
  obtain ⟨v0, vs0, d0, ds0, p0, q0, hargs, rfl, rfl, h0, r0⟩ := trodAll_cons hA
  obtain ⟨v1, vs1, d1, ds1, p1, q1, rfl, rfl, rfl, h1, r1⟩ := trodAll_cons r0
  obtain ⟨rfl, rfl, rfl⟩ := trodAll_nil r1
  obtain rfl : args = #[v0, v1] := by cases args; simp_all
  obtain ⟨rfl, rfl⟩ := trodVars_none hV
  have k0 := h0
  have lt0 : ∀ x ∈ p0, x.block < W.heap.size := by obtain ⟨m, hm⟩ := k0; exact DataW.trod_lt m _ _ _ hm
  obtain ⟨f0, A0, c0, rfl, hr0, _⟩ := open_frame (hval 0 28 v0 rfl rfl) h0
  obtain ⟨z1, rfl, rfl, rfl, w1⟩ := open_int Tryd.underlying5 (hval 1 5 v1 rfl rfl) h1
  have bd1 := bounds_u8 w1
  obtain ⟨n1, rfl⟩ := Int.eq_ofNat_of_zero_le bd1.1
  clear hA0 hval0
  refine (walkFrameTold f0 A0 c0 n1 (by omega) W hr0).mono fun e W' ⟨he, bel⟩ => ?_
  subst he
  exact ⟨_, rfl, _, _, _, [], _, [], hW', trodAll_mk1 (shut_bool Tryd.underlying4 _), (trodAll_cons_mk (Below.trod laidOut (by kernel_rfl) (of_decide_eq_true (by kernel_rfl)) k0 bel lt0) (trodAll_cons_mk (shut_int Tryd.underlying5 w1) trodAll_mk0)), rfl, bel.frame _, fun h => by cases h⟩

theorem over : Rows.frameToldRow.holds Tryd.pinned (OpenSpec.ofChange Rows.frameToldSpec) :=
  OpenClaim.holds_of_wide 4 Tryd.f4 rfl rfl rfl rfl rfl rfl rfl ⟨rfl, rfl, rfl, rfl, rfl⟩ rfl rfl rfl rfl rfl (by kernel_rfl) Tryd.func4 (by kernel_rfl)
    (of_decide_eq_true (by kernel_rfl)) (by unfold Func.isWrapper; first | (rw [if_pos (by decide +kernel)]; kernel_rfl) | (rw [if_neg (by decide +kernel)]; exact ⟨rfl, rfl⟩))
    (fun os started H enc _ => lifted os started H enc)

/-- The statement: the card. -/
theorem proved : Rows.FrameToldCardSaid :=
  Claim7.holds_tied_plain_at .later [] [.data, .pinned] true (true, "1a129f03ed4e57cdaf93f86b7379db45aa3145e1b7231581e56638be29b369c0") false over (fun _ h => by cases h) (by kernel_rfl) (fun _ h => by cases h) frameTold_row_tie rfl ⟨rfl, rfl⟩ (by kernel_rfl) rfl
    (fun f fn hf hfn => by
      obtain rfl : f = 4 := Option.some.inj ((show Tryd.prog.funcNamed "kymograph/kymographlaw03.FrameTold" = some 4 by kernel_rfl).symm.trans hf) |>.symm
      obtain rfl : fn = Tryd.f4 := (Option.some.inj (Tryd.func4.symm.trans hfn)).symm
      exact ⟨by kernel_rfl, fun j t ht => by
        rw [Tryd.params4] at ht
        have hm : t ∈ [28, 5] := by simpa using Array.mem_of_getElem? ht
        have hall : ([28, 5].all fun u => !Tryd.prog.wantsStandIn u) = true := by kernel_rfl
        exact (show Tryd.prog.wantsStandIn t = false by simpa using List.all_eq_true.1 hall t hm)⟩)
    (by kernel_rfl)
#print axioms proved
end Go.Proofs.YtbjmcnmcodbkdabDoor.lawFrameTold
