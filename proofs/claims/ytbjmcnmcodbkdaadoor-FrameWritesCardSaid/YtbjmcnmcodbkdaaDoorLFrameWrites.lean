/-
  The statement FrameWrites: its walk, and the walk brought to the given statement; no condition.
-/
import Derived.Test.YtbjmcnmcodbkdaaDoorH4
import Derived.Test.YtbjmcnmcodbkdaaDoorG8
import Derived.Test.YtbjmcnmcodbkdaaDoorRows
import Derived.Test.YtbjmcnmcodbkdaaDoorCards
import Derived.Test.YtbjmcnmcodbkdaaDoorTie
import Derived.Lay
import Derived.LaidOnce
import Derived.SevenTiedAt
import Derived.WalkKit
import Derived.ProofKit
import Derived.OpenShut
import Derived.ShutString
import Derived.ChangeOld
import Derived.Below

/-
  FrameWrites: the walk.
-/
namespace Go.Proofs.YtbjmcnmcodbkdaaDoor
open Go.RowKit Go.Sort
set_option linter.unusedVariables false

theorem toList_self (a : ByteArray) : (a.toList == a.toList) = true := by simp
set_option maxRecDepth 100000 in
set_option maxHeartbeats 8000000 in
theorem walkFrameWrites (f : Fr) (A : Option Addr) (c : Nat) (h : Fr) (B : Option Addr) (d : Nat) (W : World) (hr : f.list.length ≤ 4611686018427387904 → Rngs W A f.list.length f.list) (hs : h.list.length ≤ 4611686018427387904 → Rngs W B h.list.length h.list) :
    Calls Tryd.prog 4 #[fval A f.list.length c f, fval B h.list.length d h] W fun e w' => e = .returned (.bool true) ∧ Below W.heap.size W w' := by
  have HF := hide ((Blk.new W 26 (fcs A f.list.length c f)).alloc (.cells (fcs B h.list.length d h) 26))
  have HG : Hid (Blk ((W.alloc (.cells (fcs A f.list.length c f) 26)).alloc (.cells (fcs B h.list.length d h) 26)) (W.heap.size + 1) 26 (fcs B h.list.length d h)) := hide (by
    have := Blk.new (W.alloc (.cells (fcs A f.list.length c f) 26)) 26 (fcs B h.list.length d h)
    rw [World.size_alloc] at this
    exact this)
  have HM := hide (((Mod.refl [] W).alloc (.cells (fcs A f.list.length c f) 26)).alloc (.cells (fcs B h.list.length d h) 26))
  have HR := hide hr
  have HS := hide hs
  have HL := hide (fun w => large_any w A c f)
  have HK := hide (fun w => large_any w B d h)
  clear hr hs
  unfold fval fcs at *
  go_enter Tryd.func4, Tryd.ntmps4
  go_wp2_with fail
  refine (awake_any _).mono ?_
  rintro e0 w1 ⟨rfl, m⟩
  replace HF := hide (m.blk HF.out (by simp))
  replace HG := hide (m.blk HG.out (by simp))
  replace HM := hide (HM.out.trans m (by simp))
  clear m
  obtain ⟨p0, p1, p2, p3, p4, p5, p6, p7⟩ := c8 HF.out
  obtain ⟨q0, q1, q2, q3, q4, q5, q6, q7⟩ := c8 HG.out
  have lF := HF.out.lt
  have lG := HG.out.lt
  cases hlg : flarge f with
  | true =>
    have HLg := hide hlg
    clear hlg
    go_wp2_with fail
    refine (HL.out _ true HLg.out).mono ?_
    rintro e0 w2 ⟨rfl, m⟩
    replace HF := hide (m.blk HF.out (by simp))
    replace HG := hide (m.blk HG.out (by simp))
    replace HM := hide (HM.out.trans m (by simp))
    clear m p0 p1 p2 p3 p4 p5 p6 p7 q0 q1 q2 q3 q4 q5 q6 q7 lF lG
    obtain ⟨p0, p1, p2, p3, p4, p5, p6, p7⟩ := c8 HF.out
    obtain ⟨q0, q1, q2, q3, q4, q5, q6, q7⟩ := c8 HG.out
    have lF := HF.out.lt
    have lG := HG.out.lt
    go_wp2_with fail
    go_ret
    exact ⟨rfl, HM.out.below (Nat.le_refl _) (by simp)⟩
  | false =>
    have HLg := hide hlg
    have hl200 := (flarge_no hlg).2.2
    clear hlg
    go_wp2_with fail
    refine (HL.out _ false HLg.out).mono ?_
    rintro e0 w2 ⟨rfl, m⟩
    replace HF := hide (m.blk HF.out (by simp))
    replace HG := hide (m.blk HG.out (by simp))
    replace HM := hide (HM.out.trans m (by simp))
    clear m p0 p1 p2 p3 p4 p5 p6 p7 q0 q1 q2 q3 q4 q5 q6 q7 lF lG
    obtain ⟨p0, p1, p2, p3, p4, p5, p6, p7⟩ := c8 HF.out
    obtain ⟨q0, q1, q2, q3, q4, q5, q6, q7⟩ := c8 HG.out
    have lF := HF.out.lt
    have lG := HG.out.lt
    cases hlg : flarge h with
    | true =>
      have HKg := hide hlg
      clear hlg
      go_wp2_with fail
      refine (HK.out _ true HKg.out).mono ?_
      rintro e0 w3 ⟨rfl, m⟩
      replace HF := hide (m.blk HF.out (by simp))
      replace HG := hide (m.blk HG.out (by simp))
      replace HM := hide (HM.out.trans m (by simp))
      clear m p0 p1 p2 p3 p4 p5 p6 p7 q0 q1 q2 q3 q4 q5 q6 q7 lF lG
      obtain ⟨p0, p1, p2, p3, p4, p5, p6, p7⟩ := c8 HF.out
      obtain ⟨q0, q1, q2, q3, q4, q5, q6, q7⟩ := c8 HG.out
      have lF := HF.out.lt
      have lG := HG.out.lt
      go_wp2_with fail
      go_ret
      exact ⟨rfl, HM.out.below (Nat.le_refl _) (by simp)⟩
    | false =>
      have HKg := hide hlg
      have hk200 := (flarge_no hlg).2.2
      clear hlg
      go_wp2_with fail
      refine (HK.out _ false HKg.out).mono ?_
      rintro e0 w3 ⟨rfl, m⟩
      replace HF := hide (m.blk HF.out (by simp))
      replace HG := hide (m.blk HG.out (by simp))
      replace HM := hide (HM.out.trans m (by simp))
      clear m p0 p1 p2 p3 p4 p5 p6 p7 q0 q1 q2 q3 q4 q5 q6 q7 lF lG
      obtain ⟨p0, p1, p2, p3, p4, p5, p6, p7⟩ := c8 HF.out
      obtain ⟨q0, q1, q2, q3, q4, q5, q6, q7⟩ := c8 HG.out
      have lF := HF.out.lt
      have lG := HG.out.lt
      have HRf := hide (fun w (m : Mod [] W w) => (HR.out (by omega)).new m)
      have HRh := hide (fun w (m : Mod [] W w) => (HS.out (by omega)).new m)
      clear hl200 hk200
      have HW := hide (fun w (m : Mod [] W w) => fwrite_any w A f.list.length c f (HRf.out w m))
      have HV := hide (fun w (m : Mod [] W w) => rfwrite_any w A f.list.length c f (HRf.out w m))
      have HSz := hide (fun w (m : Mod [] W w) => size_any w A f.list.length c f (HRf.out w m))
      obtain ⟨S, hS, hSz, hSl⟩ := putB2 (fwS f)
      have hwb : wrB f = S := by unfold wrB; exact Value.string.inj hS
      unfold RWr at HV
      rw [hS] at HV
      rw [hwb] at HW
      rw [← hSz] at HSz
      obtain ⟨E, hE⟩ : ∃ E, fwE f = E := ⟨_, rfl⟩
      rw [hE] at HW HV
      obtain ⟨vm, hvm⟩ : ∃ v, fmay f = v := ⟨_, rfl⟩
      obtain ⟨va, hva⟩ : ∃ v, fasks f = v := ⟨_, rfl⟩
      obtain ⟨vs, hvs⟩ : ∃ v, fsame f h = v := ⟨_, rfl⟩
      have HMy := hide (fun w (m : Mod [] W w) => may_any w A f.list.length c f (HRf.out w m) vm hvm)
      have HRMy := hide (fun w (m : Mod [] W w) => rfmay_any w A f.list.length c f (HRf.out w m))
      rw [hvm] at HRMy
      have HAs := hide (fun w (m : Mod [] W w) => asks_any w A f.list.length c f (HRf.out w m) va hva)
      have HRAs := hide (fun w (m : Mod [] W w) => rfasks_any w A f.list.length c f (HRf.out w m) va hva)
      have HSa := hide (fun w (m : Mod [] W w) => same_any w A B f.list.length h.list.length c d f h (HRf.out w m) (HRh.out w m) vs hvs)
      have HRSa := hide (fun w (m : Mod [] W w) => rsame_any w A B f.list.length h.list.length c d f h (HRf.out w m) (HRh.out w m) vs hvs)
      have HSs := hide (fun w (m : Mod [] W w) => same_any w A A f.list.length f.list.length c c f f (HRf.out w m) (HRf.out w m) true (fsame_self f))
      unfold RPost at HMy HRMy HAs HRAs HRSa
      unfold fval fcs at HW HV HSz HMy HRMy HAs HRAs HSa HRSa HSs
      clear hS hSz hSl hwb hE hvm hva hvs
      go_wp2_with fail
      refine (HW.out _ HM.out).mono ?_
      rintro e0 w4 ⟨rfl, m⟩
      replace HF := hide (m.blk HF.out (by simp))
      replace HG := hide (m.blk HG.out (by simp))
      replace HM := hide (HM.out.trans m (by simp))
      clear m p0 p1 p2 p3 p4 p5 p6 p7 q0 q1 q2 q3 q4 q5 q6 q7 lF lG
      obtain ⟨p0, p1, p2, p3, p4, p5, p6, p7⟩ := c8 HF.out
      obtain ⟨q0, q1, q2, q3, q4, q5, q6, q7⟩ := c8 HG.out
      have lF := HF.out.lt
      have lG := HG.out.lt
      go_wp2_with fail
      refine (HV.out _ HM.out).mono ?_
      rintro e0 w5 ⟨rfl, m⟩
      replace HF := hide (m.blk HF.out (by simp))
      replace HG := hide (m.blk HG.out (by simp))
      replace HM := hide (HM.out.trans m (by simp))
      clear m p0 p1 p2 p3 p4 p5 p6 p7 q0 q1 q2 q3 q4 q5 q6 q7 lF lG
      obtain ⟨p0, p1, p2, p3, p4, p5, p6, p7⟩ := c8 HF.out
      obtain ⟨q0, q1, q2, q3, q4, q5, q6, q7⟩ := c8 HG.out
      have lF := HF.out.lt
      have lG := HG.out.lt
      have u0 := cell_regrown p0
      have v0 := cell_regrown q0
      have u1 := cell_regrown p1
      have v1 := cell_regrown q1
      have u2 := cell_regrown p2
      have v2 := cell_regrown q2
      have u3 := cell_regrown p3
      have v3 := cell_regrown q3
      have u4 := cell_regrown p4
      have v4 := cell_regrown q4
      have u5 := cell_regrown p5
      have v5 := cell_regrown q5
      have u6 := cell_regrown p6
      have v6 := cell_regrown q6
      have u7 := cell_regrown p7
      have v7 := cell_regrown q7
      have mg : ∀ d os, Mod [] W (grow (redrawn w5 d) os) := fun d os => HM.out.trans (Mod.of_below (F := []) (below_regrown w5 d os)) (by simp)
      have c1 : ∀ dd os, Calls Tryd.prog 19 #[.agg #[.int .u64 (f.kind : Nat), .int .u64 (f.a : Nat), .int .u64 (f.b : Nat), .int .u64 (f.c : Nat), .bool f.fin, .string f.data, .string f.more, .slice A f.list.length c]] (grow (redrawn w5 dd) os) fun e0 w'' => e0 = .returned (.int .i64 S.size) ∧ ∃ p : Regrown, w'' = grow (redrawn w5 p.d) p.os := fun dd os => Calls.regrown_of ((HSz.out _ (mg dd os)).mono fun _ _ h => ⟨h.1, h.2.below (Nat.le_refl _) (by simp)⟩)
      have c2 : ∀ dd os, Calls Tryd.prog 20 #[.agg #[.int .u64 (f.kind : Nat), .int .u64 (f.a : Nat), .int .u64 (f.b : Nat), .int .u64 (f.c : Nat), .bool f.fin, .string f.data, .string f.more, .slice A f.list.length c]] (grow (redrawn w5 dd) os) fun e0 w'' => e0 = .returned (.bool vm) ∧ ∃ p : Regrown, w'' = grow (redrawn w5 p.d) p.os := fun dd os => Calls.regrown_of ((HMy.out _ (mg dd os)).mono fun _ _ h => ⟨h.1, h.2.below (Nat.le_refl _) (by simp)⟩)
      have c3 : ∀ dd os, Calls Tryd.prog 21 #[.agg #[.int .u64 (f.kind : Nat), .int .u64 (f.a : Nat), .int .u64 (f.b : Nat), .int .u64 (f.c : Nat), .bool f.fin, .string f.data, .string f.more, .slice A f.list.length c]] (grow (redrawn w5 dd) os) fun e0 w'' => e0 = .returned (.bool vm) ∧ ∃ p : Regrown, w'' = grow (redrawn w5 p.d) p.os := fun dd os => Calls.regrown_of ((HRMy.out _ (mg dd os)).mono fun _ _ h => ⟨h.1, h.2.below (Nat.le_refl _) (by simp)⟩)
      have c4 : ∀ dd os, Calls Tryd.prog 22 #[.agg #[.int .u64 (f.kind : Nat), .int .u64 (f.a : Nat), .int .u64 (f.b : Nat), .int .u64 (f.c : Nat), .bool f.fin, .string f.data, .string f.more, .slice A f.list.length c]] (grow (redrawn w5 dd) os) fun e0 w'' => e0 = .returned (.bool va) ∧ ∃ p : Regrown, w'' = grow (redrawn w5 p.d) p.os := fun dd os => Calls.regrown_of ((HAs.out _ (mg dd os)).mono fun _ _ h => ⟨h.1, h.2.below (Nat.le_refl _) (by simp)⟩)
      have c5 : ∀ dd os, Calls Tryd.prog 23 #[.agg #[.int .u64 (f.kind : Nat), .int .u64 (f.a : Nat), .int .u64 (f.b : Nat), .int .u64 (f.c : Nat), .bool f.fin, .string f.data, .string f.more, .slice A f.list.length c]] (grow (redrawn w5 dd) os) fun e0 w'' => e0 = .returned (.bool va) ∧ ∃ p : Regrown, w'' = grow (redrawn w5 p.d) p.os := fun dd os => Calls.regrown_of ((HRAs.out _ (mg dd os)).mono fun _ _ h => ⟨h.1, h.2.below (Nat.le_refl _) (by simp)⟩)
      have c6 : ∀ dd os, Calls Tryd.prog 24 #[.agg #[.int .u64 (f.kind : Nat), .int .u64 (f.a : Nat), .int .u64 (f.b : Nat), .int .u64 (f.c : Nat), .bool f.fin, .string f.data, .string f.more, .slice A f.list.length c], .agg #[.int .u64 (h.kind : Nat), .int .u64 (h.a : Nat), .int .u64 (h.b : Nat), .int .u64 (h.c : Nat), .bool h.fin, .string h.data, .string h.more, .slice B h.list.length d]] (grow (redrawn w5 dd) os) fun e0 w'' => e0 = .returned (.bool vs) ∧ ∃ p : Regrown, w'' = grow (redrawn w5 p.d) p.os := fun dd os => Calls.regrown_of ((HSa.out _ (mg dd os)).mono fun _ _ h => ⟨h.1, h.2.below (Nat.le_refl _) (by simp)⟩)
      have c7 : ∀ dd os, Calls Tryd.prog 14 #[.agg #[.int .u64 (f.kind : Nat), .int .u64 (f.a : Nat), .int .u64 (f.b : Nat), .int .u64 (f.c : Nat), .bool f.fin, .string f.data, .string f.more, .slice A f.list.length c], .agg #[.int .u64 (h.kind : Nat), .int .u64 (h.a : Nat), .int .u64 (h.b : Nat), .int .u64 (h.c : Nat), .bool h.fin, .string h.data, .string h.more, .slice B h.list.length d]] (grow (redrawn w5 dd) os) fun e0 w'' => e0 = .returned (.bool vs) ∧ ∃ p : Regrown, w'' = grow (redrawn w5 p.d) p.os := fun dd os => Calls.regrown_of ((HRSa.out _ (mg dd os)).mono fun _ _ h => ⟨h.1, h.2.below (Nat.le_refl _) (by simp)⟩)
      have c8' : ∀ dd os, Calls Tryd.prog 24 #[.agg #[.int .u64 (f.kind : Nat), .int .u64 (f.a : Nat), .int .u64 (f.b : Nat), .int .u64 (f.c : Nat), .bool f.fin, .string f.data, .string f.more, .slice A f.list.length c], .agg #[.int .u64 (f.kind : Nat), .int .u64 (f.a : Nat), .int .u64 (f.b : Nat), .int .u64 (f.c : Nat), .bool f.fin, .string f.data, .string f.more, .slice A f.list.length c]] (grow (redrawn w5 dd) os) fun e0 w'' => e0 = .returned (.bool true) ∧ ∃ p : Regrown, w'' = grow (redrawn w5 p.d) p.os := fun dd os => Calls.regrown_of ((HSs.out _ (mg dd os)).mono fun _ _ h => ⟨h.1, h.2.below (Nat.le_refl _) (by simp)⟩)
      have C1 := hide c1
      have C2 := hide c2
      have C3 := hide c3
      have C4 := hide c4
      have C5 := hide c5
      have C6 := hide c6
      have C7 := hide c7
      have C8 := hide c8'
      have t1 := toList_self S
      have t2 : (E == E) = true := by simp
      have t3 : ((S.size : Int) == (S.size : Int)) = true := by simp
      clear c1 c2 c3 c4 c5 c6 c7 c8' mg HW HV HSz HMy HRMy HAs HRAs HSa HRSa HSs
      cases vm <;> cases va <;> cases vs
      all_goals
        go_wp2_with fail
        refine wp_region_below (by kernel_rfl) (by kernel_rfl) (by kernel_rfl) ?_
        repeat (go_big_quiet_step (first | with_reducible exact C1.out _ _ | with_reducible exact C2.out _ _ | with_reducible exact C3.out _ _ | with_reducible exact C4.out _ _ | with_reducible exact C5.out _ _ | with_reducible exact C6.out _ _ | with_reducible exact C7.out _ _ | with_reducible exact C8.out _ _))
        refine wpQuiet_nil ?_
        intro _ hw'
        obtain ⟨⟨dq, osq⟩, hw''⟩ := hw'
        subst hw''
        have HMi := hide (HM.out.trans (Mod.of_below (F := []) (below_regrown w5 dq osq)) (by simp))
        go_wp2_with fail
        go_ret
        exact ⟨rfl, HMi.out.below (Nat.le_refl _) (by simp)⟩
end Go.Proofs.YtbjmcnmcodbkdaaDoor

/-
  The row of 'FrameWrites': the walk's contract brought to the given statement.
-/
namespace Go.Proofs.YtbjmcnmcodbkdaaDoor.lawFrameWrites
open Go.ChangeShapes Go.WideShapes Go.ChangeAt Go.RowKit
open Go.ChangeMaps (open_string shut_string)
set_option linter.unusedVariables false

theorem own : ownKnob Tryd.prog.godebug = none := by kernel_rfl
theorem laidOut : laidOutB Tryd.prog = true := by kernel_rfl

set_option maxRecDepth 100000 in
theorem lifted (os : Os) (started : os.Started) (H : Type) (enc : TypeId × Value → H) :
    ReturnsInHanded {} Tryd.checked os 4 .any (fun w args => (Rows.frameWritesSpec.pre enc Tryd.prog Tryd.f4 Rows.frameWritesRow.domain false w args ∧ laidMetH Tryd.prog Rows.frameWritesRow.laid w) ∧ sizedMet enc Tryd.prog Tryd.f4 (OpenSpec.ofChange Rows.frameWritesSpec) false w args)
      (Rows.frameWritesSpec.post enc Tryd.prog Tryd.f4 false true false false) := by
  refine returnsInHanded_of_change_and (C := Tryd.checked) (X := fun w _ => laidMetH Tryd.prog Rows.frameWritesRow.laid w) (fun _ _ _ hh h => h.of_heap hh) own started (by kernel_rfl) Tryd.func4
    (ChangeSpec.witness_shaped (enc := enc) (C := Tryd.checked) (os := os) (X := fun w _ => laidMetH Tryd.prog Rows.frameWritesRow.laid w) false (World.laidAll Tryd.prog os Rows.frameWritesRow.laid) #[.agg #[.int .u64 0, .int .u64 0, .int .u64 0, .int .u64 0, .bool false, .string ⟨#[]⟩, .string ⟨#[]⟩, .slice none 0 0], .agg #[.int .u64 0, .int .u64 0, .int .u64 0, .int .u64 0, .bool false, .string ⟨#[]⟩, .string ⟨#[]⟩, .slice none 0 0]] 8 (World.laidAll_os _ _ _)
      (World.shaped_of_ZipB (by kernel_rfl) (by kernel_rfl)) (by kernel_rfl) (by kernel_rfl) (by kernel_rfl)
      (by rw [MakeChecks.laidMetH_plain _ _ _ (by kernel_rfl)]; exact laidMet_laidAll _ (by kernel_rfl) (by kernel_rfl))) ?_
  intro W base args ds gs before hval0 hW hcnd _ _ _
  have hval : ∀ (j : Nat) t v, Tryd.f4.params[j]? = some t → args[j]? = some v → Value.okWide Tryd.prog W .any base t v := hval0
  have hW' := hW
  obtain ⟨p, q, hA0, hV, rfl, hfz, hnd⟩ := hW
  have hA : DataW.TrodAll enc Tryd.prog W 0 (fun _ => true) true Tryd.f4.params.toList args.toList ds p := hA0
  rw [Tryd.params4] at hA hval
  obtain ⟨v0, vs0, d0, ds0, p0, q0, hargs, rfl, rfl, h0, r0⟩ := trodAll_cons hA
  obtain ⟨v1, vs1, d1, ds1, p1, q1, rfl, rfl, rfl, h1, r1⟩ := trodAll_cons r0
  obtain ⟨rfl, rfl, rfl⟩ := trodAll_nil r1
  obtain rfl : args = #[v0, v1] := by cases args; simp_all
  obtain ⟨rfl, rfl⟩ := trodVars_none hV
  have k0 := h0
  have lt0 : ∀ x ∈ p0, x.block < W.heap.size := by obtain ⟨m, hm⟩ := k0; exact DataW.trod_lt m _ _ _ hm
  obtain ⟨f0, A0, c0, rfl, hr0, _⟩ := open_frame (hval 0 26 v0 rfl rfl) h0
  have k1 := h1
  have lt1 : ∀ x ∈ p1, x.block < W.heap.size := by obtain ⟨m, hm⟩ := k1; exact DataW.trod_lt m _ _ _ hm
  obtain ⟨f1, A1, c1, rfl, hr1, _⟩ := open_frame (hval 1 26 v1 rfl rfl) h1
  clear hA0 hval0
  refine (walkFrameWrites f0 A0 c0 f1 A1 c1 W hr0 hr1).mono fun e W' ⟨he, bel⟩ => ?_
  subst he
  exact ⟨_, rfl, _, _, _, [], _, [], hW', trodAll_mk1 (shut_bool Tryd.underlying4 _), (trodAll_cons_mk (Below.trod laidOut (by kernel_rfl) (of_decide_eq_true (by kernel_rfl)) k0 bel lt0) (trodAll_cons_mk (Below.trod laidOut (by kernel_rfl) (of_decide_eq_true (by kernel_rfl)) k1 bel lt1) trodAll_mk0)), rfl, bel.frame _, fun h => by cases h⟩

theorem over : Rows.frameWritesRow.holds Tryd.pinned (OpenSpec.ofChange Rows.frameWritesSpec) :=
  OpenClaim.holds_of_wide 4 Tryd.f4 rfl rfl rfl rfl rfl rfl rfl ⟨rfl, rfl, rfl, rfl, rfl⟩ rfl rfl rfl rfl rfl (by kernel_rfl) Tryd.func4 (by kernel_rfl)
    (of_decide_eq_true (by kernel_rfl)) (by unfold Func.isWrapper; first | (rw [if_pos (by decide +kernel)]; kernel_rfl) | (rw [if_neg (by decide +kernel)]; exact ⟨rfl, rfl⟩))
    (fun os started H enc _ => lifted os started H enc)

/-- The statement: the card. -/
theorem proved : Rows.FrameWritesCardSaid :=
  Claim7.holds_tied_plain_at .later [] [.data, .pinned] true (true, "dd957caea826dfd9588818920ea08f281d87fb61899cd75292fd604fb4911ede") false over (fun _ h => by cases h) (by kernel_rfl) (fun _ h => by cases h) frameWrites_row_tie rfl ⟨rfl, rfl⟩ (by kernel_rfl) rfl
    (fun f fn hf hfn => by
      obtain rfl : f = 4 := Option.some.inj ((show Tryd.prog.funcNamed "kymograph/kymographlaw03.FrameWrites" = some 4 by kernel_rfl).symm.trans hf) |>.symm
      obtain rfl : fn = Tryd.f4 := (Option.some.inj (Tryd.func4.symm.trans hfn)).symm
      exact ⟨by kernel_rfl, fun j t ht => by
        rw [Tryd.params4] at ht
        have hm : t ∈ [26, 26] := by simpa using Array.mem_of_getElem? ht
        have hall : ([26, 26].all fun u => !Tryd.prog.wantsStandIn u) = true := by kernel_rfl
        exact (show Tryd.prog.wantsStandIn t = false by simpa using List.all_eq_true.1 hall t hm)⟩)
    (by kernel_rfl)
#print axioms proved
end Go.Proofs.YtbjmcnmcodbkdaaDoor.lawFrameWrites
