/-
  The statement FrameJoins: its walk, and the walk brought to the given statement; no condition.
-/
import Derived.Test.YtbjmcnmcodbkdaaDoorH4
import Derived.Test.YtbjmcnmcodbkdaaDoorG8
import Derived.Test.YtbjmcnmcodbkdaaDoorRows
import Derived.Test.YtbjmcnmcodbkdaaDoorCards
import Derived.Test.YtbjmcnmcodbkdaaDoorTie
import Derived.Lay
import Derived.LaidOnce
import Derived.SevenTiedAt
import Derived.WalkKit
import Derived.ProofKit
import Derived.OpenShut
import Derived.ShutString
import Derived.ChangeOld
import Derived.Below

/-
  FrameWrites: the walk.
-/
namespace Go.Proofs.YtbjmcnmcodbkdaaDoor
open Go.RowKit Go.Sort
set_option linter.unusedVariables false

theorem toList_self (a : ByteArray) : (a.toList == a.toList) = true := by simp
set_option maxRecDepth 100000 in
set_option maxHeartbeats 8000000 in
theorem walkFrameWrites (f : Fr) (A : Option Addr) (c : Nat) (h : Fr) (B : Option Addr) (d : Nat) (W : World) (hr : f.list.length ≤ 4611686018427387904 → Rngs W A f.list.length f.list) (hs : h.list.length ≤ 4611686018427387904 → Rngs W B h.list.length h.list) :
    Calls Tryd.prog 4 #[fval A f.list.length c f, fval B h.list.length d h] W fun e w' => e = .returned (.bool true) ∧ Below W.heap.size W w' := by
  have HF := hide ((Blk.new W 26 (fcs A f.list.length c f)).alloc (.cells (fcs B h.list.length d h) 26))
  have HG : Hid (Blk ((W.alloc (.cells (fcs A f.list.length c f) 26)).alloc (.cells (fcs B h.list.length d h) 26)) (W.heap.size + 1) 26 (fcs B h.list.length d h)) := hide (by
    have := Blk.new (W.alloc (.cells (fcs A f.list.length c f) 26)) 26 (fcs B h.list.length d h)
    rw [World.size_alloc] at this
    exact this)
  have HM := hide (((Mod.refl [] W).alloc (.cells (fcs A f.list.length c f) 26)).alloc (.cells (fcs B h.list.length d h) 26))
  have HR := hide hr
  have HS := hide hs
  have HL := hide (fun w => large_any w A c f)
  have HK := hide (fun w => large_any w B d h)
  clear hr hs
  unfold fval fcs at *
  go_enter Tryd.func4, Tryd.ntmps4
  go_wp2_with fail
  refine (awake_any _).mono ?_
  rintro e0 w1 ⟨rfl, m⟩
  replace HF := hide (m.blk HF.out (by simp))
  replace HG := hide (m.blk HG.out (by simp))
  replace HM := hide (HM.out.trans m (by simp))
  clear m
  obtain ⟨p0, p1, p2, p3, p4, p5, p6, p7⟩ := c8 HF.out
  obtain ⟨q0, q1, q2, q3, q4, q5, q6, q7⟩ := c8 HG.out
  have lF := HF.out.lt
  have lG := HG.out.lt
  cases hlg : flarge f with
  | true =>
    have HLg := hide hlg
    clear hlg
    go_wp2_with fail
    refine (HL.out _ true HLg.out).mono ?_
    rintro e0 w2 ⟨rfl, m⟩
    replace HF := hide (m.blk HF.out (by simp))
    replace HG := hide (m.blk HG.out (by simp))
    replace HM := hide (HM.out.trans m (by simp))
    clear m p0 p1 p2 p3 p4 p5 p6 p7 q0 q1 q2 q3 q4 q5 q6 q7 lF lG
    obtain ⟨p0, p1, p2, p3, p4, p5, p6, p7⟩ := c8 HF.out
    obtain ⟨q0, q1, q2, q3, q4, q5, q6, q7⟩ := c8 HG.out
    have lF := HF.out.lt
    have lG := HG.out.lt
    go_wp2_with fail
    go_ret
    exact ⟨rfl, HM.out.below (Nat.le_refl _) (by simp)⟩
  | false =>
    have HLg := hide hlg
    have hl200 := (flarge_no hlg).2.2
    clear hlg
    go_wp2_with fail
    refine (HL.out _ false HLg.out).mono ?_
    rintro e0 w2 ⟨rfl, m⟩
    replace HF := hide (m.blk HF.out (by simp))
    replace HG := hide (m.blk HG.out (by simp))
    replace HM := hide (HM.out.trans m (by simp))
    clear m p0 p1 p2 p3 p4 p5 p6 p7 q0 q1 q2 q3 q4 q5 q6 q7 lF lG
    obtain ⟨p0, p1, p2, p3, p4, p5, p6, p7⟩ := c8 HF.out
    obtain ⟨q0, q1, q2, q3, q4, q5, q6, q7⟩ := c8 HG.out
    have lF := HF.out.lt
    have lG := HG.out.lt
    cases hlg : flarge h with
    | true =>
      have HKg := hide hlg
      clear hlg
      go_wp2_with fail
      refine (HK.out _ true HKg.out).mono ?_
      rintro e0 w3 ⟨rfl, m⟩
      replace HF := hide (m.blk HF.out (by simp))
      replace HG := hide (m.blk HG.out (by simp))
      replace HM := hide (HM.out.trans m (by simp))
      clear m p0 p1 p2 p3 p4 p5 p6 p7 q0 q1 q2 q3 q4 q5 q6 q7 lF lG
      obtain ⟨p0, p1, p2, p3, p4, p5, p6, p7⟩ := c8 HF.out
      obtain ⟨q0, q1, q2, q3, q4, q5, q6, q7⟩ := c8 HG.out
      have lF := HF.out.lt
      have lG := HG.out.lt
      go_wp2_with fail
      go_ret
      exact ⟨rfl, HM.out.below (Nat.le_refl _) (by simp)⟩
    | false =>
      have HKg := hide hlg
      have hk200 := (flarge_no hlg).2.2
      clear hlg
      go_wp2_with fail
      refine (HK.out _ false HKg.out).mono ?_
      rintro e0 w3 ⟨rfl, m⟩
      replace HF := hide (m.blk HF.out (by simp))
      replace HG := hide (m.blk HG.out (by simp))
      replace HM := hide (HM.out.trans m (by simp))
      clear m p0 p1 p2 p3 p4 p5 p6 p7 q0 q1 q2 q3 q4 q5 q6 q7 lF lG
      obtain ⟨p0, p1, p2, p3, p4, p5, p6, p7⟩ := c8 HF.out
      obtain ⟨q0, q1, q2, q3, q4, q5, q6, q7⟩ := c8 HG.out
      have lF := HF.out.lt
      have lG := HG.out.lt
      have HRf := hide (fun w (m : Mod [] W w) => (HR.out (by omega)).new m)
      have HRh := hide (fun w (m : Mod [] W w) => (HS.out (by omega)).new m)
      clear hl200 hk200
      have HW := hide (fun w (m : Mod [] W w) => fwrite_any w A f.list.length c f (HRf.out w m))
      have HV := hide (fun w (m : Mod [] W w) => rfwrite_any w A f.list.length c f (HRf.out w m))
      have HSz := hide (fun w (m : Mod [] W w) => size_any w A f.list.length c f (HRf.out w m))
      obtain ⟨S, hS, hSz, hSl⟩ := putB2 (fwS f)
      have hwb : wrB f = S := by unfold wrB; exact Value.string.inj hS
      unfold RWr at HV
      rw [hS] at HV
      rw [hwb] at HW
      rw [← hSz] at HSz
      obtain ⟨E, hE⟩ : ∃ E, fwE f = E := ⟨_, rfl⟩
      rw [hE] at HW HV
      obtain ⟨vm, hvm⟩ : ∃ v, fmay f = v := ⟨_, rfl⟩
      obtain ⟨va, hva⟩ : ∃ v, fasks f = v := ⟨_, rfl⟩
      obtain ⟨vs, hvs⟩ : ∃ v, fsame f h = v := ⟨_, rfl⟩
      have HMy := hide (fun w (m : Mod [] W w) => may_any w A f.list.length c f (HRf.out w m) vm hvm)
      have HRMy := hide (fun w (m : Mod [] W w) => rfmay_any w A f.list.length c f (HRf.out w m))
      rw [hvm] at HRMy
      have HAs := hide (fun w (m : Mod [] W w) => asks_any w A f.list.length c f (HRf.out w m) va hva)
      have HRAs := hide (fun w (m : Mod [] W w) => rfasks_any w A f.list.length c f (HRf.out w m) va hva)
      have HSa := hide (fun w (m : Mod [] W w) => same_any w A B f.list.length h.list.length c d f h (HRf.out w m) (HRh.out w m) vs hvs)
      have HRSa := hide (fun w (m : Mod [] W w) => rsame_any w A B f.list.length h.list.length c d f h (HRf.out w m) (HRh.out w m) vs hvs)
      have HSs := hide (fun w (m : Mod [] W w) => same_any w A A f.list.length f.list.length c c f f (HRf.out w m) (HRf.out w m) true (fsame_self f))
      unfold RPost at HMy HRMy HAs HRAs HRSa
      unfold fval fcs at HW HV HSz HMy HRMy HAs HRAs HSa HRSa HSs
      clear hS hSz hSl hwb hE hvm hva hvs
      go_wp2_with fail
      refine (HW.out _ HM.out).mono ?_
      rintro e0 w4 ⟨rfl, m⟩
      replace HF := hide (m.blk HF.out (by simp))
      replace HG := hide (m.blk HG.out (by simp))
      replace HM := hide (HM.out.trans m (by simp))
      clear m p0 p1 p2 p3 p4 p5 p6 p7 q0 q1 q2 q3 q4 q5 q6 q7 lF lG
      obtain ⟨p0, p1, p2, p3, p4, p5, p6, p7⟩ := c8 HF.out
      obtain ⟨q0, q1, q2, q3, q4, q5, q6, q7⟩ := c8 HG.out
      have lF := HF.out.lt
      have lG := HG.out.lt
      go_wp2_with fail
      refine (HV.out _ HM.out).mono ?_
      rintro e0 w5 ⟨rfl, m⟩
      replace HF := hide (m.blk HF.out (by simp))
      replace HG := hide (m.blk HG.out (by simp))
      replace HM := hide (HM.out.trans m (by simp))
      clear m p0 p1 p2 p3 p4 p5 p6 p7 q0 q1 q2 q3 q4 q5 q6 q7 lF lG
      obtain ⟨p0, p1, p2, p3, p4, p5, p6, p7⟩ := c8 HF.out
      obtain ⟨q0, q1, q2, q3, q4, q5, q6, q7⟩ := c8 HG.out
      have lF := HF.out.lt
      have lG := HG.out.lt
      have u0 := cell_regrown p0
      have v0 := cell_regrown q0
      have u1 := cell_regrown p1
      have v1 := cell_regrown q1
      have u2 := cell_regrown p2
      have v2 := cell_regrown q2
      have u3 := cell_regrown p3
      have v3 := cell_regrown q3
      have u4 := cell_regrown p4
      have v4 := cell_regrown q4
      have u5 := cell_regrown p5
      have v5 := cell_regrown q5
      have u6 := cell_regrown p6
      have v6 := cell_regrown q6
      have u7 := cell_regrown p7
      have v7 := cell_regrown q7
      have mg : ∀ d os, Mod [] W (grow (redrawn w5 d) os) := fun d os => HM.out.trans (Mod.of_below (F := []) (below_regrown w5 d os)) (by simp)
      have c1 : ∀ dd os, Calls Tryd.prog 19 #[.agg #[.int .u64 (f.kind : Nat), .int .u64 (f.a : Nat), .int .u64 (f.b : Nat), .int .u64 (f.c : Nat), .bool f.fin, .string f.data, .string f.more, .slice A f.list.length c]] (grow (redrawn w5 dd) os) fun e0 w'' => e0 = .returned (.int .i64 S.size) ∧ ∃ p : Regrown, w'' = grow (redrawn w5 p.d) p.os := fun dd os => Calls.regrown_of ((HSz.out _ (mg dd os)).mono fun _ _ h => ⟨h.1, h.2.below (Nat.le_refl _) (by simp)⟩)
      have c2 : ∀ dd os, Calls Tryd.prog 20 #[.agg #[.int .u64 (f.kind : Nat), .int .u64 (f.a : Nat), .int .u64 (f.b : Nat), .int .u64 (f.c : Nat), .bool f.fin, .string f.data, .string f.more, .slice A f.list.length c]] (grow (redrawn w5 dd) os) fun e0 w'' => e0 = .returned (.bool vm) ∧ ∃ p : Regrown, w'' = grow (redrawn w5 p.d) p.os := fun dd os => Calls.regrown_of ((HMy.out _ (mg dd os)).mono fun _ _ h => ⟨h.1, h.2.below (Nat.le_refl _) (by simp)⟩)
      have c3 : ∀ dd os, Calls Tryd.prog 21 #[.agg #[.int .u64 (f.kind : Nat), .int .u64 (f.a : Nat), .int .u64 (f.b : Nat), .int .u64 (f.c : Nat), .bool f.fin, .string f.data, .string f.more, .slice A f.list.length c]] (grow (redrawn w5 dd) os) fun e0 w'' => e0 = .returned (.bool vm) ∧ ∃ p : Regrown, w'' = grow (redrawn w5 p.d) p.os := fun dd os => Calls.regrown_of ((HRMy.out _ (mg dd os)).mono fun _ _ h => ⟨h.1, h.2.below (Nat.le_refl _) (by simp)⟩)
      have c4 : ∀ dd os, Calls Tryd.prog 22 #[.agg #[.int .u64 (f.kind : Nat), .int .u64 (f.a : Nat), .int .u64 (f.b : Nat), .int .u64 (f.c : Nat), .bool f.fin, .string f.data, .string f.more, .slice A f.list.length c]] (grow (redrawn w5 dd) os) fun e0 w'' => e0 = .returned (.bool va) ∧ ∃ p : Regrown, w'' = grow (redrawn w5 p.d) p.os := fun dd os => Calls.regrown_of ((HAs.out _ (mg dd os)).mono fun _ _ h => ⟨h.1, h.2.below (Nat.le_refl _) (by simp)⟩)
      have c5 : ∀ dd os, Calls Tryd.prog 23 #[.agg #[.int .u64 (f.kind : Nat), .int .u64 (f.a : Nat), .int .u64 (f.b : Nat), .int .u64 (f.c : Nat), .bool f.fin, .string f.data, .string f.more, .slice A f.list.length c]] (grow (redrawn w5 dd) os) fun e0 w'' => e0 = .returned (.bool va) ∧ ∃ p : Regrown, w'' = grow (redrawn w5 p.d) p.os := fun dd os => Calls.regrown_of ((HRAs.out _ (mg dd os)).mono fun _ _ h => ⟨h.1, h.2.below (Nat.le_refl _) (by simp)⟩)
      have c6 : ∀ dd os, Calls Tryd.prog 24 #[.agg #[.int .u64 (f.kind : Nat), .int .u64 (f.a : Nat), .int .u64 (f.b : Nat), .int .u64 (f.c : Nat), .bool f.fin, .string f.data, .string f.more, .slice A f.list.length c], .agg #[.int .u64 (h.kind : Nat), .int .u64 (h.a : Nat), .int .u64 (h.b : Nat), .int .u64 (h.c : Nat), .bool h.fin, .string h.data, .string h.more, .slice B h.list.length d]] (grow (redrawn w5 dd) os) fun e0 w'' => e0 = .returned (.bool vs) ∧ ∃ p : Regrown, w'' = grow (redrawn w5 p.d) p.os := fun dd os => Calls.regrown_of ((HSa.out _ (mg dd os)).mono fun _ _ h => ⟨h.1, h.2.below (Nat.le_refl _) (by simp)⟩)
      have c7 : ∀ dd os, Calls Tryd.prog 14 #[.agg #[.int .u64 (f.kind : Nat), .int .u64 (f.a : Nat), .int .u64 (f.b : Nat), .int .u64 (f.c : Nat), .bool f.fin, .string f.data, .string f.more, .slice A f.list.length c], .agg #[.int .u64 (h.kind : Nat), .int .u64 (h.a : Nat), .int .u64 (h.b : Nat), .int .u64 (h.c : Nat), .bool h.fin, .string h.data, .string h.more, .slice B h.list.length d]] (grow (redrawn w5 dd) os) fun e0 w'' => e0 = .returned (.bool vs) ∧ ∃ p : Regrown, w'' = grow (redrawn w5 p.d) p.os := fun dd os => Calls.regrown_of ((HRSa.out _ (mg dd os)).mono fun _ _ h => ⟨h.1, h.2.below (Nat.le_refl _) (by simp)⟩)
      have c8' : ∀ dd os, Calls Tryd.prog 24 #[.agg #[.int .u64 (f.kind : Nat), .int .u64 (f.a : Nat), .int .u64 (f.b : Nat), .int .u64 (f.c : Nat), .bool f.fin, .string f.data, .string f.more, .slice A f.list.length c], .agg #[.int .u64 (f.kind : Nat), .int .u64 (f.a : Nat), .int .u64 (f.b : Nat), .int .u64 (f.c : Nat), .bool f.fin, .string f.data, .string f.more, .slice A f.list.length c]] (grow (redrawn w5 dd) os) fun e0 w'' => e0 = .returned (.bool true) ∧ ∃ p : Regrown, w'' = grow (redrawn w5 p.d) p.os := fun dd os => Calls.regrown_of ((HSs.out _ (mg dd os)).mono fun _ _ h => ⟨h.1, h.2.below (Nat.le_refl _) (by simp)⟩)
      have C1 := hide c1
      have C2 := hide c2
      have C3 := hide c3
      have C4 := hide c4
      have C5 := hide c5
      have C6 := hide c6
      have C7 := hide c7
      have C8 := hide c8'
      have t1 := toList_self S
      have t2 : (E == E) = true := by simp
      have t3 : ((S.size : Int) == (S.size : Int)) = true := by simp
      clear c1 c2 c3 c4 c5 c6 c7 c8' mg HW HV HSz HMy HRMy HAs HRAs HSa HRSa HSs
      cases vm <;> cases va <;> cases vs
      all_goals
        go_wp2_with fail
        refine wp_region_below (by kernel_rfl) (by kernel_rfl) (by kernel_rfl) ?_
        repeat (go_big_quiet_step (first | with_reducible exact C1.out _ _ | with_reducible exact C2.out _ _ | with_reducible exact C3.out _ _ | with_reducible exact C4.out _ _ | with_reducible exact C5.out _ _ | with_reducible exact C6.out _ _ | with_reducible exact C7.out _ _ | with_reducible exact C8.out _ _))
        refine wpQuiet_nil ?_
        intro _ hw'
        obtain ⟨⟨dq, osq⟩, hw''⟩ := hw'
        subst hw''
        have HMi := hide (HM.out.trans (Mod.of_below (F := []) (below_regrown w5 dq osq)) (by simp))
        go_wp2_with fail
        go_ret
        exact ⟨rfl, HMi.out.below (Nat.le_refl _) (by simp)⟩
end Go.Proofs.YtbjmcnmcodbkdaaDoor

/-
  frames, plain: many are read as they were; what is read is bytes that were.
-/
namespace Go.Proofs.YtbjmcnmcodbkdaaDoor
open Go.RowKit

def fcat (l : List Fr) : List UInt8 := (l.map fbytes).flatten
theorem fjoinF_some : ∀ (l : List Fr) (prev : Option Fr) (s : List UInt8), fjoinF prev l = some s → s = fcat l ∧ (∀ f ∈ l, fmay f = true)
  | [], prev, s, h => by cases h; exact ⟨rfl, by simp⟩
  | f :: t, prev, s, h => by
    unfold fjoinF at h
    split at h
    · rename_i hx
      obtain ⟨u, h1, rfl⟩ := Option.map_eq_some_iff.1 h
      obtain ⟨rfl, h3⟩ := fjoinF_some t _ _ h1
      refine ⟨by simp [fcat], fun g hg => ?_⟩
      rcases List.mem_cons.1 hg with rfl | hg
      · unfold fnext at hx
        simp only [Bool.and_eq_true] at hx
        exact hx.1
      · exact h3 g hg
    · cases h
theorem fjoin_some {l : List Fr} {s : List UInt8} (h : fjoin l = some s) : l ≠ [] ∧ fjoinF none l = some s ∧ s = fcat l ∧ (∀ f ∈ l, fmay f = true) := by
  unfold fjoin at h
  split at h
  · cases h
  · rename_i hl
    obtain ⟨h1, h2⟩ := fjoinF_some _ _ _ h
    exact ⟨hl, h, h1, h2⟩
theorem fcat_len {l : List Fr} (h : ∀ f ∈ l, fmay f = true) : (fcat l).length ≤ 17000 * l.length := by
  induction l with
  | nil => simp [fcat]
  | cons f t ih =>
    have h1 := fbytes_le (h f (by simp))
    have h2 := ih (fun g hg => h g (by simp [hg]))
    have e : fcat (f :: t) = fbytes f ++ fcat t := by simp [fcat]
    rw [e, List.length_append, List.length_cons]
    omega
theorem fall_join : ∀ (l : List Fr) (prev : Option Fr) (s : List UInt8), l ≠ [] → fjoinF prev l = some s → fall s = some l
  | [], _, _, h, _ => absurd rfl h
  | f :: t, prev, s, _, h => by
    unfold fjoinF at h
    split at h
    · rename_i hx
      obtain ⟨u, h1, rfl⟩ := Option.map_eq_some_iff.1 h
      have hm : fmay f = true := by
        unfold fnext at hx
        simp only [Bool.and_eq_true] at hx
        exact hx.1
      cases t with
      | nil =>
        cases h1
        have h2 := fread_put hm [] (fun _ => .inr rfl)
        have := fall_some h2
        rw [if_pos rfl] at this
        exact this
      | cons g t' =>
        have h4 := h1
        unfold fjoinF at h1
        split at h1
        · rename_i hy
          obtain ⟨u', h5, rfl⟩ := Option.map_eq_some_iff.1 h1
          unfold fnext at hy
          simp only [Bool.and_eq_true, Bool.not_eq_true', Bool.and_eq_false_iff, decide_eq_false_iff_not] at hy
          have hne := fbytes_ne hy.1
          obtain ⟨b, tb, hb⟩ := List.exists_cons_of_ne_nil hne
          have hnz : NoZero f (fbytes g ++ u') := fun h0 => by
            right
            have hg0 : g.kind ≠ 0 := by
              rcases hy.2 with h | h
              · exact absurd h0 h
              · exact h
            have hb0 : b ≠ 0 := fun hz => hg0 (kind0_of hy.1 (t := tb) (by rw [hb, hz]))
            rw [hb]
            unfold zeros
            rw [List.cons_append, List.takeWhile_cons_of_neg (by simpa using hb0)]
            rfl
          have h2 := fread_put hm (fbytes g ++ u') hnz
          have h6 := fall_some h2
          rw [if_neg (by simp [hne])] at h6
          have ih := fall_join (g :: t') (some f) _ (by simp) h4
          rw [h6, ih]
          rfl
        · cases h1
    · cases h
theorem fallN_some : ∀ (k : Nat) (s : List UInt8) (l : List Fr), fallN k s = some l → s = fcat l ∧ (∀ f ∈ l, fmay f = true)
  | 0, s, l, h => by cases h
  | k + 1, s, l, h => by
    unfold fallN at h
    obtain ⟨x, h1, h2⟩ := Option.bind_eq_some_iff.1 h
    obtain ⟨hm, hs, _⟩ := fread_some (f := x.1) (r := x.2) h1
    split at h2
    · rename_i hr
      cases h2
      rw [hr, List.append_nil] at hs
      exact ⟨by rw [hs]; simp [fcat], by simpa using hm⟩
    · obtain ⟨t, h3, rfl⟩ := Option.map_eq_some_iff.1 h2
      obtain ⟨h4, h5⟩ := fallN_some k _ _ h3
      refine ⟨by rw [hs, h4]; simp [fcat], fun g hg => ?_⟩
      rcases List.mem_cons.1 hg with rfl | hg
      · exact hm
      · exact h5 g hg
theorem fall_bytes {s : List UInt8} {l : List Fr} (h : fall s = some l) : s = fcat l ∧ (∀ f ∈ l, fmay f = true) := fallN_some _ _ _ h
/-- the bytes so far -/
theorem fcat_step {l : List Fr} {j : Nat} {f : Fr} (h : l[j]? = some f) : fcat (l.take (j + 1)) = fcat (l.take j) ++ fbytes f := by
  obtain ⟨hj, rfl⟩ := List.getElem?_eq_some_iff.1 h
  rw [List.take_succ_eq_append_getElem hj]
  unfold fcat
  rw [List.map_append, List.flatten_append, List.map_cons, List.map_nil, List.flatten_cons, List.flatten_nil, List.append_nil]
theorem fcat_take_le {l : List Fr} (j : Nat) : (fcat (l.take j)).length ≤ (fcat l).length := by
  have : fcat l = fcat (l.take j) ++ fcat (l.drop j) := by
    unfold fcat
    rw [← List.flatten_append, ← List.map_append, List.take_append_drop]
  rw [this, List.length_append]
  omega
end Go.Proofs.YtbjmcnmcodbkdaaDoor

/-
  FrameJoins: the walk.
-/
namespace Go.Proofs.YtbjmcnmcodbkdaaDoor
open Go.RowKit

set_option maxRecDepth 100000 in
set_option maxHeartbeats 8000000 in
theorem walkFrameJoins (A : Option Addr) (c : Nat) (l : List FV) (W : World) (hr : FrsB W A l) (hn : l.length ≤ 9223372036854775807) :
    Calls Tryd.prog 5 #[.slice A l.length c] W fun e w' => e = .returned (.bool true) ∧ Below W.heap.size W w' := by
  obtain ⟨n, hne⟩ : ∃ n, l.length = n := ⟨_, rfl⟩
  have HN := hide hne
  have HR := hide hr
  rw [hne] at hn ⊢
  clear hr hne
  by_cases h40 : 40 < n
  · have h40i : (40 : Int) < n := by omega
    clear h40
    go_enter Tryd.func5, Tryd.ntmps5
    go_wp2_with fail
    refine (awake_any _).mono ?_
    rintro e w1 ⟨rfl, m1⟩
    go_wp2_with fail
    go_ret
    exact ⟨rfl, m1.below (Nat.le_refl _) (by simp)⟩
  · have h40i : ¬ (40 : Int) < n := by omega
    go_enter Tryd.func5, Tryd.ntmps5
    go_wp2_with fail
    refine (awake_any _).mono ?_
    rintro e w1 ⟨rfl, m1⟩
    have HM1 := hide m1
    clear m1
    go_wp2_with fail
    go_loopw [15] (fun iv wr => ∃ (j : Nat), j ≤ n ∧ iv = .int .i64 (j : Int) ∧ Hid (∀ i v, i < j → l[i]? = some v → flarge v.f = false) ∧ Hid (Mod [] W wr)) (fun iv _ => n - (intOf iv).toNat)
    case atStart => exact ⟨0, by omega, rfl, hide (fun i v h => by omega), HM1⟩
    case round =>
      obtain ⟨j, hj, rfl, hsm, hm⟩ := hrel
      by_cases h : j < n
      · obtain ⟨v, hv⟩ : ∃ v, l[j]? = some v := ⟨_, List.getElem?_eq_getElem (by have := HN.out; omega)⟩
        obtain ⟨g, o, rfl, hg, hc, hr⟩ := (HR.out.new hm.out).at_ hv
        have hnx : flarge v.f = false → ∀ i u, i < j + 1 → l[i]? = some u → flarge u.f = false := fun hf i u hi hu => by
          by_cases e : i = j
          · subst e
            rw [hv] at hu; cases hu; exact hf
          · exact hsm.out i u (by omega) hu
        obtain ⟨f, A1, c1⟩ := v
        simp only at hr hnx
        have HNx := hide hnx
        have HL := hide (fun v h => large_any wr A1 c1 f v h)
        unfold fval fcs at HL
        have y0 : wr.cell? ⟨g, o + j * 8, none⟩ = some (.int .u64 (f.kind : Nat)) := hc 0 _ rfl
        have y1 : wr.cell? ⟨g, o + j * 8 + 1, none⟩ = some (.int .u64 (f.a : Nat)) := hc 1 _ rfl
        have y2 : wr.cell? ⟨g, o + j * 8 + 2, none⟩ = some (.int .u64 (f.b : Nat)) := hc 2 _ rfl
        have y3 : wr.cell? ⟨g, o + j * 8 + 3, none⟩ = some (.int .u64 (f.c : Nat)) := hc 3 _ rfl
        have y4 : wr.cell? ⟨g, o + j * 8 + 4, none⟩ = some (.bool f.fin) := hc 4 _ rfl
        have y5 : wr.cell? ⟨g, o + j * 8 + 5, none⟩ = some (.string f.data) := hc 5 _ rfl
        have y6 : wr.cell? ⟨g, o + j * 8 + 6, none⟩ = some (.string f.more) := hc 6 _ rfl
        have y7 : wr.cell? ⟨g, o + j * 8 + 7, none⟩ = some (.slice A1 f.list.length c1) := hc 7 _ rfl
        clear hv hc hr hnx hsm
        cases hlg : flarge f with
        | true =>
          have HLg := hide hlg
          clear hlg
          go_wp2_with fail
          refine (HL.out true HLg.out).mono ?_
          rintro e w2 ⟨rfl, m2⟩
          have HM := hm.out.trans m2 (by simp)
          clear m2
          go_wp2_with fail
          go_ret
          exact ⟨rfl, HM.below (Nat.le_refl _) (by simp)⟩
        | false =>
          have HLg := hide hlg
          have HNy := hide (HNx.out hlg)
          clear hlg
          go_wp2_with fail
          refine (HL.out false HLg.out).mono ?_
          rintro e w2 ⟨rfl, m2⟩
          have HM2 := hide (hm.out.trans m2 (by simp))
          clear m2
          go_wp2_with fail
          refine ⟨?rel, ?measure⟩
          case rel => exact ⟨j + 1, by omega, by go_num, HNy, HM2⟩
          case measure => simp [intOf]; omega
      · have hjn : j = n := by omega
        subst hjn
        have hall : ∀ v ∈ l, flarge v.f = false := fun v hv => by
          obtain ⟨i, hi⟩ := List.getElem?_of_mem hv
          exact hsm.out i v (by have := (List.getElem?_eq_some_iff.1 hi).1; have := HN.out; omega) hi
        have hfrs := (HR.out.new hm.out).frs (by have := HN.out; omega) hall
        have hjo := join_any wr A c l hfrs (by have := HN.out; omega)
        have hrj := fun w2 (m : Mod [] wr w2) => rfjoin_any w2 A c l (hfrs.new m) (by have := HN.out; omega)
        rw [HN.out] at hjo hrj
        obtain ⟨L, hLe⟩ : ∃ L, l.map FV.f = L := ⟨_, rfl⟩
        rw [hLe] at hjo hrj
        unfold JPost at hjo hrj
        have hLn : L.length = j := by rw [← hLe, List.length_map, HN.out]
        have HLe := hide hLe
        have HLn := hide hLn
        have HFr := hide hfrs
        have HJo := hide hjo
        have HRj := hide hrj
        clear hsm hall hfrs hjo hrj hLe hLn
        obtain ⟨S, hS⟩ : ∃ S, joB L = S := ⟨_, rfl⟩
        obtain ⟨E, hE⟩ : ∃ E, joE L = E := ⟨_, rfl⟩
        rw [hS, hE] at HJo HRj
        have t1 := toList_self S
        have t2 : (E == E) = true := by simp
        clear hS hE
        go_wp2_with fail
        refine HJo.out.mono ?_
        rintro e w2 ⟨rfl, m2⟩
        have HM2 := hide (hm.out.trans m2 (by simp))
        have HR2 := hide (HRj.out w2 m2)
        clear m2
        go_wp2_with fail
        refine HR2.out.mono ?_
        rintro e w3 ⟨rfl, m3⟩
        have HM3 := hide (HM2.out.trans m3 (by simp))
        clear m3
        go_wp2_with fail
        go_ret
        exact ⟨rfl, HM3.out.below (Nat.le_refl _) (by simp)⟩
end Go.Proofs.YtbjmcnmcodbkdaaDoor

/-
  The row of 'FrameJoins': the walk's contract brought to the given statement.
-/
namespace Go.Proofs.YtbjmcnmcodbkdaaDoor.lawFrameJoins
open Go.ChangeShapes Go.WideShapes Go.ChangeAt Go.RowKit
open Go.ChangeMaps (open_string shut_string)
set_option linter.unusedVariables false

theorem own : ownKnob Tryd.prog.godebug = none := by kernel_rfl
theorem laidOut : laidOutB Tryd.prog = true := by kernel_rfl

set_option maxRecDepth 100000 in
theorem lifted (os : Os) (started : os.Started) (H : Type) (enc : TypeId × Value → H) :
    ReturnsInHanded {} Tryd.checked os 5 .any (fun w args => (Rows.frameJoinsSpec.pre enc Tryd.prog Tryd.f5 Rows.frameJoinsRow.domain false w args ∧ laidMetH Tryd.prog Rows.frameJoinsRow.laid w) ∧ sizedMet enc Tryd.prog Tryd.f5 (OpenSpec.ofChange Rows.frameJoinsSpec) false w args)
      (Rows.frameJoinsSpec.post enc Tryd.prog Tryd.f5 false true false false) := by
  refine returnsInHanded_of_change_and (C := Tryd.checked) (X := fun w _ => laidMetH Tryd.prog Rows.frameJoinsRow.laid w) (fun _ _ _ hh h => h.of_heap hh) own started (by kernel_rfl) Tryd.func5
    (ChangeSpec.witness_shaped (enc := enc) (C := Tryd.checked) (os := os) (X := fun w _ => laidMetH Tryd.prog Rows.frameJoinsRow.laid w) false (World.laidAll Tryd.prog os Rows.frameJoinsRow.laid) #[.slice none 0 0] 8 (World.laidAll_os _ _ _)
      (World.shaped_of_ZipB (by kernel_rfl) (by kernel_rfl)) (by kernel_rfl) (by kernel_rfl) (by kernel_rfl)
      (by rw [MakeChecks.laidMetH_plain _ _ _ (by kernel_rfl)]; exact laidMet_laidAll _ (by kernel_rfl) (by kernel_rfl))) ?_
  intro W base args ds gs before hval0 hW hcnd _ _ _
  have hval : ∀ (j : Nat) t v, Tryd.f5.params[j]? = some t → args[j]? = some v → Value.okWide Tryd.prog W .any base t v := hval0
  have hW' := hW
  obtain ⟨p, q, hA0, hV, rfl, hfz, hnd⟩ := hW
  have hA : DataW.TrodAll enc Tryd.prog W 0 (fun _ => true) true Tryd.f5.params.toList args.toList ds p := hA0
  rw [Tryd.params5] at hA hval
  obtain ⟨v0, vs0, d0, ds0, p0, q0, hargs, rfl, rfl, h0, r0⟩ := trodAll_cons hA
  obtain ⟨rfl, rfl, rfl⟩ := trodAll_nil r0
  obtain rfl : args = #[v0] := by cases args; simp_all
  obtain ⟨rfl, rfl⟩ := trodVars_none hV
  have k0 := h0
  have lt0 : ∀ x ∈ p0, x.block < W.heap.size := by obtain ⟨m, hm⟩ := k0; exact DataW.trod_lt m _ _ _ hm
  obtain ⟨A0, c0, l0, rfl, hr0, hn0⟩ := open_frames (hval 0 30 v0 rfl rfl) h0
  clear hA0 hval0
  refine (walkFrameJoins A0 c0 l0 W hr0 hn0).mono fun e W' ⟨he, bel⟩ => ?_
  subst he
  exact ⟨_, rfl, _, _, _, [], _, [], hW', trodAll_mk1 (shut_bool Tryd.underlying4 _), (trodAll_cons_mk (Below.trod laidOut (by kernel_rfl) (of_decide_eq_true (by kernel_rfl)) k0 bel lt0) trodAll_mk0), rfl, bel.frame _, fun h => by cases h⟩

theorem over : Rows.frameJoinsRow.holds Tryd.pinned (OpenSpec.ofChange Rows.frameJoinsSpec) :=
  OpenClaim.holds_of_wide 5 Tryd.f5 rfl rfl rfl rfl rfl rfl rfl ⟨rfl, rfl, rfl, rfl, rfl⟩ rfl rfl rfl rfl rfl (by kernel_rfl) Tryd.func5 (by kernel_rfl)
    (of_decide_eq_true (by kernel_rfl)) (by unfold Func.isWrapper; first | (rw [if_pos (by decide +kernel)]; kernel_rfl) | (rw [if_neg (by decide +kernel)]; exact ⟨rfl, rfl⟩))
    (fun os started H enc _ => lifted os started H enc)

/-- The statement: the card. -/
theorem proved : Rows.FrameJoinsCardSaid :=
  Claim7.holds_tied_plain_at .later [] [.data, .pinned] true (true, "dd957caea826dfd9588818920ea08f281d87fb61899cd75292fd604fb4911ede") false over (fun _ h => by cases h) (by kernel_rfl) (fun _ h => by cases h) frameJoins_row_tie rfl ⟨rfl, rfl⟩ (by kernel_rfl) rfl
    (fun f fn hf hfn => by
      obtain rfl : f = 5 := Option.some.inj ((show Tryd.prog.funcNamed "kymograph/kymographlaw03.FrameJoins" = some 5 by kernel_rfl).symm.trans hf) |>.symm
      obtain rfl : fn = Tryd.f5 := (Option.some.inj (Tryd.func5.symm.trans hfn)).symm
      exact ⟨by kernel_rfl, fun j t ht => by
        rw [Tryd.params5] at ht
        have hm : t ∈ [30] := by simpa using Array.mem_of_getElem? ht
        have hall : ([30].all fun u => !Tryd.prog.wantsStandIn u) = true := by kernel_rfl
        exact (show Tryd.prog.wantsStandIn t = false by simpa using List.all_eq_true.1 hall t hm)⟩)
    (by kernel_rfl)
#print axioms proved
end Go.Proofs.YtbjmcnmcodbkdaaDoor.lawFrameJoins
