/-
  The statement FrameSizes: its walk, and the walk brought to the given statement; no condition.
-/
import Derived.Test.YtbjmcnmcodbkdabDoorG8
import Derived.Test.YtbjmcnmcodbkdabDoorRows
import Derived.Test.YtbjmcnmcodbkdabDoorCards
import Derived.Test.YtbjmcnmcodbkdabDoorTie
import Derived.Lay
import Derived.LaidOnce
import Derived.SevenTiedAt
import Derived.WalkKit
import Derived.ProofKit
import Derived.OpenShut
import Derived.ShutString
import Derived.ChangeOld
import Derived.Below

/-
  frames, plain: many are read as they were; what is read is bytes that were.
-/
namespace Go.Proofs.YtbjmcnmcodbkdabDoor
open Go.RowKit

def fcat (l : List Fr) : List UInt8 := (l.map fbytes).flatten
theorem fjoinF_some : ∀ (l : List Fr) (prev : Option Fr) (s : List UInt8), fjoinF prev l = some s → s = fcat l ∧ (∀ f ∈ l, fmay f = true)
  | [], prev, s, h => by cases h; exact ⟨rfl, by simp⟩
  | f :: t, prev, s, h => by
    unfold fjoinF at h
    split at h
    · rename_i hx
      obtain ⟨u, h1, rfl⟩ := Option.map_eq_some_iff.1 h
      obtain ⟨rfl, h3⟩ := fjoinF_some t _ _ h1
      refine ⟨by simp [fcat], fun g hg => ?_⟩
      rcases List.mem_cons.1 hg with rfl | hg
      · unfold fnext at hx
        simp only [Bool.and_eq_true] at hx
        exact hx.1
      · exact h3 g hg
    · cases h
theorem fjoin_some {l : List Fr} {s : List UInt8} (h : fjoin l = some s) : l ≠ [] ∧ fjoinF none l = some s ∧ s = fcat l ∧ (∀ f ∈ l, fmay f = true) := by
  unfold fjoin at h
  split at h
  · cases h
  · rename_i hl
    obtain ⟨h1, h2⟩ := fjoinF_some _ _ _ h
    exact ⟨hl, h, h1, h2⟩
theorem fcat_len {l : List Fr} (h : ∀ f ∈ l, fmay f = true) : (fcat l).length ≤ 17000 * l.length := by
  induction l with
  | nil => simp [fcat]
  | cons f t ih =>
    have h1 := fbytes_le (h f (by simp))
    have h2 := ih (fun g hg => h g (by simp [hg]))
    have e : fcat (f :: t) = fbytes f ++ fcat t := by simp [fcat]
    rw [e, List.length_append, List.length_cons]
    omega
theorem fall_join : ∀ (l : List Fr) (prev : Option Fr) (s : List UInt8), l ≠ [] → fjoinF prev l = some s → fall s = some l
  | [], _, _, h, _ => absurd rfl h
  | f :: t, prev, s, _, h => by
    unfold fjoinF at h
    split at h
    · rename_i hx
      obtain ⟨u, h1, rfl⟩ := Option.map_eq_some_iff.1 h
      have hm : fmay f = true := by
        unfold fnext at hx
        simp only [Bool.and_eq_true] at hx
        exact hx.1
      cases t with
      | nil =>
        cases h1
        have h2 := fread_put hm [] (fun _ => .inr rfl)
        have := fall_some h2
        rw [if_pos rfl] at this
        exact this
      | cons g t' =>
        have h4 := h1
        unfold fjoinF at h1
        split at h1
        · rename_i hy
          obtain ⟨u', h5, rfl⟩ := Option.map_eq_some_iff.1 h1
          unfold fnext at hy
          simp only [Bool.and_eq_true, Bool.not_eq_true', Bool.and_eq_false_iff, decide_eq_false_iff_not] at hy
          have hne := fbytes_ne hy.1
          obtain ⟨b, tb, hb⟩ := List.exists_cons_of_ne_nil hne
          have hnz : NoZero f (fbytes g ++ u') := fun h0 => by
            right
            have hg0 : g.kind ≠ 0 := by
              rcases hy.2 with h | h
              · exact absurd h0 h
              · exact h
            have hb0 : b ≠ 0 := fun hz => hg0 (kind0_of hy.1 (t := tb) (by rw [hb, hz]))
            rw [hb]
            unfold zeros
            rw [List.cons_append, List.takeWhile_cons_of_neg (by simpa using hb0)]
            rfl
          have h2 := fread_put hm (fbytes g ++ u') hnz
          have h6 := fall_some h2
          rw [if_neg (by simp [hne])] at h6
          have ih := fall_join (g :: t') (some f) _ (by simp) h4
          rw [h6, ih]
          rfl
        · cases h1
    · cases h
theorem fallN_some : ∀ (k : Nat) (s : List UInt8) (l : List Fr), fallN k s = some l → s = fcat l ∧ (∀ f ∈ l, fmay f = true)
  | 0, s, l, h => by cases h
  | k + 1, s, l, h => by
    unfold fallN at h
    obtain ⟨x, h1, h2⟩ := Option.bind_eq_some_iff.1 h
    obtain ⟨hm, hs, _⟩ := fread_some (f := x.1) (r := x.2) h1
    split at h2
    · rename_i hr
      cases h2
      rw [hr, List.append_nil] at hs
      exact ⟨by rw [hs]; simp [fcat], by simpa using hm⟩
    · obtain ⟨t, h3, rfl⟩ := Option.map_eq_some_iff.1 h2
      obtain ⟨h4, h5⟩ := fallN_some k _ _ h3
      refine ⟨by rw [hs, h4]; simp [fcat], fun g hg => ?_⟩
      rcases List.mem_cons.1 hg with rfl | hg
      · exact hm
      · exact h5 g hg
theorem fall_bytes {s : List UInt8} {l : List Fr} (h : fall s = some l) : s = fcat l ∧ (∀ f ∈ l, fmay f = true) := fallN_some _ _ _ h
/-- the bytes so far -/
theorem fcat_step {l : List Fr} {j : Nat} {f : Fr} (h : l[j]? = some f) : fcat (l.take (j + 1)) = fcat (l.take j) ++ fbytes f := by
  obtain ⟨hj, rfl⟩ := List.getElem?_eq_some_iff.1 h
  rw [List.take_succ_eq_append_getElem hj]
  unfold fcat
  rw [List.map_append, List.flatten_append, List.map_cons, List.map_nil, List.flatten_cons, List.flatten_nil, List.append_nil]
theorem fcat_take_le {l : List Fr} (j : Nat) : (fcat (l.take j)).length ≤ (fcat l).length := by
  have : fcat l = fcat (l.take j) ++ fcat (l.drop j) := by
    unfold fcat
    rw [← List.flatten_append, ← List.map_append, List.take_append_drop]
  rw [this, List.length_append]
  omega
end Go.Proofs.YtbjmcnmcodbkdabDoor

/-
  frames, plain: how many bytes many have; what asks may be.
-/
namespace Go.Proofs.YtbjmcnmcodbkdabDoor
open Go.RowKit

def fsum (l : List Fr) : Nat := (l.map fun f => (fwS f).length).sum
theorem fwS_may {f : Fr} (h : fmay f = true) : fwS f = fbytes f := by unfold fwS; rw [h]; rfl
theorem fwS_not {f : Fr} (h : fmay f = false) : fwS f = [] := by unfold fwS; rw [h]; rfl
theorem fcat_sum {l : List Fr} (h : ∀ f ∈ l, fmay f = true) : (fcat l).length = fsum l := by
  induction l with
  | nil => rfl
  | cons f t ih =>
    have e : fcat (f :: t) = fbytes f ++ fcat t := by simp [fcat]
    rw [e, List.length_append, ih (fun g hg => h g (by simp [hg]))]
    simp [fsum, fwS_may (h f (by simp))]
theorem fsum_step {l : List Fr} {j : Nat} {f : Fr} (h : l[j]? = some f) : fsum (l.take (j + 1)) = fsum (l.take j) + (fwS f).length := by
  obtain ⟨hj, rfl⟩ := List.getElem?_eq_some_iff.1 h
  rw [List.take_succ_eq_append_getElem hj]
  unfold fsum
  rw [List.map_append, List.sum_append]
  simp only [List.map_cons, List.map_nil, List.sum_cons, List.sum_nil, Nat.add_zero]
theorem fwS_le (f : Fr) : (fwS f).length ≤ 17000 := by
  cases h : fmay f with
  | true => rw [fwS_may h]; exact fbytes_le h
  | false => rw [fwS_not h]; simp
theorem asks_may {f : Fr} (h : fasks f = true) : fmay f = true := by
  unfold fasks at h
  split at h
  · cases h
  · exact h
theorem fwS_pos {f : Fr} (h : fmay f = true) : 0 < (fwS f).length := by rw [fwS_may h]; exact List.length_pos_iff.2 (fbytes_ne h)
end Go.Proofs.YtbjmcnmcodbkdabDoor

/-
  FrameSizes: the walk.
-/
namespace Go.Proofs.YtbjmcnmcodbkdabDoor
open Go.RowKit Go.Sort

set_option maxRecDepth 100000 in
set_option maxHeartbeats 8000000 in
theorem walkFrameSizes (A : Option Addr) (c : Nat) (l : List FV) (W : World) (hr : FrsB W A l) (hn : l.length ≤ 9223372036854775807) :
    Calls Tryd.prog 3 #[.slice A l.length c] W fun e w' => e = .returned (.bool true) ∧ Below W.heap.size W w' := by
  obtain ⟨n, hne⟩ : ∃ n, l.length = n := ⟨_, rfl⟩
  have HN := hide hne
  have HR := hide hr
  rw [hne] at hn ⊢
  clear hr hne
  by_cases h40 : 40 < n
  · have h40i : (40 : Int) < n := by omega
    clear h40
    go_enter Tryd.func3, Tryd.ntmps3
    go_wp2_with fail
    refine (awake_any _).mono ?_
    rintro e w1 ⟨rfl, m1⟩
    go_wp2_with fail
    go_ret
    exact ⟨rfl, m1.below (Nat.le_refl _) (by simp)⟩
  · have h40i : ¬ (40 : Int) < n := by omega
    go_enter Tryd.func3, Tryd.ntmps3
    go_wp2_with fail
    refine (awake_any _).mono ?_
    rintro e w1 ⟨rfl, m1⟩
    have HM1 := hide m1
    clear m1
    go_wp2_with fail
    go_loopw [3, 14] (fun sv iv wr => ∃ (j : Nat) (s : Nat), j ≤ n ∧ sv = .int .i64 (s : Int) ∧ iv = .int .i64 (j : Int) ∧ Hid (∀ i v, i < j → l[i]? = some v → flarge v.f = false) ∧ Hid (s = fsum ((l.map FV.f).take j)) ∧ s ≤ 17000 * j ∧ Hid (Mod [] W wr)) (fun _ iv _ => n - (intOf iv).toNat)
    case atStart => exact ⟨0, 0, by omega, rfl, rfl, hide (fun i v h => by omega), hide (by simp [fsum]), by omega, HM1⟩
    case round =>
      obtain ⟨j, s, hj, rfl, rfl, hsm, hsum, hsb, hm⟩ := hrel
      by_cases h : j < n
      · obtain ⟨v, hv⟩ : ∃ v, l[j]? = some v := ⟨_, List.getElem?_eq_getElem (by have := HN.out; omega)⟩
        obtain ⟨g, o, rfl, hg, hc, hr⟩ := (HR.out.new hm.out).at_ hv
        have hnx : flarge v.f = false → ∀ i u, i < j + 1 → l[i]? = some u → flarge u.f = false := fun hf i u hi hu => by
          by_cases e : i = j
          · subst e
            rw [hv] at hu; cases hu; exact hf
          · exact hsm.out i u (by omega) hu
        have hst := fsum_step (l := l.map FV.f) (j := j) (f := v.f) (by rw [List.getElem?_map, hv]; rfl)
        obtain ⟨f, A1, c1⟩ := v
        simp only at hr hnx hst
        have HC := hide hc
        have HNx := hide hnx
        have HRr := hide hr
        have HL := hide (fun v h => large_any wr A1 c1 f v h)
        obtain ⟨z, hz⟩ : ∃ z, (fwS f).length = z := ⟨_, rfl⟩
        have hz17 : z ≤ 17000 := by rw [← hz]; exact fwS_le f
        obtain ⟨s2, hs2⟩ : ∃ s2, s + z = s2 := ⟨_, rfl⟩
        have hs2i : (s : Int) + z = (s2 : Nat) := by omega
        have hs2b : s2 ≤ 17000 * (j + 1) := by omega
        have HSum2 : Hid (s2 = fsum ((l.map FV.f).take (j + 1))) := hide (by rw [hst, ← hsum.out, hz, hs2])
        unfold fval fcs at HL
        have y0 : wr.cell? ⟨g, o + j * 8, none⟩ = some (.int .u64 (f.kind : Nat)) := hc 0 _ rfl
        have y1 : wr.cell? ⟨g, o + j * 8 + 1, none⟩ = some (.int .u64 (f.a : Nat)) := hc 1 _ rfl
        have y2 : wr.cell? ⟨g, o + j * 8 + 2, none⟩ = some (.int .u64 (f.b : Nat)) := hc 2 _ rfl
        have y3 : wr.cell? ⟨g, o + j * 8 + 3, none⟩ = some (.int .u64 (f.c : Nat)) := hc 3 _ rfl
        have y4 : wr.cell? ⟨g, o + j * 8 + 4, none⟩ = some (.bool f.fin) := hc 4 _ rfl
        have y5 : wr.cell? ⟨g, o + j * 8 + 5, none⟩ = some (.string f.data) := hc 5 _ rfl
        have y6 : wr.cell? ⟨g, o + j * 8 + 6, none⟩ = some (.string f.more) := hc 6 _ rfl
        have y7 : wr.cell? ⟨g, o + j * 8 + 7, none⟩ = some (.slice A1 f.list.length c1) := hc 7 _ rfl
        clear hv hc hr hnx hsm hst hs2 hsum
        cases hlg : flarge f with
        | true =>
          have HLg := hide hlg
          clear hlg
          go_wp2_with fail
          refine (HL.out true HLg.out).mono ?_
          rintro e w2 ⟨rfl, m2⟩
          have HM := hm.out.trans m2 (by simp)
          clear m2
          go_wp2_with fail
          go_ret
          exact ⟨rfl, HM.below (Nat.le_refl _) (by simp)⟩
        | false =>
          have HLg := hide hlg
          have HNy := hide (HNx.out hlg)
          have HR2 := hide (HRr.out (by have := flarge_no hlg; omega))
          clear hlg
          go_wp2_with fail
          refine (HL.out false HLg.out).mono ?_
          rintro e w2 ⟨rfl, m2⟩
          have HM2 := hide (hm.out.trans m2 (by simp))
          have HSize := hide (fun w (h : Rngs w A1 f.list.length f.list) => size_any w A1 f.list.length c1 f h)
          rw [hz] at HSize
          have HSz2 := hide (HSize.out w2 (HR2.out.new m2))
          have M2 := hide m2
          unfold fval fcs at HSz2
          clear m2 y0 y1 y2 y3 y4 y5 y6 y7
          have x0 : w2.cell? ⟨g, o + j * 8, none⟩ = some (.int .u64 (f.kind : Nat)) := (M2.out.cell (p := ⟨g, o + j * 8, none⟩) hg (by simp)).trans (HC.out 0 _ rfl)
          have x1 : w2.cell? ⟨g, o + j * 8 + 1, none⟩ = some (.int .u64 (f.a : Nat)) := (M2.out.cell (p := ⟨g, o + j * 8 + 1, none⟩) hg (by simp)).trans (HC.out 1 _ rfl)
          have x2 : w2.cell? ⟨g, o + j * 8 + 2, none⟩ = some (.int .u64 (f.b : Nat)) := (M2.out.cell (p := ⟨g, o + j * 8 + 2, none⟩) hg (by simp)).trans (HC.out 2 _ rfl)
          have x3 : w2.cell? ⟨g, o + j * 8 + 3, none⟩ = some (.int .u64 (f.c : Nat)) := (M2.out.cell (p := ⟨g, o + j * 8 + 3, none⟩) hg (by simp)).trans (HC.out 3 _ rfl)
          have x4 : w2.cell? ⟨g, o + j * 8 + 4, none⟩ = some (.bool f.fin) := (M2.out.cell (p := ⟨g, o + j * 8 + 4, none⟩) hg (by simp)).trans (HC.out 4 _ rfl)
          have x5 : w2.cell? ⟨g, o + j * 8 + 5, none⟩ = some (.string f.data) := (M2.out.cell (p := ⟨g, o + j * 8 + 5, none⟩) hg (by simp)).trans (HC.out 5 _ rfl)
          have x6 : w2.cell? ⟨g, o + j * 8 + 6, none⟩ = some (.string f.more) := (M2.out.cell (p := ⟨g, o + j * 8 + 6, none⟩) hg (by simp)).trans (HC.out 6 _ rfl)
          have x7 : w2.cell? ⟨g, o + j * 8 + 7, none⟩ = some (.slice A1 f.list.length c1) := (M2.out.cell (p := ⟨g, o + j * 8 + 7, none⟩) hg (by simp)).trans (HC.out 7 _ rfl)
          have xl : g < w2.heap.size := Nat.lt_of_lt_of_le hg M2.out.size
          go_wp2_with fail
          refine HSz2.out.mono ?_
          rintro e w3 ⟨rfl, m3⟩
          have HM3 := hide (HM2.out.trans m3 (by simp))
          have M3 := hide (M2.out.trans m3 (by simp))
          have HR3 := hide (HR2.out.new M3.out)
          clear m3 x0 x1 x2 x3 x4 x5 x6 x7 xl
          have u0 := cell_regrown (show w3.cell? ⟨g, o + j * 8, none⟩ = some (.int .u64 (f.kind : Nat)) from (M3.out.cell (p := ⟨g, o + j * 8, none⟩) hg (by simp)).trans (HC.out 0 _ rfl))
          have u1 := cell_regrown (show w3.cell? ⟨g, o + j * 8 + 1, none⟩ = some (.int .u64 (f.a : Nat)) from (M3.out.cell (p := ⟨g, o + j * 8 + 1, none⟩) hg (by simp)).trans (HC.out 1 _ rfl))
          have u2 := cell_regrown (show w3.cell? ⟨g, o + j * 8 + 2, none⟩ = some (.int .u64 (f.b : Nat)) from (M3.out.cell (p := ⟨g, o + j * 8 + 2, none⟩) hg (by simp)).trans (HC.out 2 _ rfl))
          have u3 := cell_regrown (show w3.cell? ⟨g, o + j * 8 + 3, none⟩ = some (.int .u64 (f.c : Nat)) from (M3.out.cell (p := ⟨g, o + j * 8 + 3, none⟩) hg (by simp)).trans (HC.out 3 _ rfl))
          have u4 := cell_regrown (show w3.cell? ⟨g, o + j * 8 + 4, none⟩ = some (.bool f.fin) from (M3.out.cell (p := ⟨g, o + j * 8 + 4, none⟩) hg (by simp)).trans (HC.out 4 _ rfl))
          have u5 := cell_regrown (show w3.cell? ⟨g, o + j * 8 + 5, none⟩ = some (.string f.data) from (M3.out.cell (p := ⟨g, o + j * 8 + 5, none⟩) hg (by simp)).trans (HC.out 5 _ rfl))
          have u6 := cell_regrown (show w3.cell? ⟨g, o + j * 8 + 6, none⟩ = some (.string f.more) from (M3.out.cell (p := ⟨g, o + j * 8 + 6, none⟩) hg (by simp)).trans (HC.out 6 _ rfl))
          have u7 := cell_regrown (show w3.cell? ⟨g, o + j * 8 + 7, none⟩ = some (.slice A1 f.list.length c1) from (M3.out.cell (p := ⟨g, o + j * 8 + 7, none⟩) hg (by simp)).trans (HC.out 7 _ rfl))
          cases hask : fasks f with
          | true =>
            have hmay := asks_may hask
            have hzi : decide ((0 : Int) < z) = true := decide_eq_true (by have := fwS_pos hmay; omega)
            have hzn : decide (0 < z) = true := decide_eq_true (by have := fwS_pos hmay; omega)
            have HAsk := hide (fun w (h : Rngs w A1 f.list.length f.list) => asks_any w A1 f.list.length c1 f h true hask)
            have HMay := hide (fun w (h : Rngs w A1 f.list.length f.list) => may_any w A1 f.list.length c1 f h true hmay)
            have mg : ∀ d os, Mod [] w3 (grow (redrawn w3 d) os) := fun d os => Mod.of_below (below_regrown w3 d os)
            have ca : ∀ d os, Calls Tryd.prog 8 #[fval A1 f.list.length c1 f] (grow (redrawn w3 d) os) fun e w'' => e = .returned (.bool true) ∧ ∃ p : Regrown, w'' = grow (redrawn w3 p.d) p.os := fun d os => Calls.regrown_of ((HAsk.out _ (HR3.out.new (mg d os))).mono fun _ _ h => ⟨h.1, h.2.below (Nat.le_refl _) (by simp)⟩)
            have cm : ∀ d os, Calls Tryd.prog 9 #[fval A1 f.list.length c1 f] (grow (redrawn w3 d) os) fun e w'' => e = .returned (.bool true) ∧ ∃ p : Regrown, w'' = grow (redrawn w3 p.d) p.os := fun d os => Calls.regrown_of ((HMay.out _ (HR3.out.new (mg d os))).mono fun _ _ h => ⟨h.1, h.2.below (Nat.le_refl _) (by simp)⟩)
            have cz : ∀ d os, Calls Tryd.prog 7 #[fval A1 f.list.length c1 f] (grow (redrawn w3 d) os) fun e w'' => e = .returned (.int .i64 (z : Nat)) ∧ ∃ p : Regrown, w'' = grow (redrawn w3 p.d) p.os := fun d os => Calls.regrown_of ((HSize.out _ (HR3.out.new (mg d os))).mono fun _ _ h => ⟨h.1, h.2.below (Nat.le_refl _) (by simp)⟩)
            have CA := hide ca
            have CM := hide cm
            have CZ := hide cz
            unfold fval fcs at CA CM CZ
            clear hask hmay hz ca cm cz mg HAsk HMay
            go_wp2_with fail
            refine wp_region_below (by kernel_rfl) (by kernel_rfl) (by kernel_rfl) ?_
            repeat (go_big_quiet_step (first | with_reducible exact CA.out _ _ | with_reducible exact CM.out _ _ | with_reducible exact CZ.out _ _))
            refine wpQuiet_nil ?_
            intro _ hw'
            obtain ⟨⟨dq, osq⟩, hw''⟩ := hw'
            subst hw''
            have HMi := hide (HM3.out.trans (Mod.of_below (F := []) (below_regrown w3 dq osq)) (by simp))
            go_wp2_with fail
            refine ⟨?rel, ?measure⟩
            case rel => exact ⟨j + 1, s2, by omega, by go_num, by go_num, HNy, HSum2, hs2b, HMi⟩
            case measure => simp [intOf]; omega
          | false =>
            cases hmay : fmay f with
            | true =>
              have hzi : decide ((0 : Int) < z) = true := decide_eq_true (by have := fwS_pos hmay; omega)
              have hzn : decide (0 < z) = true := decide_eq_true (by have := fwS_pos hmay; omega)
              have HAsk := hide (fun w (h : Rngs w A1 f.list.length f.list) => asks_any w A1 f.list.length c1 f h false hask)
              have HMay := hide (fun w (h : Rngs w A1 f.list.length f.list) => may_any w A1 f.list.length c1 f h true hmay)
              have mg : ∀ d os, Mod [] w3 (grow (redrawn w3 d) os) := fun d os => Mod.of_below (below_regrown w3 d os)
              have ca : ∀ d os, Calls Tryd.prog 8 #[fval A1 f.list.length c1 f] (grow (redrawn w3 d) os) fun e w'' => e = .returned (.bool false) ∧ ∃ p : Regrown, w'' = grow (redrawn w3 p.d) p.os := fun d os => Calls.regrown_of ((HAsk.out _ (HR3.out.new (mg d os))).mono fun _ _ h => ⟨h.1, h.2.below (Nat.le_refl _) (by simp)⟩)
              have cm : ∀ d os, Calls Tryd.prog 9 #[fval A1 f.list.length c1 f] (grow (redrawn w3 d) os) fun e w'' => e = .returned (.bool true) ∧ ∃ p : Regrown, w'' = grow (redrawn w3 p.d) p.os := fun d os => Calls.regrown_of ((HMay.out _ (HR3.out.new (mg d os))).mono fun _ _ h => ⟨h.1, h.2.below (Nat.le_refl _) (by simp)⟩)
              have cz : ∀ d os, Calls Tryd.prog 7 #[fval A1 f.list.length c1 f] (grow (redrawn w3 d) os) fun e w'' => e = .returned (.int .i64 (z : Nat)) ∧ ∃ p : Regrown, w'' = grow (redrawn w3 p.d) p.os := fun d os => Calls.regrown_of ((HSize.out _ (HR3.out.new (mg d os))).mono fun _ _ h => ⟨h.1, h.2.below (Nat.le_refl _) (by simp)⟩)
              have CA := hide ca
              have CM := hide cm
              have CZ := hide cz
              unfold fval fcs at CA CM CZ
              clear hask hmay hz ca cm cz mg HAsk HMay
              go_wp2_with fail
              refine wp_region_below (by kernel_rfl) (by kernel_rfl) (by kernel_rfl) ?_
              repeat (go_big_quiet_step (first | with_reducible exact CA.out _ _ | with_reducible exact CM.out _ _ | with_reducible exact CZ.out _ _))
              refine wpQuiet_nil ?_
              intro _ hw'
              obtain ⟨⟨dq, osq⟩, hw''⟩ := hw'
              subst hw''
              have HMi := hide (HM3.out.trans (Mod.of_below (F := []) (below_regrown w3 dq osq)) (by simp))
              go_wp2_with fail
              refine ⟨?rel, ?measure⟩
              case rel => exact ⟨j + 1, s2, by omega, by go_num, by go_num, HNy, HSum2, hs2b, HMi⟩
              case measure => simp [intOf]; omega
            | false =>
              have hzi : decide ((0 : Int) < z) = false := decide_eq_false (by rw [fwS_not hmay] at hz; simp at hz; omega)
              have hzn : decide (0 < z) = false := decide_eq_false (by rw [fwS_not hmay] at hz; simp at hz; omega)
              have HAsk := hide (fun w (h : Rngs w A1 f.list.length f.list) => asks_any w A1 f.list.length c1 f h false hask)
              have HMay := hide (fun w (h : Rngs w A1 f.list.length f.list) => may_any w A1 f.list.length c1 f h false hmay)
              have mg : ∀ d os, Mod [] w3 (grow (redrawn w3 d) os) := fun d os => Mod.of_below (below_regrown w3 d os)
              have ca : ∀ d os, Calls Tryd.prog 8 #[fval A1 f.list.length c1 f] (grow (redrawn w3 d) os) fun e w'' => e = .returned (.bool false) ∧ ∃ p : Regrown, w'' = grow (redrawn w3 p.d) p.os := fun d os => Calls.regrown_of ((HAsk.out _ (HR3.out.new (mg d os))).mono fun _ _ h => ⟨h.1, h.2.below (Nat.le_refl _) (by simp)⟩)
              have cm : ∀ d os, Calls Tryd.prog 9 #[fval A1 f.list.length c1 f] (grow (redrawn w3 d) os) fun e w'' => e = .returned (.bool false) ∧ ∃ p : Regrown, w'' = grow (redrawn w3 p.d) p.os := fun d os => Calls.regrown_of ((HMay.out _ (HR3.out.new (mg d os))).mono fun _ _ h => ⟨h.1, h.2.below (Nat.le_refl _) (by simp)⟩)
              have cz : ∀ d os, Calls Tryd.prog 7 #[fval A1 f.list.length c1 f] (grow (redrawn w3 d) os) fun e w'' => e = .returned (.int .i64 (z : Nat)) ∧ ∃ p : Regrown, w'' = grow (redrawn w3 p.d) p.os := fun d os => Calls.regrown_of ((HSize.out _ (HR3.out.new (mg d os))).mono fun _ _ h => ⟨h.1, h.2.below (Nat.le_refl _) (by simp)⟩)
              have CA := hide ca
              have CM := hide cm
              have CZ := hide cz
              unfold fval fcs at CA CM CZ
              clear hask hmay hz ca cm cz mg HAsk HMay
              go_wp2_with fail
              refine wp_region_below (by kernel_rfl) (by kernel_rfl) (by kernel_rfl) ?_
              repeat (go_big_quiet_step (first | with_reducible exact CA.out _ _ | with_reducible exact CM.out _ _ | with_reducible exact CZ.out _ _))
              refine wpQuiet_nil ?_
              intro _ hw'
              obtain ⟨⟨dq, osq⟩, hw''⟩ := hw'
              subst hw''
              have HMi := hide (HM3.out.trans (Mod.of_below (F := []) (below_regrown w3 dq osq)) (by simp))
              go_wp2_with fail
              refine ⟨?rel, ?measure⟩
              case rel => exact ⟨j + 1, s2, by omega, by go_num, by go_num, HNy, HSum2, hs2b, HMi⟩
              case measure => simp [intOf]; omega
      · have hjn : j = n := by omega
        subst hjn
        have hall : ∀ v ∈ l, flarge v.f = false := fun v hv => by
          obtain ⟨i, hi⟩ := List.getElem?_of_mem hv
          exact hsm.out i v (by have := (List.getElem?_eq_some_iff.1 hi).1; have := HN.out; omega) hi
        have hfrs := (HR.out.new hm.out).frs (by have := HN.out; omega) hall
        have hjo := join_any wr A c l hfrs (by have := HN.out; omega)
        rw [HN.out] at hjo
        obtain ⟨L, hLe⟩ : ∃ L, l.map FV.f = L := ⟨_, rfl⟩
        rw [hLe] at hjo
        have hss : s = fsum L := by
          rw [hsum.out, hLe, List.take_of_length_le]
          rw [← hLe, List.length_map, HN.out]; omega
        have HSS := hide hss
        have HJo := hide hjo
        clear hsm hall hfrs hjo hLe hsum hss
        go_wp2_with fail
        refine HJo.out.mono ?_
        rintro e w2 ⟨rfl, m2⟩
        have HM := hm.out.trans m2 (by simp)
        cases hjn2 : fjoin L with
        | none =>
          have e1 : joE L = 2 := by unfold joE; rw [hjn2]; rfl
          have e2 : joB L = ⟨#[]⟩ := by unfold joB; rw [hjn2]; rfl
          rw [e1, e2]
          clear m2 e1 e2 hjn2
          go_wp2_with fail
          go_ret
          exact ⟨rfl, HM.below (Nat.le_refl _) (by simp)⟩
        | some wj =>
          have e1 : joE L = 0 := by unfold joE; rw [hjn2]; rfl
          obtain ⟨B, hB⟩ : ∃ B, joB L = B := ⟨_, rfl⟩
          have e2 : B.data.toList = wj := by rw [← hB]; unfold joB; rw [hjn2]; rfl
          obtain ⟨q1, q2, q3, q4⟩ := fjoin_some hjn2
          have hBs : B.size = s := by rw [← bytes_len, e2, q3, fcat_sum q4, HSS.out]
          have hBi : ((B.size : Int) == (s : Int)) = true := by rw [hBs]; simp
          rw [e1, hB]
          clear m2 e1 e2 hjn2 hB q1 q2 q3 q4 hBs
          go_wp2_with fail
          go_ret
          exact ⟨rfl, HM.below (Nat.le_refl _) (by simp)⟩
end Go.Proofs.YtbjmcnmcodbkdabDoor

/-
  The row of 'FrameSizes': the walk's contract brought to the given statement.
-/
namespace Go.Proofs.YtbjmcnmcodbkdabDoor.lawFrameSizes
open Go.ChangeShapes Go.WideShapes Go.ChangeAt Go.RowKit
open Go.ChangeMaps (open_string shut_string)
set_option linter.unusedVariables false

theorem own : ownKnob Tryd.prog.godebug = none := by kernel_rfl
theorem laidOut : laidOutB Tryd.prog = true := by kernel_rfl

set_option maxRecDepth 100000 in
theorem lifted (os : Os) (started : os.Started) (H : Type) (enc : TypeId × Value → H) :
    ReturnsInHanded {} Tryd.checked os 3 .any (fun w args => (Rows.frameSizesSpec.pre enc Tryd.prog Tryd.f3 Rows.frameSizesRow.domain false w args ∧ laidMetH Tryd.prog Rows.frameSizesRow.laid w) ∧ sizedMet enc Tryd.prog Tryd.f3 (OpenSpec.ofChange Rows.frameSizesSpec) false w args)
      (Rows.frameSizesSpec.post enc Tryd.prog Tryd.f3 false true false false) := by
  refine returnsInHanded_of_change_and (C := Tryd.checked) (X := fun w _ => laidMetH Tryd.prog Rows.frameSizesRow.laid w) (fun _ _ _ hh h => h.of_heap hh) own started (by kernel_rfl) Tryd.func3
    (ChangeSpec.witness_shaped (enc := enc) (C := Tryd.checked) (os := os) (X := fun w _ => laidMetH Tryd.prog Rows.frameSizesRow.laid w) false (World.laidAll Tryd.prog os Rows.frameSizesRow.laid) #[.slice none 0 0] 8 (World.laidAll_os _ _ _)
      (World.shaped_of_ZipB (by kernel_rfl) (by kernel_rfl)) (by kernel_rfl) (by kernel_rfl) (by kernel_rfl)
      (by rw [MakeChecks.laidMetH_plain _ _ _ (by kernel_rfl)]; exact laidMet_laidAll _ (by kernel_rfl) (by kernel_rfl))) ?_
  intro W base args ds gs before hval0 hW hcnd _ _ _
  have hval : ∀ (j : Nat) t v, Tryd.f3.params[j]? = some t → args[j]? = some v → Value.okWide Tryd.prog W .any base t v := hval0
  have hW' := hW
  obtain ⟨p, q, hA0, hV, rfl, hfz, hnd⟩ := hW
  have hA : DataW.TrodAll enc Tryd.prog W 0 (fun _ => true) true Tryd.f3.params.toList args.toList ds p := hA0
  rw [Tryd.params3] at hA hval
  obtain ⟨v0, vs0, d0, ds0, p0, q0, hargs, rfl, rfl, h0, r0⟩ := trodAll_cons hA
  obtain ⟨rfl, rfl, rfl⟩ := trodAll_nil r0
  obtain rfl : args = #[v0] := by cases args; simp_all
  obtain ⟨rfl, rfl⟩ := trodVars_none hV
  have k0 := h0
  have lt0 : ∀ x ∈ p0, x.block < W.heap.size := by obtain ⟨m, hm⟩ := k0; exact DataW.trod_lt m _ _ _ hm
  obtain ⟨A0, c0, l0, rfl, hr0, hn0⟩ := open_frames (hval 0 22 v0 rfl rfl) h0
  clear hA0 hval0
  refine (walkFrameSizes A0 c0 l0 W hr0 hn0).mono fun e W' ⟨he, bel⟩ => ?_
  subst he
  exact ⟨_, rfl, _, _, _, [], _, [], hW', trodAll_mk1 (shut_bool Tryd.underlying4 _), (trodAll_cons_mk (Below.trod laidOut (by kernel_rfl) (of_decide_eq_true (by kernel_rfl)) k0 bel lt0) trodAll_mk0), rfl, bel.frame _, fun h => by cases h⟩

theorem over : Rows.frameSizesRow.holds Tryd.pinned (OpenSpec.ofChange Rows.frameSizesSpec) :=
  OpenClaim.holds_of_wide 3 Tryd.f3 rfl rfl rfl rfl rfl rfl rfl ⟨rfl, rfl, rfl, rfl, rfl⟩ rfl rfl rfl rfl rfl (by kernel_rfl) Tryd.func3 (by kernel_rfl)
    (of_decide_eq_true (by kernel_rfl)) (by unfold Func.isWrapper; first | (rw [if_pos (by decide +kernel)]; kernel_rfl) | (rw [if_neg (by decide +kernel)]; exact ⟨rfl, rfl⟩))
    (fun os started H enc _ => lifted os started H enc)

/-- The statement: the card. -/
theorem proved : Rows.FrameSizesCardSaid :=
  Claim7.holds_tied_plain_at .later [] [.data, .pinned] true (true, "1a129f03ed4e57cdaf93f86b7379db45aa3145e1b7231581e56638be29b369c0") false over (fun _ h => by cases h) (by kernel_rfl) (fun _ h => by cases h) frameSizes_row_tie rfl ⟨rfl, rfl⟩ (by kernel_rfl) rfl
    (fun f fn hf hfn => by
      obtain rfl : f = 3 := Option.some.inj ((show Tryd.prog.funcNamed "kymograph/kymographlaw03.FrameSizes" = some 3 by kernel_rfl).symm.trans hf) |>.symm
      obtain rfl : fn = Tryd.f3 := (Option.some.inj (Tryd.func3.symm.trans hfn)).symm
      exact ⟨by kernel_rfl, fun j t ht => by
        rw [Tryd.params3] at ht
        have hm : t ∈ [22] := by simpa using Array.mem_of_getElem? ht
        have hall : ([22].all fun u => !Tryd.prog.wantsStandIn u) = true := by kernel_rfl
        exact (show Tryd.prog.wantsStandIn t = false by simpa using List.all_eq_true.1 hall t hm)⟩)
    (by kernel_rfl)
#print axioms proved
end Go.Proofs.YtbjmcnmcodbkdabDoor.lawFrameSizes
