/-
  The statement FrameAll: its walk, and the walk brought to the given statement; no condition.
-/
import Derived.Test.YtbjmcnmcodbkdaaDoorG8
import Derived.Test.YtbjmcnmcodbkdaaDoorRows
import Derived.Test.YtbjmcnmcodbkdaaDoorCards
import Derived.Test.YtbjmcnmcodbkdaaDoorTie
import Derived.Lay
import Derived.LaidOnce
import Derived.SevenTiedAt
import Derived.WalkKit
import Derived.ProofKit
import Derived.OpenShut
import Derived.ShutString
import Derived.ChangeOld
import Derived.Below

/-
  frames, plain: many are read as they were; what is read is bytes that were.
-/
namespace Go.Proofs.YtbjmcnmcodbkdaaDoor
open Go.RowKit

def fcat (l : List Fr) : List UInt8 := (l.map fbytes).flatten
theorem fjoinF_some : ∀ (l : List Fr) (prev : Option Fr) (s : List UInt8), fjoinF prev l = some s → s = fcat l ∧ (∀ f ∈ l, fmay f = true)
  | [], prev, s, h => by cases h; exact ⟨rfl, by simp⟩
  | f :: t, prev, s, h => by
    unfold fjoinF at h
    split at h
    · rename_i hx
      obtain ⟨u, h1, rfl⟩ := Option.map_eq_some_iff.1 h
      obtain ⟨rfl, h3⟩ := fjoinF_some t _ _ h1
      refine ⟨by simp [fcat], fun g hg => ?_⟩
      rcases List.mem_cons.1 hg with rfl | hg
      · unfold fnext at hx
        simp only [Bool.and_eq_true] at hx
        exact hx.1
      · exact h3 g hg
    · cases h
theorem fjoin_some {l : List Fr} {s : List UInt8} (h : fjoin l = some s) : l ≠ [] ∧ fjoinF none l = some s ∧ s = fcat l ∧ (∀ f ∈ l, fmay f = true) := by
  unfold fjoin at h
  split at h
  · cases h
  · rename_i hl
    obtain ⟨h1, h2⟩ := fjoinF_some _ _ _ h
    exact ⟨hl, h, h1, h2⟩
theorem fcat_len {l : List Fr} (h : ∀ f ∈ l, fmay f = true) : (fcat l).length ≤ 17000 * l.length := by
  induction l with
  | nil => simp [fcat]
  | cons f t ih =>
    have h1 := fbytes_le (h f (by simp))
    have h2 := ih (fun g hg => h g (by simp [hg]))
    have e : fcat (f :: t) = fbytes f ++ fcat t := by simp [fcat]
    rw [e, List.length_append, List.length_cons]
    omega
theorem fall_join : ∀ (l : List Fr) (prev : Option Fr) (s : List UInt8), l ≠ [] → fjoinF prev l = some s → fall s = some l
  | [], _, _, h, _ => absurd rfl h
  | f :: t, prev, s, _, h => by
    unfold fjoinF at h
    split at h
    · rename_i hx
      obtain ⟨u, h1, rfl⟩ := Option.map_eq_some_iff.1 h
      have hm : fmay f = true := by
        unfold fnext at hx
        simp only [Bool.and_eq_true] at hx
        exact hx.1
      cases t with
      | nil =>
        cases h1
        have h2 := fread_put hm [] (fun _ => .inr rfl)
        have := fall_some h2
        rw [if_pos rfl] at this
        exact this
      | cons g t' =>
        have h4 := h1
        unfold fjoinF at h1
        split at h1
        · rename_i hy
          obtain ⟨u', h5, rfl⟩ := Option.map_eq_some_iff.1 h1
          unfold fnext at hy
          simp only [Bool.and_eq_true, Bool.not_eq_true', Bool.and_eq_false_iff, decide_eq_false_iff_not] at hy
          have hne := fbytes_ne hy.1
          obtain ⟨b, tb, hb⟩ := List.exists_cons_of_ne_nil hne
          have hnz : NoZero f (fbytes g ++ u') := fun h0 => by
            right
            have hg0 : g.kind ≠ 0 := by
              rcases hy.2 with h | h
              · exact absurd h0 h
              · exact h
            have hb0 : b ≠ 0 := fun hz => hg0 (kind0_of hy.1 (t := tb) (by rw [hb, hz]))
            rw [hb]
            unfold zeros
            rw [List.cons_append, List.takeWhile_cons_of_neg (by simpa using hb0)]
            rfl
          have h2 := fread_put hm (fbytes g ++ u') hnz
          have h6 := fall_some h2
          rw [if_neg (by simp [hne])] at h6
          have ih := fall_join (g :: t') (some f) _ (by simp) h4
          rw [h6, ih]
          rfl
        · cases h1
    · cases h
theorem fallN_some : ∀ (k : Nat) (s : List UInt8) (l : List Fr), fallN k s = some l → s = fcat l ∧ (∀ f ∈ l, fmay f = true)
  | 0, s, l, h => by cases h
  | k + 1, s, l, h => by
    unfold fallN at h
    obtain ⟨x, h1, h2⟩ := Option.bind_eq_some_iff.1 h
    obtain ⟨hm, hs, _⟩ := fread_some (f := x.1) (r := x.2) h1
    split at h2
    · rename_i hr
      cases h2
      rw [hr, List.append_nil] at hs
      exact ⟨by rw [hs]; simp [fcat], by simpa using hm⟩
    · obtain ⟨t, h3, rfl⟩ := Option.map_eq_some_iff.1 h2
      obtain ⟨h4, h5⟩ := fallN_some k _ _ h3
      refine ⟨by rw [hs, h4]; simp [fcat], fun g hg => ?_⟩
      rcases List.mem_cons.1 hg with rfl | hg
      · exact hm
      · exact h5 g hg
theorem fall_bytes {s : List UInt8} {l : List Fr} (h : fall s = some l) : s = fcat l ∧ (∀ f ∈ l, fmay f = true) := fallN_some _ _ _ h
/-- the bytes so far -/
theorem fcat_step {l : List Fr} {j : Nat} {f : Fr} (h : l[j]? = some f) : fcat (l.take (j + 1)) = fcat (l.take j) ++ fbytes f := by
  obtain ⟨hj, rfl⟩ := List.getElem?_eq_some_iff.1 h
  rw [List.take_succ_eq_append_getElem hj]
  unfold fcat
  rw [List.map_append, List.flatten_append, List.map_cons, List.map_nil, List.flatten_cons, List.flatten_nil, List.append_nil]
theorem fcat_take_le {l : List Fr} (j : Nat) : (fcat (l.take j)).length ≤ (fcat l).length := by
  have : fcat l = fcat (l.take j) ++ fcat (l.drop j) := by
    unfold fcat
    rw [← List.flatten_append, ← List.map_append, List.take_append_drop]
  rw [this, List.length_append]
  omega
end Go.Proofs.YtbjmcnmcodbkdaaDoor

/-
  FrameAll: the walk.
-/
namespace Go.Proofs.YtbjmcnmcodbkdaaDoor
open Go.RowKit Go.Sort

set_option maxRecDepth 100000 in
set_option maxHeartbeats 8000000 in
theorem walkFrameAll (A : Option Addr) (c : Nat) (l : List FV) (x : ByteArray) (_hx : x.size ≤ maxLen) (W : World) (hr : FrsB W A l) (hn : l.length ≤ 9223372036854775807) :
    Calls Tryd.prog 7 #[.slice A l.length c, .string x] W fun e w' => e = .returned (.bool true) ∧ Below W.heap.size W w' := by
  obtain ⟨n, hne⟩ : ∃ n, l.length = n := ⟨_, rfl⟩
  have HN := hide hne
  have HR := hide hr
  rw [hne] at hn ⊢
  clear hr hne
  by_cases h40 : 40 < n
  · have h40i : (40 : Int) < n := by omega
    clear h40
    go_enter Tryd.func7, Tryd.ntmps7
    go_wp2_with fail
    refine (awake_any _).mono ?_
    rintro e w1 ⟨rfl, m1⟩
    go_wp2_with fail
    go_ret
    exact ⟨rfl, m1.below (Nat.le_refl _) (by simp)⟩
  · have h40i : ¬ (40 : Int) < n := by omega
    by_cases hbig : 2048 < x.size
    · have hbi : (2048 : Int) < x.size := by omega
      clear hbig
      go_enter Tryd.func7, Tryd.ntmps7
      go_wp2_with fail
      refine (awake_any _).mono ?_
      rintro e w1 ⟨rfl, m1⟩
      go_wp2_with fail
      go_ret
      exact ⟨rfl, m1.below (Nat.le_refl _) (by simp)⟩
    · have hbi : ¬ (2048 : Int) < x.size := by omega
      go_enter Tryd.func7, Tryd.ntmps7
      go_wp2_with fail
      refine (awake_any _).mono ?_
      rintro e w1 ⟨rfl, m1⟩
      have HM1 := hide m1
      clear m1
      go_wp2_with fail
      go_loopw [29] (fun iv wr => ∃ (j : Nat), j ≤ n ∧ iv = .int .i64 (j : Int) ∧ Hid (∀ i v, i < j → l[i]? = some v → flarge v.f = false) ∧ Hid (Mod [] W wr)) (fun iv _ => n - (intOf iv).toNat)
      case atStart => exact ⟨0, by omega, rfl, hide (fun i v h => by omega), HM1⟩
      case round =>
        obtain ⟨j, hj, rfl, hsm, hm⟩ := hrel
        by_cases h : j < n
        · obtain ⟨v, hv⟩ : ∃ v, l[j]? = some v := ⟨_, List.getElem?_eq_getElem (by have := HN.out; omega)⟩
          obtain ⟨g, o, rfl, hg, hc, hr⟩ := (HR.out.new hm.out).at_ hv
          have hnx : flarge v.f = false → ∀ i u, i < j + 1 → l[i]? = some u → flarge u.f = false := fun hf i u hi hu => by
            by_cases e : i = j
            · subst e
              rw [hv] at hu; cases hu; exact hf
            · exact hsm.out i u (by omega) hu
          obtain ⟨f, A1, c1⟩ := v
          simp only at hr hnx
          have HNx := hide hnx
          have HL := hide (fun v h => large_any wr A1 c1 f v h)
          unfold fval fcs at HL
          have y0 : wr.cell? ⟨g, o + j * 8, none⟩ = some (.int .u64 (f.kind : Nat)) := hc 0 _ rfl
          have y1 : wr.cell? ⟨g, o + j * 8 + 1, none⟩ = some (.int .u64 (f.a : Nat)) := hc 1 _ rfl
          have y2 : wr.cell? ⟨g, o + j * 8 + 2, none⟩ = some (.int .u64 (f.b : Nat)) := hc 2 _ rfl
          have y3 : wr.cell? ⟨g, o + j * 8 + 3, none⟩ = some (.int .u64 (f.c : Nat)) := hc 3 _ rfl
          have y4 : wr.cell? ⟨g, o + j * 8 + 4, none⟩ = some (.bool f.fin) := hc 4 _ rfl
          have y5 : wr.cell? ⟨g, o + j * 8 + 5, none⟩ = some (.string f.data) := hc 5 _ rfl
          have y6 : wr.cell? ⟨g, o + j * 8 + 6, none⟩ = some (.string f.more) := hc 6 _ rfl
          have y7 : wr.cell? ⟨g, o + j * 8 + 7, none⟩ = some (.slice A1 f.list.length c1) := hc 7 _ rfl
          clear hv hc hr hnx hsm
          cases hlg : flarge f with
          | true =>
            have HLg := hide hlg
            clear hlg
            go_wp2_with fail
            refine (HL.out true HLg.out).mono ?_
            rintro e w2 ⟨rfl, m2⟩
            have HM := hm.out.trans m2 (by simp)
            clear m2
            go_wp2_with fail
            go_ret
            exact ⟨rfl, HM.below (Nat.le_refl _) (by simp)⟩
          | false =>
            have HLg := hide hlg
            have HNy := hide (HNx.out hlg)
            clear hlg
            go_wp2_with fail
            refine (HL.out false HLg.out).mono ?_
            rintro e w2 ⟨rfl, m2⟩
            have HM2 := hide (hm.out.trans m2 (by simp))
            clear m2
            go_wp2_with fail
            refine ⟨?rel, ?measure⟩
            case rel => exact ⟨j + 1, by omega, by go_num, HNy, HM2⟩
            case measure => simp [intOf]; omega
        · have hjn : j = n := by omega
          subst hjn
          have hall : ∀ v ∈ l, flarge v.f = false := fun v hv => by
            obtain ⟨i, hi⟩ := List.getElem?_of_mem hv
            exact hsm.out i v (by have := (List.getElem?_eq_some_iff.1 hi).1; have := HN.out; omega) hi
          have hfrs := (HR.out.new hm.out).frs (by have := HN.out; omega) hall
          have hjo := join_any wr A c l hfrs (by have := HN.out; omega)
          rw [HN.out] at hjo
          obtain ⟨L, hLe⟩ : ∃ L, l.map FV.f = L := ⟨_, rfl⟩
          rw [hLe] at hjo
          have hLn : L.length = j := by rw [← hLe, List.length_map, HN.out]
          have HLe := hide hLe
          have HLn := hide hLn
          have HFr := hide hfrs
          have HJo := hide hjo
          clear hsm hall hfrs hjo hLe hLn
          go_wp2_with fail
          refine HJo.out.mono ?_
          rintro e w2 ⟨rfl, m2⟩
          have HM2 := hide (hm.out.trans m2 (by simp))
          cases hjn2 : fjoin L with
          | none =>
            have e1 : joE L = 2 := by unfold joE; rw [hjn2]; rfl
            have e2 : joB L = ⟨#[]⟩ := by unfold joB; rw [hjn2]; rfl
            rw [e1, e2]
            have HM0 := HM2
            clear m2 e1 e2 hjn2
            go_wp2_with fail
            refine (all_any w2 x (by omega)).mono ?_
            rintro e w7 ⟨m7, hpo⟩
            have HM7 := hide (HM0.out.trans m7 (by simp))
            cases hfa : fall x.data.toList with
            | none =>
              rw [hfa] at hpo
              simp only at hpo
              subst hpo
              have HM := HM7.out
              clear m7 hfa
              go_wp2_with fail
              go_ret
              exact ⟨rfl, HM.below (Nat.le_refl _) (by simp)⟩
            | some L2 =>
              rw [hfa] at hpo
              obtain ⟨vs2, A2, c2, hv2, rfl, ho2, hl2⟩ := hpo
              obtain ⟨hx2, hm2⟩ := fall_bytes hfa
              have hxs : x.data.toList.length = x.size := bytes_len x
              have hfrs := ho2.frs (by omega)
              obtain ⟨n2, hn2⟩ : ∃ n2, vs2.length = n2 := ⟨_, rfl⟩
              have HN2 := hide hn2
              have HF2 := hide hfrs
              have HX2 := hide hx2
              have HMay2 := hide hm2
              have HV2 := hide hv2
              have HXS := hide hxs
              have hn2b : n2 ≤ 2048 := by omega
              rw [hn2]
              clear m7 hfa ho2 hl2 hx2 hm2 hxs hfrs hn2 hv2
              go_wp2_with fail
              go_loopw [13, 87] (fun sv iv wr => ∃ (j : Nat) (acc : ByteArray), j ≤ n2 ∧ sv = .string acc ∧ iv = .int .i64 (j : Int) ∧ Hid (acc.data.toList = fcat (L2.take j)) ∧ Hid (Mod [] w7 wr)) (fun _ iv _ => n2 - (intOf iv).toNat)
              case atStart => exact ⟨0, ⟨#[]⟩, by omega, rfl, rfl, hide (by simp [fcat]), hide (Mod.refl _ _)⟩
              case round =>
                obtain ⟨j, acc, hj, rfl, rfl, hacc, hm⟩ := hrel
                by_cases h : j < n2
                · obtain ⟨v, hv⟩ : ∃ v, vs2[j]? = some v := ⟨_, List.getElem?_eq_getElem (by have := HN2.out; omega)⟩
                  obtain ⟨g2, o2, rfl, hg2, hc2, hr2⟩ := (HF2.out.new hm.out).at_ hv
                  have hL2 : L2[j]? = some v.f := by rw [← HV2.out, List.getElem?_map, hv]; rfl
                  have hmv := HMay2.out v.f (List.mem_of_getElem? hL2)
                  have hst := fcat_step hL2
                  obtain ⟨f2, A3, c3⟩ := v
                  simp only at hr2 hL2 hmv hst
                  obtain ⟨he1, he2⟩ := fw_of f2 true hmv
                  simp only [if_true] at he1 he2
                  obtain ⟨S, hS⟩ : ∃ S : ByteArray, (⟨(fbytes f2).toArray⟩ : ByteArray) = S := ⟨_, rfl⟩
                  have hacc2 : (acc ++ S).data.toList = fcat (L2.take (j + 1)) := by rw [hst, ← hacc.out, ← hS]; simp
                  have hsz : acc.size + S.size ≤ 2048 := by
                    have h1 := bytes_len (acc ++ S)
                    rw [ByteArray.size_append, hacc2] at h1
                    have h3 := fcat_take_le (l := L2) (j + 1)
                    rw [← HX2.out, HXS.out] at h3
                    omega
                  rw [hS] at he2
                  have HW := hide (fwrite_any wr A3 f2.list.length c3 f2 hr2)
                  rw [he1, he2] at HW
                  have HAcc2 := hide hacc2
                  have k1 : ¬ 9223372036854775807 < acc.size + S.size := by omega
                  unfold fval fcs at HW
                  have y0 : wr.cell? ⟨g2, o2 + j * 8, none⟩ = some (.int .u64 (f2.kind : Nat)) := hc2 0 _ rfl
                  have y1 : wr.cell? ⟨g2, o2 + j * 8 + 1, none⟩ = some (.int .u64 (f2.a : Nat)) := hc2 1 _ rfl
                  have y2 : wr.cell? ⟨g2, o2 + j * 8 + 2, none⟩ = some (.int .u64 (f2.b : Nat)) := hc2 2 _ rfl
                  have y3 : wr.cell? ⟨g2, o2 + j * 8 + 3, none⟩ = some (.int .u64 (f2.c : Nat)) := hc2 3 _ rfl
                  have y4 : wr.cell? ⟨g2, o2 + j * 8 + 4, none⟩ = some (.bool f2.fin) := hc2 4 _ rfl
                  have y5 : wr.cell? ⟨g2, o2 + j * 8 + 5, none⟩ = some (.string f2.data) := hc2 5 _ rfl
                  have y6 : wr.cell? ⟨g2, o2 + j * 8 + 6, none⟩ = some (.string f2.more) := hc2 6 _ rfl
                  have y7 : wr.cell? ⟨g2, o2 + j * 8 + 7, none⟩ = some (.slice A3 f2.list.length c3) := hc2 7 _ rfl
                  clear hc2 hr2 hL2 hmv hst he1 he2 hS hacc2 hacc hsz
                  go_wp2_with fail
                  refine HW.out.mono ?_
                  rintro e w9 ⟨rfl, m9⟩
                  have HM9 := hide (hm.out.trans m9 (by simp))
                  clear m9
                  go_wp2_with fail
                  refine ⟨?rel, ?measure⟩
                  case rel => exact ⟨j + 1, _, by omega, rfl, by go_num, HAcc2, HM9⟩
                  case measure => simp [intOf]; omega
                · have hjn : j = n2 := by omega
                  have hE : acc = x := bytes_eq (by
                    rw [hacc.out, HX2.out, List.take_of_length_le]
                    rw [← HV2.out, List.length_map, HN2.out]; omega)
                  subst hE
                  have HM := HM7.out.trans hm.out (by simp)
                  clear hacc hm
                  go_wp2_with fail
                  go_ret
                  refine ⟨?_, HM.below (Nat.le_refl _) (by simp)⟩
                  first | rfl | simp
          | some wj =>
            have e1 : joE L = 0 := by unfold joE; rw [hjn2]; rfl
            obtain ⟨B, hB⟩ : ∃ B, joB L = B := ⟨_, rfl⟩
            have e2 : B.data.toList = wj := by rw [← hB]; unfold joB; rw [hjn2]; rfl
            obtain ⟨q1, q2, q3, q4⟩ := fjoin_some hjn2
            have hfl := fall_join L none wj q1 q2
            have hBs : B.size ≤ 1000000 := by
              rw [← bytes_len, e2, q3]
              have := fcat_len q4
              have := HLn.out
              omega
            rw [e1, hB]
            have HAl := hide (all_any w2 B hBs)
            rw [e2] at HAl
            have HFl := hide hfl
            have HFr2 := hide (HFr.out.new m2)
            clear m2 e1 e2 hjn2 hB q1 q2 q3 q4 hfl hBs
            go_wp2_with fail
            refine HAl.out.mono ?_
            rintro e w3 ⟨m3, hpo⟩
            rw [HFl.out] at hpo
            obtain ⟨vs, Av, cv, hvs, rfl, hov, hlv⟩ := hpo
            have HM3 := hide (HM2.out.trans m3 (by simp))
            have hvn : vs.length = j := by rw [← HLn.out, ← hvs, List.length_map]
            have HVN := hide hvn
            have HVS := hide hvs
            have HOv := hide (hov.frs (by omega))
            have HFr3 := hide (HFr2.out.new m3)
            rw [hvn]
            clear m3 hvs hov hlv hvn
            go_wp2_with fail
            go_loopw [61] (fun iv wr => ∃ (i : Nat), i ≤ j ∧ iv = .int .i64 (i : Int) ∧ Hid (Mod [] w3 wr)) (fun iv _ => j - (intOf iv).toNat)
            case atStart => exact ⟨0, by omega, rfl, hide (Mod.refl _ _)⟩
            case round =>
              obtain ⟨i, hi, rfl, hmi⟩ := hrel
              by_cases h2 : i < j
              · obtain ⟨u, hu⟩ : ∃ u, vs[i]? = some u := ⟨_, List.getElem?_eq_getElem (by have := HVN.out; omega)⟩
                obtain ⟨v, hv⟩ : ∃ v, l[i]? = some v := ⟨_, List.getElem?_eq_getElem (by have := HN.out; omega)⟩
                have huv : u.f = v.f := by
                  have h3 : (vs.map FV.f)[i]? = some u.f := by rw [List.getElem?_map, hu]; rfl
                  have h4 : (l.map FV.f)[i]? = some v.f := by rw [List.getElem?_map, hv]; rfl
                  rw [HVS.out] at h3
                  rw [HLe.out, h3] at h4
                  exact Option.some.inj h4
                obtain ⟨g, o, rfl, hg, hc, hr⟩ := (HOv.out.new hmi.out).at_ hu
                obtain ⟨g', o', rfl, hg', hc', hr'⟩ := (HFr3.out.new hmi.out).at_ hv
                obtain ⟨f, A1, c1⟩ := u
                obtain ⟨f', A2, c2⟩ := v
                simp only at huv hr hr'
                subst huv
                have cs : ∀ d os, Calls Tryd.prog 24 #[fval A1 f.list.length c1 f, fval A2 f.list.length c2 f] (grow (redrawn wr d) os) fun e w'' => e = .returned (.bool true) ∧ ∃ p : Regrown, w'' = grow (redrawn wr p.d) p.os := fun d os => by
                  have mm : Mod [] wr (grow (redrawn wr d) os) := Mod.of_below (below_regrown wr d os)
                  exact Calls.regrown_of ((same_any _ A1 A2 f.list.length f.list.length c1 c2 f f (hr.new mm) (hr'.new mm) true (fsame_iff.2 rfl)).mono fun _ _ h => ⟨h.1, h.2.below (Nat.le_refl _) (by simp)⟩)
                have CS := hide cs
                unfold fval fcs at CS
                have y0 := cell_regrown (show wr.cell? ⟨g, o + i * 8, none⟩ = some (.int .u64 (f.kind : Nat)) from hc 0 _ rfl)
                have y1 := cell_regrown (show wr.cell? ⟨g, o + i * 8 + 1, none⟩ = some (.int .u64 (f.a : Nat)) from hc 1 _ rfl)
                have y2 := cell_regrown (show wr.cell? ⟨g, o + i * 8 + 2, none⟩ = some (.int .u64 (f.b : Nat)) from hc 2 _ rfl)
                have y3 := cell_regrown (show wr.cell? ⟨g, o + i * 8 + 3, none⟩ = some (.int .u64 (f.c : Nat)) from hc 3 _ rfl)
                have y4 := cell_regrown (show wr.cell? ⟨g, o + i * 8 + 4, none⟩ = some (.bool f.fin) from hc 4 _ rfl)
                have y5 := cell_regrown (show wr.cell? ⟨g, o + i * 8 + 5, none⟩ = some (.string f.data) from hc 5 _ rfl)
                have y6 := cell_regrown (show wr.cell? ⟨g, o + i * 8 + 6, none⟩ = some (.string f.more) from hc 6 _ rfl)
                have y7 := cell_regrown (show wr.cell? ⟨g, o + i * 8 + 7, none⟩ = some (.slice A1 f.list.length c1) from hc 7 _ rfl)
                have z0 := cell_regrown (show wr.cell? ⟨g', o' + i * 8, none⟩ = some (.int .u64 (f.kind : Nat)) from hc' 0 _ rfl)
                have z1 := cell_regrown (show wr.cell? ⟨g', o' + i * 8 + 1, none⟩ = some (.int .u64 (f.a : Nat)) from hc' 1 _ rfl)
                have z2 := cell_regrown (show wr.cell? ⟨g', o' + i * 8 + 2, none⟩ = some (.int .u64 (f.b : Nat)) from hc' 2 _ rfl)
                have z3 := cell_regrown (show wr.cell? ⟨g', o' + i * 8 + 3, none⟩ = some (.int .u64 (f.c : Nat)) from hc' 3 _ rfl)
                have z4 := cell_regrown (show wr.cell? ⟨g', o' + i * 8 + 4, none⟩ = some (.bool f.fin) from hc' 4 _ rfl)
                have z5 := cell_regrown (show wr.cell? ⟨g', o' + i * 8 + 5, none⟩ = some (.string f.data) from hc' 5 _ rfl)
                have z6 := cell_regrown (show wr.cell? ⟨g', o' + i * 8 + 6, none⟩ = some (.string f.more) from hc' 6 _ rfl)
                have z7 := cell_regrown (show wr.cell? ⟨g', o' + i * 8 + 7, none⟩ = some (.slice A2 f.list.length c2) from hc' 7 _ rfl)
                clear hu hv hc hc' hr hr' cs
                go_wp2_with fail
                refine wp_region_below (by kernel_rfl) (by kernel_rfl) (by kernel_rfl) ?_
                repeat (go_big_quiet_step (with_reducible exact CS.out _ _))
                refine wpQuiet_nil ?_
                intro _ hw'
                obtain ⟨⟨dq, osq⟩, hw''⟩ := hw'
                subst hw''
                have HMi := hide (hmi.out.trans (Mod.of_below (F := []) (below_regrown wr dq osq)) (by simp))
                go_wp2_with fail
                refine ⟨?rel, ?measure⟩
                case rel => exact ⟨i + 1, by omega, by go_num, HMi⟩
                case measure => simp [intOf]; omega
              · have hij : i = j := by omega
                subst hij
                have HM0 := hide (HM3.out.trans hmi.out (by simp))
                clear hmi
                go_wp2_with fail
                refine (all_any wr x (by omega)).mono ?_
                rintro e w7 ⟨m7, hpo⟩
                have HM7 := hide (HM0.out.trans m7 (by simp))
                cases hfa : fall x.data.toList with
                | none =>
                  rw [hfa] at hpo
                  simp only at hpo
                  subst hpo
                  have HM := HM7.out
                  clear m7 hfa
                  go_wp2_with fail
                  go_ret
                  exact ⟨rfl, HM.below (Nat.le_refl _) (by simp)⟩
                | some L2 =>
                  rw [hfa] at hpo
                  obtain ⟨vs2, A2, c2, hv2, rfl, ho2, hl2⟩ := hpo
                  obtain ⟨hx2, hm2⟩ := fall_bytes hfa
                  have hxs : x.data.toList.length = x.size := bytes_len x
                  have hfrs := ho2.frs (by omega)
                  obtain ⟨n2, hn2⟩ : ∃ n2, vs2.length = n2 := ⟨_, rfl⟩
                  have HN2 := hide hn2
                  have HF2 := hide hfrs
                  have HX2 := hide hx2
                  have HMay2 := hide hm2
                  have HV2 := hide hv2
                  have HXS := hide hxs
                  have hn2b : n2 ≤ 2048 := by omega
                  rw [hn2]
                  clear m7 hfa ho2 hl2 hx2 hm2 hxs hfrs hn2 hv2
                  go_wp2_with fail
                  go_loopw [13, 87] (fun sv iv wr => ∃ (j : Nat) (acc : ByteArray), j ≤ n2 ∧ sv = .string acc ∧ iv = .int .i64 (j : Int) ∧ Hid (acc.data.toList = fcat (L2.take j)) ∧ Hid (Mod [] w7 wr)) (fun _ iv _ => n2 - (intOf iv).toNat)
                  case atStart => exact ⟨0, ⟨#[]⟩, by omega, rfl, rfl, hide (by simp [fcat]), hide (Mod.refl _ _)⟩
                  case round =>
                    obtain ⟨j, acc, hj, rfl, rfl, hacc, hm⟩ := hrel
                    by_cases h : j < n2
                    · obtain ⟨v, hv⟩ : ∃ v, vs2[j]? = some v := ⟨_, List.getElem?_eq_getElem (by have := HN2.out; omega)⟩
                      obtain ⟨g2, o2, rfl, hg2, hc2, hr2⟩ := (HF2.out.new hm.out).at_ hv
                      have hL2 : L2[j]? = some v.f := by rw [← HV2.out, List.getElem?_map, hv]; rfl
                      have hmv := HMay2.out v.f (List.mem_of_getElem? hL2)
                      have hst := fcat_step hL2
                      obtain ⟨f2, A3, c3⟩ := v
                      simp only at hr2 hL2 hmv hst
                      obtain ⟨he1, he2⟩ := fw_of f2 true hmv
                      simp only [if_true] at he1 he2
                      obtain ⟨S, hS⟩ : ∃ S : ByteArray, (⟨(fbytes f2).toArray⟩ : ByteArray) = S := ⟨_, rfl⟩
                      have hacc2 : (acc ++ S).data.toList = fcat (L2.take (j + 1)) := by rw [hst, ← hacc.out, ← hS]; simp
                      have hsz : acc.size + S.size ≤ 2048 := by
                        have h1 := bytes_len (acc ++ S)
                        rw [ByteArray.size_append, hacc2] at h1
                        have h3 := fcat_take_le (l := L2) (j + 1)
                        rw [← HX2.out, HXS.out] at h3
                        omega
                      rw [hS] at he2
                      have HW := hide (fwrite_any wr A3 f2.list.length c3 f2 hr2)
                      rw [he1, he2] at HW
                      have HAcc2 := hide hacc2
                      have k1 : ¬ 9223372036854775807 < acc.size + S.size := by omega
                      unfold fval fcs at HW
                      have y0 : wr.cell? ⟨g2, o2 + j * 8, none⟩ = some (.int .u64 (f2.kind : Nat)) := hc2 0 _ rfl
                      have y1 : wr.cell? ⟨g2, o2 + j * 8 + 1, none⟩ = some (.int .u64 (f2.a : Nat)) := hc2 1 _ rfl
                      have y2 : wr.cell? ⟨g2, o2 + j * 8 + 2, none⟩ = some (.int .u64 (f2.b : Nat)) := hc2 2 _ rfl
                      have y3 : wr.cell? ⟨g2, o2 + j * 8 + 3, none⟩ = some (.int .u64 (f2.c : Nat)) := hc2 3 _ rfl
                      have y4 : wr.cell? ⟨g2, o2 + j * 8 + 4, none⟩ = some (.bool f2.fin) := hc2 4 _ rfl
                      have y5 : wr.cell? ⟨g2, o2 + j * 8 + 5, none⟩ = some (.string f2.data) := hc2 5 _ rfl
                      have y6 : wr.cell? ⟨g2, o2 + j * 8 + 6, none⟩ = some (.string f2.more) := hc2 6 _ rfl
                      have y7 : wr.cell? ⟨g2, o2 + j * 8 + 7, none⟩ = some (.slice A3 f2.list.length c3) := hc2 7 _ rfl
                      clear hc2 hr2 hL2 hmv hst he1 he2 hS hacc2 hacc hsz
                      go_wp2_with fail
                      refine HW.out.mono ?_
                      rintro e w9 ⟨rfl, m9⟩
                      have HM9 := hide (hm.out.trans m9 (by simp))
                      clear m9
                      go_wp2_with fail
                      refine ⟨?rel, ?measure⟩
                      case rel => exact ⟨j + 1, _, by omega, rfl, by go_num, HAcc2, HM9⟩
                      case measure => simp [intOf]; omega
                    · have hjn : j = n2 := by omega
                      have hE : acc = x := bytes_eq (by
                        rw [hacc.out, HX2.out, List.take_of_length_le]
                        rw [← HV2.out, List.length_map, HN2.out]; omega)
                      subst hE
                      have HM := HM7.out.trans hm.out (by simp)
                      clear hacc hm
                      go_wp2_with fail
                      go_ret
                      refine ⟨?_, HM.below (Nat.le_refl _) (by simp)⟩
                      first | rfl | simp
end Go.Proofs.YtbjmcnmcodbkdaaDoor

/-
  The row of 'FrameAll': the walk's contract brought to the given statement.
-/
namespace Go.Proofs.YtbjmcnmcodbkdaaDoor.lawFrameAll
open Go.ChangeShapes Go.WideShapes Go.ChangeAt Go.RowKit
open Go.ChangeMaps (open_string shut_string)
set_option linter.unusedVariables false

theorem own : ownKnob Tryd.prog.godebug = none := by kernel_rfl
theorem laidOut : laidOutB Tryd.prog = true := by kernel_rfl

set_option maxRecDepth 100000 in
theorem lifted (os : Os) (started : os.Started) (H : Type) (enc : TypeId × Value → H) :
    ReturnsInHanded {} Tryd.checked os 7 .any (fun w args => (Rows.frameAllSpec.pre enc Tryd.prog Tryd.f7 Rows.frameAllRow.domain false w args ∧ laidMetH Tryd.prog Rows.frameAllRow.laid w) ∧ sizedMet enc Tryd.prog Tryd.f7 (OpenSpec.ofChange Rows.frameAllSpec) false w args)
      (Rows.frameAllSpec.post enc Tryd.prog Tryd.f7 false true false false) := by
  refine returnsInHanded_of_change_and (C := Tryd.checked) (X := fun w _ => laidMetH Tryd.prog Rows.frameAllRow.laid w) (fun _ _ _ hh h => h.of_heap hh) own started (by kernel_rfl) Tryd.func7
    (ChangeSpec.witness_shaped (enc := enc) (C := Tryd.checked) (os := os) (X := fun w _ => laidMetH Tryd.prog Rows.frameAllRow.laid w) false (World.laidAll Tryd.prog os Rows.frameAllRow.laid) #[.slice none 0 0, .string ⟨#[]⟩] 8 (World.laidAll_os _ _ _)
      (World.shaped_of_ZipB (by kernel_rfl) (by kernel_rfl)) (by kernel_rfl) (by kernel_rfl) (by kernel_rfl)
      (by rw [MakeChecks.laidMetH_plain _ _ _ (by kernel_rfl)]; exact laidMet_laidAll _ (by kernel_rfl) (by kernel_rfl))) ?_
  intro W base args ds gs before hval0 hW hcnd _ _ _
  have hval : ∀ (j : Nat) t v, Tryd.f7.params[j]? = some t → args[j]? = some v → Value.okWide Tryd.prog W .any base t v := hval0
  have hW' := hW
  obtain ⟨p, q, hA0, hV, rfl, hfz, hnd⟩ := hW
  have hA : DataW.TrodAll enc Tryd.prog W 0 (fun _ => true) true Tryd.f7.params.toList args.toList ds p := hA0
  rw [Tryd.params7] at hA hval
  obtain ⟨v0, vs0, d0, ds0, p0, q0, hargs, rfl, rfl, h0, r0⟩ := trodAll_cons hA
  obtain ⟨v1, vs1, d1, ds1, p1, q1, rfl, rfl, rfl, h1, r1⟩ := trodAll_cons r0
  obtain ⟨rfl, rfl, rfl⟩ := trodAll_nil r1
  obtain rfl : args = #[v0, v1] := by cases args; simp_all
  obtain ⟨rfl, rfl⟩ := trodVars_none hV
  have k0 := h0
  have lt0 : ∀ x ∈ p0, x.block < W.heap.size := by obtain ⟨m, hm⟩ := k0; exact DataW.trod_lt m _ _ _ hm
  obtain ⟨A0, c0, l0, rfl, hr0, hn0⟩ := open_frames (hval 0 30 v0 rfl rfl) h0
  obtain ⟨x1, rfl, rfl, rfl, ws1⟩ := open_string Tryd.underlying9 (hval 1 9 v1 rfl rfl) h1
  clear hA0 hval0
  refine (walkFrameAll A0 c0 l0 x1 ws1 W hr0 hn0).mono fun e W' ⟨he, bel⟩ => ?_
  subst he
  exact ⟨_, rfl, _, _, _, [], _, [], hW', trodAll_mk1 (shut_bool Tryd.underlying4 _), (trodAll_cons_mk (Below.trod laidOut (by kernel_rfl) (of_decide_eq_true (by kernel_rfl)) k0 bel lt0) (trodAll_cons_mk (shut_string Tryd.underlying9 ws1) trodAll_mk0)), rfl, bel.frame _, fun h => by cases h⟩

theorem over : Rows.frameAllRow.holds Tryd.pinned (OpenSpec.ofChange Rows.frameAllSpec) :=
  OpenClaim.holds_of_wide 7 Tryd.f7 rfl rfl rfl rfl rfl rfl rfl ⟨rfl, rfl, rfl, rfl, rfl⟩ rfl rfl rfl rfl rfl (by kernel_rfl) Tryd.func7 (by kernel_rfl)
    (of_decide_eq_true (by kernel_rfl)) (by unfold Func.isWrapper; first | (rw [if_pos (by decide +kernel)]; kernel_rfl) | (rw [if_neg (by decide +kernel)]; exact ⟨rfl, rfl⟩))
    (fun os started H enc _ => lifted os started H enc)

/-- The statement: the card. -/
theorem proved : Rows.FrameAllCardSaid :=
  Claim7.holds_tied_plain_at .later [] [.data, .pinned] true (true, "dd957caea826dfd9588818920ea08f281d87fb61899cd75292fd604fb4911ede") false over (fun _ h => by cases h) (by kernel_rfl) (fun _ h => by cases h) frameAll_row_tie rfl ⟨rfl, rfl⟩ (by kernel_rfl) rfl
    (fun f fn hf hfn => by
      obtain rfl : f = 7 := Option.some.inj ((show Tryd.prog.funcNamed "kymograph/kymographlaw03.FrameAll" = some 7 by kernel_rfl).symm.trans hf) |>.symm
      obtain rfl : fn = Tryd.f7 := (Option.some.inj (Tryd.func7.symm.trans hfn)).symm
      exact ⟨by kernel_rfl, fun j t ht => by
        rw [Tryd.params7] at ht
        have hm : t ∈ [30, 9] := by simpa using Array.mem_of_getElem? ht
        have hall : ([30, 9].all fun u => !Tryd.prog.wantsStandIn u) = true := by kernel_rfl
        exact (show Tryd.prog.wantsStandIn t = false by simpa using List.all_eq_true.1 hall t hm)⟩)
    (by kernel_rfl)
#print axioms proved
end Go.Proofs.YtbjmcnmcodbkdaaDoor.lawFrameAll
