/-
  Contracts of the document's package, part 8 of 8: FrRf14, FrAllQ, FrRf15.
-/
import Derived.Test.YtbjmcnmcodbkdaaDoorH7
import Derived.Test.YtbjmcnmcodbkdaaDoorG7
import Derived.Test.YtbjmcnmcodbkdaaDoorG8

/-
  frames: the document's package: Read.
-/
namespace Go.Proofs.YtbjmcnmcodbkdaaDoor
open Go.RowKit
set_option linter.unusedVariables false
set_option linter.unusedSimpArgs false

theorem frd_no {s : List UInt8} (hs : s ≠ []) (h : fread s = none) : frd s = (fr0, [], 2) := by
  unfold frd
  rw [if_neg hs, h]
theorem frd_some {s r : List UInt8} {f : Fr} (hs : s ≠ []) (h : fread s = some (f, r)) : frd s = (f, r, 0) := by
  unfold frd
  rw [if_neg hs, h]
theorem ext_pre {x W : ByteArray} (h : W.size ≤ x.size) : (x.extract 0 W.size = W) ↔ W.data.toList <+: x.data.toList := by
  have e : (x.extract 0 W.size).data.toList = x.data.toList.take W.size := by rw [Lib.extract_data]; simp
  constructor
  · intro hh
    rw [← hh, e]
    exact List.take_prefix _ _
  · intro hh
    obtain ⟨t, ht⟩ := hh
    apply ByteArray.ext
    apply Array.toList_inj.1
    rw [e, ← ht, ← bytes_len, List.take_left]

set_option maxRecDepth 100000 in
set_option maxHeartbeats 8000000 in
theorem rread_any (w : World) (x : ByteArray) (hx : x.size ≤ 1000000) :
    Calls Tryd.prog 11 #[.string x] w (RdPost w (frd x.data.toList)) := by
  by_cases h0 : x.size = 0
  · have hE : frd x.data.toList = (fr0, [], 10) := by rw [size0 h0]; rfl
    have HE := hide hE
    have HP := hide (fsets_blk (fcs none 0 0 fr0) (Blk.new w 26 (fcs none 0 0 fr0)) rfl rfl)
    have e1 : ((x.size : Int) == 0) = true := by rw [h0]; rfl
    have e2 : (x.size == 0) = true := by rw [h0]; rfl
    clear h0 hE
    go_enter Tryd.func11, Tryd.ntmps11
    go_wp2_with fail
    refine bodyPost_ret (results_cell_tmp2_row rfl _ _ w.heap.size 26 (fcs none 0 0 fr0) _ rfl ?_ Tryd.underlying26 rfl (by kernel_rfl)) rfl ?_
    · exact Blk.new _ _ _
    exact RdPost.zero HE.out ((Mod.refl _ _).alloc _)
  · have e1 : ((x.size : Int) == 0) = false := by rw [beq_eq_false_iff_ne]; omega
    have e2 : (x.size == 0) = false := by rw [beq_eq_false_iff_ne]; omega
    have hne : x.data.toList ≠ [] := by
      intro h
      have := bytes_len x
      rw [h] at this
      simp at this; omega
    have HNe := hide hne
    have HR0 := hide (Blk.new w 26 (fcs none 0 0 fr0))
    have HM0 := hide ((Mod.refl [] w).alloc (.cells (fcs none 0 0 fr0) 26))
    have HHd := hide (fun w' => head_any w' x hx)
    clear hne h0
    go_enter Tryd.func11, Tryd.ntmps11
    go_wp2_with fail
    refine (HHd.out _).mono ?_
    rintro e w2 ⟨f, A, c, rfl, hf, ho, hl, m2⟩
    obtain ⟨RB, hRBe⟩ : ∃ RB, w.heap.size = RB := ⟨_, rfl⟩
    have HR2 := hide (m2.blk HR0.out (by simp))
    have HM2 := hide (HM0.out.trans m2 (by simp))
    have HO2 := hide (ho.base HM0.out.size)
    have HRB : Hid (w.heap.size ≤ RB) := hide (by omega)
    rw [hRBe] at HR2
    simp only [hRBe]
    have HFq := hide hf
    have HL := hide hl
    have HB3 := hide (Blk.new w2 26 (fcs A f.list.length c f))
    have HM3 := hide (HM2.out.alloc (.cells (fcs A f.list.length c f) 26))
    have HR3 := hide (HR2.out.alloc (.cells (fcs A f.list.length c f) 26))
    have ho3 : ROwn (w2.alloc (.cells (fcs A f.list.length c f) 26)) w.heap.size A c f.list := HO2.out.mod ((Mod.refl [] w2).alloc _) (by simp)
    have HO3 := hide ho3
    have HRg := hide (ho3.rngs (by omega))
    have HWr := hide (fun w' (h : Rngs w' A f.list.length f.list) => rfwrite_any w' A f.list.length c f h)
    unfold RWr at HWr
    unfold fval fcs at HWr
    obtain ⟨is, his⟩ : ∃ is, (phead x.data.toList).isSome = is := ⟨_, rfl⟩
    rw [his]
    have HIs := hide his
    clear hf ho ho3 hl m2 hRBe HR0 HM0 his
    unfold fcs
    have z0 : w2.cell? ⟨RB, 0, none⟩ = some (.int .u64 0) := HR2.out.cell 0
    have r0 : w2.frozen? ⟨RB, 0, none⟩ = false := HR2.out.frozen 0
    have z1 : w2.cell? ⟨RB, 1, none⟩ = some (.int .u64 0) := HR2.out.cell 1
    have r1 : w2.frozen? ⟨RB, 1, none⟩ = false := HR2.out.frozen 1
    have z2 : w2.cell? ⟨RB, 2, none⟩ = some (.int .u64 0) := HR2.out.cell 2
    have r2 : w2.frozen? ⟨RB, 2, none⟩ = false := HR2.out.frozen 2
    have z3 : w2.cell? ⟨RB, 3, none⟩ = some (.int .u64 0) := HR2.out.cell 3
    have r3 : w2.frozen? ⟨RB, 3, none⟩ = false := HR2.out.frozen 3
    have z4 : w2.cell? ⟨RB, 4, none⟩ = some (.bool false) := HR2.out.cell 4
    have r4 : w2.frozen? ⟨RB, 4, none⟩ = false := HR2.out.frozen 4
    have z5 : w2.cell? ⟨RB, 5, none⟩ = some (.string ⟨#[]⟩) := HR2.out.cell 5
    have r5 : w2.frozen? ⟨RB, 5, none⟩ = false := HR2.out.frozen 5
    have z6 : w2.cell? ⟨RB, 6, none⟩ = some (.string ⟨#[]⟩) := HR2.out.cell 6
    have r6 : w2.frozen? ⟨RB, 6, none⟩ = false := HR2.out.frozen 6
    have z7 : w2.cell? ⟨RB, 7, none⟩ = some (.slice none 0 0) := HR2.out.cell 7
    have r7 : w2.frozen? ⟨RB, 7, none⟩ = false := HR2.out.frozen 7
    have lR := HR2.out.lt
    go_wp2_with fail
    refine (HWr.out _ HRg.out).mono ?_
    rintro e w4 ⟨rfl, m4⟩
    have HR4 := hide (m4.blk HR3.out (by simp))
    have HM4 := hide (HM3.out.trans m4 (by simp))
    have hb := fsets_blk (fcs none 0 0 fr0) HR4.out rfl rfl
    have hm := HM4.out.trans (fsets_mod w4 RB (fcs none 0 0 fr0)) (by simp; exact HRB.out)
    have HP := hide (And.intro hb hm)
    clear hb hm z0 r0 z1 r1 z2 r2 z3 r3 z4 r4 z5 r5 z6 r6 z7 r7 lR
    have z0 : w4.cell? ⟨RB, 0, none⟩ = some (.int .u64 0) := HR4.out.cell 0
    have r0 : w4.frozen? ⟨RB, 0, none⟩ = false := HR4.out.frozen 0
    have z1 : w4.cell? ⟨RB, 1, none⟩ = some (.int .u64 0) := HR4.out.cell 1
    have r1 : w4.frozen? ⟨RB, 1, none⟩ = false := HR4.out.frozen 1
    have z2 : w4.cell? ⟨RB, 2, none⟩ = some (.int .u64 0) := HR4.out.cell 2
    have r2 : w4.frozen? ⟨RB, 2, none⟩ = false := HR4.out.frozen 2
    have z3 : w4.cell? ⟨RB, 3, none⟩ = some (.int .u64 0) := HR4.out.cell 3
    have r3 : w4.frozen? ⟨RB, 3, none⟩ = false := HR4.out.frozen 3
    have z4 : w4.cell? ⟨RB, 4, none⟩ = some (.bool false) := HR4.out.cell 4
    have r4 : w4.frozen? ⟨RB, 4, none⟩ = false := HR4.out.frozen 4
    have z5 : w4.cell? ⟨RB, 5, none⟩ = some (.string ⟨#[]⟩) := HR4.out.cell 5
    have r5 : w4.frozen? ⟨RB, 5, none⟩ = false := HR4.out.frozen 5
    have z6 : w4.cell? ⟨RB, 6, none⟩ = some (.string ⟨#[]⟩) := HR4.out.cell 6
    have r6 : w4.frozen? ⟨RB, 6, none⟩ = false := HR4.out.frozen 6
    have z7 : w4.cell? ⟨RB, 7, none⟩ = some (.slice none 0 0) := HR4.out.cell 7
    have r7 : w4.frozen? ⟨RB, 7, none⟩ = false := HR4.out.frozen 7
    have lR := HR4.out.lt
    cases is with
    | false =>
      have hph : phead x.data.toList = none := by
        have := HIs.out
        cases hp : phead x.data.toList with
        | none => rfl
        | some g => rw [hp] at this; cases this
      clear m4
      unfold str
      have HE : Hid (frd x.data.toList = (fr0, [], 2)) := hide (frd_no HNe.out (fread_nohead hph))
      go_wp2_with fail
      refine bodyPost_ret (results_cell_tmp2_row rfl _ _ RB 26 (fcs none 0 0 fr0) _ rfl ?_ Tryd.underlying26 rfl (by kernel_rfl)) rfl ?_
      · exact HP.out.1
      exact RdPost.zero HE.out HP.out.2
    | true =>
      have hph : phead x.data.toList = some f := by
        have h1 := HIs.out
        have h2 := HFq.out
        cases hp : phead x.data.toList with
        | none => rw [hp] at h1; cases h1
        | some g => rw [hp] at h2; rw [h2 g rfl]
      have HFh := hide (fread_head hph)
      clear hph
      cases hmay : fmay f with
      | false =>
        have hfw : fwE f = 2 := by unfold fwE; rw [hmay]; rfl
        rw [hfw]
        have HMay := hide hmay
        clear m4 hmay hfw
        unfold str
        have HE : Hid (frd x.data.toList = (fr0, [], 2)) := hide (frd_no HNe.out (by rw [HFh.out, HMay.out]; simp))
        go_wp2_with fail
        refine bodyPost_ret (results_cell_tmp2_row rfl _ _ RB 26 (fcs none 0 0 fr0) _ rfl ?_ Tryd.underlying26 rfl (by kernel_rfl)) rfl ?_
        · exact HP.out.1
        exact RdPost.zero HE.out HP.out.2
      | true =>
        have hfw : fwE f = 0 := by unfold fwE; rw [hmay]; rfl
        have hfs : fwS f = fbytes f := by unfold fwS; rw [hmay]; rfl
        rw [hfw, hfs]
        obtain ⟨Wb, hWb, -, hWl⟩ := putB2 (fbytes f)
        rw [hWb]
        have HMay := hide hmay
        have HWl := hide hWl
        have HM4b := hide m4
        clear hmay hfw hfs hWb hWl m4
        by_cases hlen : x.size < Wb.size
        · have g1 : decide ((x.size : Int) < Wb.size) = true := decide_eq_true (by omega)
          have g2 : decide (x.size < Wb.size) = true := decide_eq_true hlen
          have HE : Hid (frd x.data.toList = (fr0, [], 2)) := hide (frd_no HNe.out (by rw [HFh.out, if_neg]; rintro ⟨-, t, ht⟩; have := congrArg List.length ht; rw [List.length_append, bytes_len, ← HWl.out, bytes_len] at this; omega))
          go_wp2_with fail
          refine bodyPost_ret (results_cell_tmp2_row rfl _ _ RB 26 (fcs none 0 0 fr0) _ rfl ?_ Tryd.underlying26 rfl (by kernel_rfl)) rfl ?_
          · exact HP.out.1
          exact RdPost.zero HE.out HP.out.2
        · have g1 : decide ((x.size : Int) < Wb.size) = false := decide_eq_false (by omega)
          have g2 : decide (x.size < Wb.size) = false := decide_eq_false hlen
          have hle : Wb.size ≤ x.size := by omega
          have hpre := ext_pre (x := x) (W := Wb) hle
          by_cases hp : x.extract 0 Wb.size = Wb
          · obtain ⟨t, ht⟩ := hpre.1 hp
            have hrd : frd x.data.toList = (f, t, 0) := frd_some HNe.out (by
              rw [HFh.out, if_pos ⟨HMay.out, by rw [← HWl.out]; exact ⟨t, ht⟩⟩]
              congr 2
              rw [← ht, HWl.out, List.drop_left])
            have hst : str t = .string (x.extract Wb.size x.size) := by
              unfold str
              congr 1
              apply ByteArray.ext
              apply Array.toList_inj.1
              rw [Lib.extract_data]
              simp only
              have : x.size = x.data.toList.length := (bytes_len x).symm
              rw [this]
              simp [← ht]
            have HRd := hide hrd
            have HSt := hide hst
            have g3 : ((x.extract 0 Wb.size).toList == Wb.toList) = true := by rw [hp]; simp
            have hfb := HM4b.out.blk HB3.out (by simp)
            obtain ⟨q0, q1, q2, q3, q4, q5, q6, q7⟩ := fcells hfb
            have hlF := hfb.lt
            have hb := (fsets_blk (fcs A f.list.length c f) HR4.out rfl rfl)
            have hm := (HM4.out.trans (fsets_mod w4 RB (fcs A f.list.length c f)) (by simp; exact HRB.out))
            have hom : Mod [RB] (w2.alloc (.cells (fcs A f.list.length c f) 26)) (fsets w4 RB (fcs A f.list.length c f)) := (HM4b.out.mono (by simp)).trans (fsets_mod w4 RB (fcs A f.list.length c f)) (by simp)
            have ho := HO3.out.mod hom (fun g' o' hA hmem => by
              have := HO3.out.ne HR3.out (by decide) g' o' hA
              exact this (List.mem_singleton.1 hmem))
            have HP2 := hide (And.intro (Blk.drew hb) (And.intro (Mod.drew hm) (ROwn.mod ho ((Mod.refl [] _).drew) (by simp))))
            have HLe := hide hle
            clear hb hm ho hom hfb hrd hst hpre hp hlen
            go_wp2_with fail
            go_region
            all_goals
              go_wp2_with fail
              refine bodyPost_ret (results_cell_tmp2_row rfl _ _ RB 26 (fcs A f.list.length c f) _ rfl ?_ Tryd.underlying26 rfl (by kernel_rfl)) rfl ?_
              · exact HP2.out.1
              rw [HRd.out]
              refine ⟨A, c, ?_, HP2.out.2.2, HL.out, HP2.out.2.1⟩
              rw [HSt.out]
              rfl
          · have g3 : ((x.extract 0 Wb.size).toList == Wb.toList) = false := toList_ne hp
            have HNp := hide (fun h => hp (hpre.2 h))
            clear hpre hp hlen
            have HE : Hid (frd x.data.toList = (fr0, [], 2)) := hide (frd_no HNe.out (by rw [HFh.out, if_neg]; rintro ⟨-, h⟩; rw [← HWl.out] at h; exact HNp.out h))
            go_wp2_with fail
            refine bodyPost_ret (results_cell_tmp2_row rfl _ _ RB 26 (fcs none 0 0 fr0) _ rfl ?_ Tryd.underlying26 rfl (by kernel_rfl)) rfl ?_
            · exact HP.out.1
            exact RdPost.zero HE.out HP.out.2
end Go.Proofs.YtbjmcnmcodbkdaaDoor

/-
  frames, plain: many are read as they were; what is read is bytes that were.
-/
namespace Go.Proofs.YtbjmcnmcodbkdaaDoor
open Go.RowKit

def fcat (l : List Fr) : List UInt8 := (l.map fbytes).flatten
theorem fjoinF_some : ∀ (l : List Fr) (prev : Option Fr) (s : List UInt8), fjoinF prev l = some s → s = fcat l ∧ (∀ f ∈ l, fmay f = true)
  | [], prev, s, h => by cases h; exact ⟨rfl, by simp⟩
  | f :: t, prev, s, h => by
    unfold fjoinF at h
    split at h
    · rename_i hx
      obtain ⟨u, h1, rfl⟩ := Option.map_eq_some_iff.1 h
      obtain ⟨rfl, h3⟩ := fjoinF_some t _ _ h1
      refine ⟨by simp [fcat], fun g hg => ?_⟩
      rcases List.mem_cons.1 hg with rfl | hg
      · unfold fnext at hx
        simp only [Bool.and_eq_true] at hx
        exact hx.1
      · exact h3 g hg
    · cases h
theorem fjoin_some {l : List Fr} {s : List UInt8} (h : fjoin l = some s) : l ≠ [] ∧ fjoinF none l = some s ∧ s = fcat l ∧ (∀ f ∈ l, fmay f = true) := by
  unfold fjoin at h
  split at h
  · cases h
  · rename_i hl
    obtain ⟨h1, h2⟩ := fjoinF_some _ _ _ h
    exact ⟨hl, h, h1, h2⟩
theorem fcat_len {l : List Fr} (h : ∀ f ∈ l, fmay f = true) : (fcat l).length ≤ 17000 * l.length := by
  induction l with
  | nil => simp [fcat]
  | cons f t ih =>
    have h1 := fbytes_le (h f (by simp))
    have h2 := ih (fun g hg => h g (by simp [hg]))
    have e : fcat (f :: t) = fbytes f ++ fcat t := by simp [fcat]
    rw [e, List.length_append, List.length_cons]
    omega
theorem fall_join : ∀ (l : List Fr) (prev : Option Fr) (s : List UInt8), l ≠ [] → fjoinF prev l = some s → fall s = some l
  | [], _, _, h, _ => absurd rfl h
  | f :: t, prev, s, _, h => by
    unfold fjoinF at h
    split at h
    · rename_i hx
      obtain ⟨u, h1, rfl⟩ := Option.map_eq_some_iff.1 h
      have hm : fmay f = true := by
        unfold fnext at hx
        simp only [Bool.and_eq_true] at hx
        exact hx.1
      cases t with
      | nil =>
        cases h1
        have h2 := fread_put hm [] (fun _ => .inr rfl)
        have := fall_some h2
        rw [if_pos rfl] at this
        exact this
      | cons g t' =>
        have h4 := h1
        unfold fjoinF at h1
        split at h1
        · rename_i hy
          obtain ⟨u', h5, rfl⟩ := Option.map_eq_some_iff.1 h1
          unfold fnext at hy
          simp only [Bool.and_eq_true, Bool.not_eq_true', Bool.and_eq_false_iff, decide_eq_false_iff_not] at hy
          have hne := fbytes_ne hy.1
          obtain ⟨b, tb, hb⟩ := List.exists_cons_of_ne_nil hne
          have hnz : NoZero f (fbytes g ++ u') := fun h0 => by
            right
            have hg0 : g.kind ≠ 0 := by
              rcases hy.2 with h | h
              · exact absurd h0 h
              · exact h
            have hb0 : b ≠ 0 := fun hz => hg0 (kind0_of hy.1 (t := tb) (by rw [hb, hz]))
            rw [hb]
            unfold zeros
            rw [List.cons_append, List.takeWhile_cons_of_neg (by simpa using hb0)]
            rfl
          have h2 := fread_put hm (fbytes g ++ u') hnz
          have h6 := fall_some h2
          rw [if_neg (by simp [hne])] at h6
          have ih := fall_join (g :: t') (some f) _ (by simp) h4
          rw [h6, ih]
          rfl
        · cases h1
    · cases h
theorem fallN_some : ∀ (k : Nat) (s : List UInt8) (l : List Fr), fallN k s = some l → s = fcat l ∧ (∀ f ∈ l, fmay f = true)
  | 0, s, l, h => by cases h
  | k + 1, s, l, h => by
    unfold fallN at h
    obtain ⟨x, h1, h2⟩ := Option.bind_eq_some_iff.1 h
    obtain ⟨hm, hs, _⟩ := fread_some (f := x.1) (r := x.2) h1
    split at h2
    · rename_i hr
      cases h2
      rw [hr, List.append_nil] at hs
      exact ⟨by rw [hs]; simp [fcat], by simpa using hm⟩
    · obtain ⟨t, h3, rfl⟩ := Option.map_eq_some_iff.1 h2
      obtain ⟨h4, h5⟩ := fallN_some k _ _ h3
      refine ⟨by rw [hs, h4]; simp [fcat], fun g hg => ?_⟩
      rcases List.mem_cons.1 hg with rfl | hg
      · exact hm
      · exact h5 g hg
theorem fall_bytes {s : List UInt8} {l : List Fr} (h : fall s = some l) : s = fcat l ∧ (∀ f ∈ l, fmay f = true) := fallN_some _ _ _ h
/-- the bytes so far -/
theorem fcat_step {l : List Fr} {j : Nat} {f : Fr} (h : l[j]? = some f) : fcat (l.take (j + 1)) = fcat (l.take j) ++ fbytes f := by
  obtain ⟨hj, rfl⟩ := List.getElem?_eq_some_iff.1 h
  rw [List.take_succ_eq_append_getElem hj]
  unfold fcat
  rw [List.map_append, List.flatten_append, List.map_cons, List.map_nil, List.flatten_cons, List.flatten_nil, List.append_nil]
theorem fcat_take_le {l : List Fr} (j : Nat) : (fcat (l.take j)).length ≤ (fcat l).length := by
  have : fcat l = fcat (l.take j) ++ fcat (l.drop j) := by
    unfold fcat
    rw [← List.flatten_append, ← List.map_append, List.take_append_drop]
  rw [this, List.length_append]
  omega
end Go.Proofs.YtbjmcnmcodbkdaaDoor

/-
  frames: the document's package: All, SameAll.
-/
namespace Go.Proofs.YtbjmcnmcodbkdaaDoor
open Go.RowKit Go.Sort
set_option linter.unusedVariables false
set_option linter.unusedSimpArgs false

theorem FsOwn.made (w : World) (B : Nat) (hB : B ≤ w.heap.size) : FsOwn (w.alloc (.cells #[] 26)) B (some ⟨w.heap.size, 0, none⟩) 0 [] :=
  ⟨⟨rfl, .inr ⟨w.heap.size, 0, #[], rfl, hB, heap_alloc_new w _, Nat.le_refl _, by simp [maxLen], rfl, rfl⟩⟩, by simp⟩

set_option maxRecDepth 100000 in
set_option maxHeartbeats 8000000 in
theorem rall_any (w : World) (x : ByteArray) (hx : x.size ≤ 1000000) :
    Calls Tryd.prog 13 #[.string x] w (AllPost w x.data.toList) := by
  have HX := hide (bytes_len x)
  go_enter Tryd.func13, Tryd.ntmps13
  go_wp2_with fail
  go_loopw [0, 4] (fun sv lv wr => ∃ (s : ByteArray) (vs : List FV) (A : Option Addr) (c : Nat), sv = .string s ∧ lv = .slice A vs.length c ∧ Hid (FsOwn wr w.heap.size A c vs) ∧ Hid (fall x.data.toList = (fall s.data.toList).map (vs.map FV.f ++ ·)) ∧ Hid (s.size + vs.length ≤ x.size) ∧ Hid (Mod [] w wr)) (fun sv _ _ => (match sv with | .string s => s.size | _ => 0))
  case atStart => exact ⟨x, [], _, _, rfl, rfl, hide (FsOwn.made w _ (Nat.le_refl _)), hide (by simp), hide (by simp), hide ((Mod.refl _ _).alloc _)⟩
  case round =>
    obtain ⟨s, vs, A, c, rfl, rfl, ho, hfa, hsz, hm⟩ := hrel
    have HR := hide (rread_any wr s (by have := hsz.out; omega))
    obtain ⟨g, r, er, hgr⟩ : ∃ g r er, frd s.data.toList = (g, r, er) := ⟨_, _, _, rfl⟩
    by_cases her : er = 0
    · have hfr : fread s.data.toList = some (g, r) := by
        have := frd_e (s := s.data.toList) (by rw [hgr]; exact her)
        rw [hgr] at this
        exact this
      have hlt := fread_lt hfr
      have h1 := fall_some hfr
      obtain ⟨S, hS⟩ : ∃ S : ByteArray, S = ⟨r.toArray⟩ := ⟨_, rfl⟩
      have hSr : S.data.toList = r := by rw [hS]
      have hst : str r = .string S := by rw [hS]; rfl
      have hSz : S.size < s.size := by rw [← bytes_len, ← bytes_len, hSr]; exact hlt
      have HSz := hide hSz
      have HSt := hide hst
      have HEr := hide her
      rw [hgr] at HR
      have FIN : ∀ e w2, RdPost wr (g, r, er) e w2 → ∃ A1 c1 A' c' w6, e = .returned (.tuple #[fval A1 g.list.length c1 g, .string S, .int .i64 0]) ∧
          (Builtin.append_ #[30, 30] 30 #[.slice A vs.length c, .slice (some ⟨w2.heap.size + 1, 0, none⟩) 1 1]).run Tryd.prog ((w2.alloc (.cells (fcs A1 g.list.length c1 g) 26)).alloc (.cells (fcs A1 g.list.length c1 g) 26)) = .ok (.slice A' (vs.length + 1) c') w6 ∧
          FsOwn w6 w.heap.size A' c' (vs ++ [⟨g, A1, c1⟩]) ∧ Mod [] w w6 := by
        rintro e w2 ⟨A1, c1, rfl, o1, l1, m1⟩
        simp only at o1 l1
        have hz := (hm.out.trans m1 (by simp))
        have h2 := (ho.out.new m1)
        have h3 := h2.new (((Mod.refl [] w2).alloc (.cells (fcs A1 g.list.length c1 g) 26)).alloc (.cells (fcs A1 g.list.length c1 g) 26))
        have hg : FV.Good ⟨g, A1, c1⟩ ((w2.alloc (.cells (fcs A1 g.list.length c1 g) 26)).alloc (.cells (fcs A1 g.list.length c1 g) 26)) w.heap.size :=
          ⟨(o1.base hm.out.size).mod (((Mod.refl [] w2).alloc (.cells (fcs A1 g.list.length c1 g) 26)).alloc (.cells (fcs A1 g.list.length c1 g) 26)) (by simp), l1⟩
        have hbk : Blk ((w2.alloc (.cells (fcs A1 g.list.length c1 g) 26)).alloc (.cells (fcs A1 g.list.length c1 g) 26)) (w2.heap.size + 1) 26 (fcs A1 g.list.length c1 g) := by
          have := Blk.new (w2.alloc (.cells (fcs A1 g.list.length c1 g) 26)) 26 (fcs A1 g.list.length c1 g)
          rw [World.size_alloc] at this
          exact this
        have hz2 := (hz.alloc (.cells (fcs A1 g.list.length c1 g) 26)).alloc (.cells (fcs A1 g.list.length c1 g) 26)
        obtain ⟨A', c', w6, hrun, hown, hm6⟩ := h3.app hz2.size (by have := hsz.out; omega) ⟨g, A1, c1⟩ hg _ hbk
        refine ⟨A1, c1, A', c', w6, ?_, hrun, hown, hz2.keep hm6 h3.1 (Nat.le_refl _)⟩
        rw [HSt.out, HEr.out]
      have HFin := hide FIN
      by_cases hr : r = []
      · have hS0 : S.size = 0 := by rw [← bytes_len, hSr, hr]; rfl
        have HE : Hid (∀ (A' : Option Addr) (c' : Nat), fall x.data.toList = some ((vs ++ [(⟨g, A', c'⟩ : FV)]).map FV.f)) := hide (fun A' c' => by
          rw [hfa.out, h1, if_pos hr]; simp)
        have e1 : ((S.size : Int) == 0) = true := by rw [hS0]; rfl
        have e2 : (S.size == 0) = true := by rw [hS0]; rfl
        clear FIN ho hm HSt HEr h1 hfr hlt hS hSr hst hSz her hgr hr hS0 hfa
        go_wp2_with fail
        refine HR.out.mono ?_
        rintro e w2 hpo
        obtain ⟨A1, c1, A', c', w6, rfl, hrun, hown, hmm⟩ := HFin.out e w2 hpo
        have HRun := hide hrun
        have HOwn := hide hown
        have HMm := hide hmm
        clear hpo hrun hown hmm
        unfold fval fcs at *
        go_wp2_with (at_builtin; refine Lib.wpList_append_run _ rfl (.tmp 17) (.tmp 19) 30 30 rfl (.slice A vs.length c) (.slice (some ⟨w2.heap.size + 1, 0, none⟩) 1 1) rfl rfl _ w6 HRun.out ?_)
        go_ret2
        exact AllPost.some_ (A := A') (c := c') HMm.out (HE.out A1 c1) (by simp) HOwn.out (by have := hsz.out; have := HX.out; have := HSz.out; simp; omega)
      · have hS0 : ¬ S.size = 0 := by
          rw [← bytes_len, hSr]
          intro h
          exact hr (List.eq_nil_of_length_eq_zero h)
        have HNew : Hid (∀ (A' : Option Addr) (c' : Nat), fall x.data.toList = (fall S.data.toList).map ((vs ++ [(⟨g, A', c'⟩ : FV)]).map FV.f ++ ·)) := hide (fun A' c' => by
          rw [hfa.out, h1, if_neg hr, hSr]
          cases fall r <;> simp)
        have e1 : ((S.size : Int) == 0) = false := by rw [beq_eq_false_iff_ne]; omega
        have e2 : (S.size == 0) = false := by rw [beq_eq_false_iff_ne]; omega
        clear FIN ho hm HSt HEr h1 hfr hlt hS hSr hst hSz her hgr hr hS0 hfa
        go_wp2_with fail
        refine HR.out.mono ?_
        rintro e w2 hpo
        obtain ⟨A1, c1, A', c', w6, rfl, hrun, hown, hmm⟩ := HFin.out e w2 hpo
        have HRun := hide hrun
        have HOwn := hide hown
        have HMm := hide hmm
        clear hpo hrun hown hmm
        unfold fval fcs at *
        go_wp2_with (at_builtin; refine Lib.wpList_append_run _ rfl (.tmp 17) (.tmp 19) 30 30 rfl (.slice A vs.length c) (.slice (some ⟨w2.heap.size + 1, 0, none⟩) 1 1) rfl rfl _ w6 HRun.out ?_)
        refine ⟨?rel, ?measure⟩
        case rel => exact ⟨S, vs ++ [⟨g, A1, c1⟩], A', c', rfl, by simp, HOwn, hide (HNew.out A1 c1), hide (by have := hsz.out; have := HSz.out; simp; omega), HMm⟩
        case measure => have := HSz.out; simp; omega
    · have hfr : fread s.data.toList = none := frd_ne (by rw [hgr]; exact her)
      have HE : Hid (fall x.data.toList = none) := hide (by rw [hfa.out, fall_none hfr]; rfl)
      have herb : (er != 0) = true := by simpa using her
      rw [hgr] at HR
      clear hfa hgr hfr her
      go_wp2_with fail
      refine HR.out.mono ?_
      rintro e w2 ⟨A1, c1, rfl, o1, l1, m1⟩
      have HMm := hide ((hm.out.trans m1 (by simp)).alloc (.cells (fcs A1 g.list.length c1 g) 26))
      clear o1 l1 m1
      unfold fval fcs str at *
      go_wp2_with fail
      go_ret2
      exact AllPost.none_ HMm.out HE.out rfl
end Go.Proofs.YtbjmcnmcodbkdaaDoor
