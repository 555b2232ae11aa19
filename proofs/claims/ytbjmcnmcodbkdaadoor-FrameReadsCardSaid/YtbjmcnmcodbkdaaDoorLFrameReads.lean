/-
  The statement FrameReads: its walk, and the walk brought to the given statement; no condition.
-/
import Derived.Test.YtbjmcnmcodbkdaaDoorH8
import Derived.Test.YtbjmcnmcodbkdaaDoorG8
import Derived.Test.YtbjmcnmcodbkdaaDoorRows
import Derived.Test.YtbjmcnmcodbkdaaDoorCards
import Derived.Test.YtbjmcnmcodbkdaaDoorTie
import Derived.Lay
import Derived.LaidOnce
import Derived.SevenTiedAt
import Derived.WalkKit
import Derived.ProofKit
import Derived.OpenShut
import Derived.ShutString
import Derived.ChangeOld
import Derived.Below

/-
  frames: the document's package: SameAll; the walk of FrameReads.
-/
namespace Go.Proofs.YtbjmcnmcodbkdaaDoor
open Go.RowKit Go.Sort
set_option linter.unusedVariables false
set_option linter.unusedSimpArgs false

theorem toList_same (a : ByteArray) : (a.toList == a.toList) = true := by simp

set_option maxRecDepth 100000 in
set_option maxHeartbeats 8000000 in
theorem rsames_any (w : World) (A B : Option Addr) (c d : Nat) (l l' : List FV) (hl : Frs w A l) (hl' : Frs w B l') (h : l.map FV.f = l'.map FV.f) :
    Calls Tryd.prog 15 #[.slice A l.length c, .slice B l'.length d] w fun e w' => e = .returned (.bool true) ∧ Mod [] w w' := by
  have hn : l.length = l'.length := by have := congrArg List.length h; simpa using this
  have hb := hl.1
  obtain ⟨n, hne⟩ : ∃ n, l'.length = n := ⟨_, rfl⟩
  have HN := hide (hn.trans hne)
  have HN2 := hide hne
  have HH := hide h
  have HL := hide hl
  have HL2 := hide hl'
  rw [hn, hne]
  rw [hn, hne] at hb
  clear hn hne h hl hl'
  have t1 : ((n : Int) == n) = true := by simp
  have t2 : ((n : Int) != n) = false := by simp
  go_enter Tryd.func15, Tryd.ntmps15
  go_wp2_with fail
  go_loopw [5] (fun iv wr => ∃ (i : Nat), i ≤ n ∧ iv = .int .i64 (i : Int) ∧ Hid (Mod [] w wr)) (fun iv _ => n - (intOf iv).toNat)
  case atStart => exact ⟨0, by omega, rfl, hide (Mod.refl _ _)⟩
  case round =>
    obtain ⟨i, hi, rfl, hmi⟩ := hrel
    by_cases h2 : i < n
    · obtain ⟨u, hu⟩ : ∃ u, l[i]? = some u := ⟨_, List.getElem?_eq_getElem (by have := HN.out; omega)⟩
      obtain ⟨v, hv⟩ : ∃ v, l'[i]? = some v := ⟨_, List.getElem?_eq_getElem (by have := HN2.out; omega)⟩
      have huv : u.f = v.f := by
        have h3 : (l.map FV.f)[i]? = some u.f := by rw [List.getElem?_map, hu]; rfl
        have h4 : (l'.map FV.f)[i]? = some v.f := by rw [List.getElem?_map, hv]; rfl
        rw [HH.out, h4] at h3
        exact (Option.some.inj h3).symm
      obtain ⟨g, o, rfl, hg, hc, hr⟩ := (HL.out.new hmi.out).at_ hu
      obtain ⟨g', o', rfl, hg', hc', hr'⟩ := (HL2.out.new hmi.out).at_ hv
      obtain ⟨f, A1, c1⟩ := u
      obtain ⟨f', A2, c2⟩ := v
      simp only at huv hr hr'
      subst huv
      have cs : ∀ d os, Calls Tryd.prog 14 #[fval A1 f.list.length c1 f, fval A2 f.list.length c2 f] (grow (redrawn wr d) os) fun e w'' => e = .returned (.bool true) ∧ ∃ p : Regrown, w'' = grow (redrawn wr p.d) p.os := fun d os => by
        have mm : Mod [] wr (grow (redrawn wr d) os) := Mod.of_below (below_regrown wr d os)
        exact Calls.regrown_of ((rsame_any _ A1 A2 f.list.length f.list.length c1 c2 f f (hr.new mm) (hr'.new mm) true (fsame_iff.2 rfl)).mono fun _ _ h => ⟨h.1, h.2.below (Nat.le_refl _) (by simp)⟩)
      have CS := hide cs
      unfold fval fcs at CS
      have y0 := cell_regrown (show wr.cell? ⟨g, o + i * 8, none⟩ = some (.int .u64 (f.kind : Nat)) from hc 0 _ rfl)
      have y1 := cell_regrown (show wr.cell? ⟨g, o + i * 8 + 1, none⟩ = some (.int .u64 (f.a : Nat)) from hc 1 _ rfl)
      have y2 := cell_regrown (show wr.cell? ⟨g, o + i * 8 + 2, none⟩ = some (.int .u64 (f.b : Nat)) from hc 2 _ rfl)
      have y3 := cell_regrown (show wr.cell? ⟨g, o + i * 8 + 3, none⟩ = some (.int .u64 (f.c : Nat)) from hc 3 _ rfl)
      have y4 := cell_regrown (show wr.cell? ⟨g, o + i * 8 + 4, none⟩ = some (.bool f.fin) from hc 4 _ rfl)
      have y5 := cell_regrown (show wr.cell? ⟨g, o + i * 8 + 5, none⟩ = some (.string f.data) from hc 5 _ rfl)
      have y6 := cell_regrown (show wr.cell? ⟨g, o + i * 8 + 6, none⟩ = some (.string f.more) from hc 6 _ rfl)
      have y7 := cell_regrown (show wr.cell? ⟨g, o + i * 8 + 7, none⟩ = some (.slice A1 f.list.length c1) from hc 7 _ rfl)
      have z0 := cell_regrown (show wr.cell? ⟨g', o' + i * 8, none⟩ = some (.int .u64 (f.kind : Nat)) from hc' 0 _ rfl)
      have z1 := cell_regrown (show wr.cell? ⟨g', o' + i * 8 + 1, none⟩ = some (.int .u64 (f.a : Nat)) from hc' 1 _ rfl)
      have z2 := cell_regrown (show wr.cell? ⟨g', o' + i * 8 + 2, none⟩ = some (.int .u64 (f.b : Nat)) from hc' 2 _ rfl)
      have z3 := cell_regrown (show wr.cell? ⟨g', o' + i * 8 + 3, none⟩ = some (.int .u64 (f.c : Nat)) from hc' 3 _ rfl)
      have z4 := cell_regrown (show wr.cell? ⟨g', o' + i * 8 + 4, none⟩ = some (.bool f.fin) from hc' 4 _ rfl)
      have z5 := cell_regrown (show wr.cell? ⟨g', o' + i * 8 + 5, none⟩ = some (.string f.data) from hc' 5 _ rfl)
      have z6 := cell_regrown (show wr.cell? ⟨g', o' + i * 8 + 6, none⟩ = some (.string f.more) from hc' 6 _ rfl)
      have z7 := cell_regrown (show wr.cell? ⟨g', o' + i * 8 + 7, none⟩ = some (.slice A2 f.list.length c2) from hc' 7 _ rfl)
      clear hu hv hc hc' hr hr' cs
      go_wp2_with fail
      refine wp_region_below (by kernel_rfl) (by kernel_rfl) (by kernel_rfl) ?_
      repeat (go_big_quiet_step (with_reducible exact CS.out _ _))
      refine wpQuiet_nil ?_
      intro _ hw'
      obtain ⟨⟨dq, osq⟩, hw''⟩ := hw'
      subst hw''
      have HMi := hide (hmi.out.trans (Mod.of_below (F := []) (below_regrown wr dq osq)) (by simp))
      go_wp2_with fail
      refine ⟨?rel, ?measure⟩
      case rel => exact ⟨i + 1, by omega, by go_num, HMi⟩
      case measure => simp [intOf]; omega
    · have hij : i = n := by omega
      subst hij
      have HM0 := hide hmi.out
      clear hmi
      go_wp2_with fail
      go_ret
      exact ⟨rfl, HM0.out⟩

set_option maxRecDepth 100000 in
set_option maxHeartbeats 8000000 in
theorem walkFrameReads (x : ByteArray) (_hx : x.size ≤ maxLen) (W : World) :
    Calls Tryd.prog 3 #[.string x] W fun e w' => e = .returned (.bool true) ∧ Below W.heap.size W w' := by
  by_cases hbig : 2048 < x.size
  · have hbi : (2048 : Int) < x.size := by omega
    clear hbig
    go_enter Tryd.func3, Tryd.ntmps3
    go_wp2_with fail
    refine (awake_any _).mono ?_
    rintro e w1 ⟨rfl, m1⟩
    go_wp2_with fail
    go_ret
    exact ⟨rfl, m1.below (Nat.le_refl _) (by simp)⟩
  · have hbi : ¬ (2048 : Int) < x.size := by omega
    have hxs : x.size ≤ 1000000 := by omega
    have H1 := hide (fun w => read_any w x hxs)
    have H2 := hide (fun w => rread_any w x hxs)
    have H3 := hide (fun w => all_any w x hxs)
    have H4 := hide (fun w => rall_any w x hxs)
    obtain ⟨f, r, er, hfr⟩ : ∃ f r er, frd x.data.toList = (f, r, er) := ⟨_, _, _, rfl⟩
    rw [hfr] at H1 H2
    obtain ⟨S, hS⟩ : ∃ S : ByteArray, str r = .string S := ⟨⟨r.toArray⟩, rfl⟩
    have HS := hide hS
    have t1 := toList_same S
    have t2 : (er == er) = true := by simp
    go_enter Tryd.func3, Tryd.ntmps3
    go_wp2_with fail
    refine (awake_any _).mono ?_
    rintro e w1 ⟨rfl, m1⟩
    have HM1 := hide m1
    clear m1 hfr hS
    go_wp2_with fail
    refine (H1.out _).mono ?_
    rintro e w2 ⟨A1, c1, rfl, o1, l1, m1⟩
    simp only at o1 l1
    rw [HS.out]
    have HM2 := hide (HM1.out.trans m1 (by simp))
    have HB2 := hide (Blk.new w2 26 (fcs A1 f.list.length c1 f))
    have HM2' := hide (HM2.out.alloc (.cells (fcs A1 f.list.length c1 f) 26))
    have HR1 := hide ((o1.rngs (by omega)).new ((Mod.refl [] w2).alloc (.cells (fcs A1 f.list.length c1 f) 26)))
    unfold fval fcs
    clear m1 o1
    go_wp2_with fail
    refine (H2.out _).mono ?_
    rintro e w3 ⟨A2, c2, rfl, o2, l2, m2⟩
    simp only at o2 l2
    rw [HS.out]
    have HM3 := hide (HM2'.out.trans m2 (by simp))
    have HB3 := hide (m2.blk HB2.out (by simp))
    have HB4 := hide (HB3.out.alloc (.cells (fcs A2 f.list.length c2 f) 26))
    have HB5 := hide (Blk.new w3 26 (fcs A2 f.list.length c2 f))
    have HM3' := hide (HM3.out.alloc (.cells (fcs A2 f.list.length c2 f) 26))
    have HR2 := hide ((HR1.out.new m2).new ((Mod.refl [] w3).alloc (.cells (fcs A2 f.list.length c2 f) 26)))
    have HR3 := hide ((o2.rngs (by omega)).new ((Mod.refl [] w3).alloc (.cells (fcs A2 f.list.length c2 f) 26)))
    unfold fval fcs
    clear m2 o2
    go_wp2_with fail
    refine (H3.out _).mono ?_
    rintro e w4 ⟨m3, hp3⟩
    have HM4 := hide (HM3'.out.trans m3 (by simp))
    have HB6 := hide (m3.blk HB4.out (by simp))
    have HB7 := hide (m3.blk HB5.out (by simp))
    have HR4 := hide (HR2.out.new m3)
    have HR5 := hide (HR3.out.new m3)
    have HS1 := hide (fun (w' : World) (m : Mod [] w4 w') => rsame_any w' A1 A2 f.list.length f.list.length c1 c2 f f (HR4.out.new m) (HR5.out.new m) true (fsame_iff.2 rfl))
    unfold RPost fval fcs at HS1
    obtain ⟨F1, hF1⟩ : ∃ F1, w2.heap.size = F1 := ⟨_, rfl⟩
    obtain ⟨F2, hF2⟩ : ∃ F2, w3.heap.size = F2 := ⟨_, rfl⟩
    rw [hF1] at HB6
    rw [hF2] at HB7
    rw [hF1, hF2]
    clear hF1 hF2
    cases hfa : fall x.data.toList with
    | none =>
      rw [hfa] at hp3
      simp only at hp3
      subst hp3
      have H4' : Hid (∀ w, Calls Tryd.prog 13 #[.string x] w fun e w' => Mod [] w w' ∧ e = .returned (.tuple #[.slice none 0 0, .int .i64 2])) := hide (fun w => (H4.out w).mono (fun e w' h => by
        obtain ⟨a, b⟩ := h
        rw [hfa] at b
        exact ⟨a, b⟩))
      have HSs := hide (fun w => rsames_any w none none 0 0 [] [] ⟨by simp, .inl rfl, by simp⟩ ⟨by simp, .inl rfl, by simp⟩ rfl)
      simp only [List.length_nil] at HSs
      clear m3 hfa
      go_wp2_with fail
      refine (H4'.out _).mono ?_
      rintro e w5 ⟨m4, rfl⟩
      obtain ⟨y0, y1, y2, y3, y4, y5, y6, y7⟩ := fcells (m4.blk HB6.out (by simp))
      obtain ⟨z0, z1, z2, z3, z4, z5, z6, z7⟩ := fcells (m4.blk HB7.out (by simp))
      have HM5 := hide (HM4.out.trans m4 (by simp))
      have HS2 := hide (HS1.out _ m4)
      clear m4
      go_wp2_with fail
      refine HS2.out.mono ?_
      rintro e w6 ⟨rfl, m5⟩
      have HM6 := hide (HM5.out.trans m5 (by simp))
      clear m5
      go_wp2_with fail
      refine (HSs.out _).mono ?_
      rintro e w7 ⟨rfl, m6⟩
      have HM7 := hide (HM6.out.trans m6 (by simp))
      clear m6
      go_wp2_with fail
      go_ret
      exact ⟨rfl, HM7.out.below (Nat.le_refl _) (by simp)⟩
    | some l =>
      rw [hfa] at hp3
      obtain ⟨vs, Av, cv, hvs, rfl, hov, hlv⟩ := hp3
      have H4' : Hid (∀ w, Calls Tryd.prog 13 #[.string x] w fun e w' => Mod [] w w' ∧ ∃ (vs : List FV) (A : Option Addr) (c : Nat), vs.map FV.f = l ∧ e = .returned (.tuple #[.slice A vs.length c, .int .i64 0]) ∧ FsOwn w' w.heap.size A c vs ∧ vs.length ≤ x.data.toList.length) := hide (fun w => (H4.out w).mono (fun e w' h => by
        obtain ⟨a, b⟩ := h
        rw [hfa] at b
        exact ⟨a, b⟩))
      have hxl := bytes_len x
      have HF1 := hide (hov.frs (by omega))
      have HV1 := hide hvs
      clear m3 hfa hov hvs hlv
      go_wp2_with fail
      refine (H4'.out _).mono ?_
      rintro e w5 ⟨m4, us, Au, cu, hus, rfl, hou, hlu⟩
      obtain ⟨y0, y1, y2, y3, y4, y5, y6, y7⟩ := fcells (m4.blk HB6.out (by simp))
      obtain ⟨z0, z1, z2, z3, z4, z5, z6, z7⟩ := fcells (m4.blk HB7.out (by simp))
      have HM5 := hide (HM4.out.trans m4 (by simp))
      have HS2 := hide (HS1.out _ m4)
      have HF2 := hide (HF1.out.new m4)
      have HF3 := hide (hou.frs (by omega))
      have HV2 := hide hus
      clear m4 hou hus hlu hxl
      go_wp2_with fail
      refine HS2.out.mono ?_
      rintro e w6 ⟨rfl, m5⟩
      have HM6 := hide (HM5.out.trans m5 (by simp))
      have HSs := hide (rsames_any w6 Av Au cv cu vs us (HF2.out.new m5) (HF3.out.new m5) (by rw [HV1.out, HV2.out]))
      clear m5
      go_wp2_with fail
      refine HSs.out.mono ?_
      rintro e w7 ⟨rfl, m6⟩
      have HM7 := hide (HM6.out.trans m6 (by simp))
      clear m6
      go_wp2_with fail
      go_ret
      exact ⟨rfl, HM7.out.below (Nat.le_refl _) (by simp)⟩
end Go.Proofs.YtbjmcnmcodbkdaaDoor

/-
  The row of 'FrameReads': the walk's contract brought to the given statement.
-/
namespace Go.Proofs.YtbjmcnmcodbkdaaDoor.lawFrameReads
open Go.ChangeShapes Go.WideShapes Go.ChangeAt Go.RowKit
open Go.ChangeMaps (open_string shut_string)
set_option linter.unusedVariables false

theorem own : ownKnob Tryd.prog.godebug = none := by kernel_rfl
theorem laidOut : laidOutB Tryd.prog = true := by kernel_rfl

set_option maxRecDepth 100000 in
theorem lifted (os : Os) (started : os.Started) (H : Type) (enc : TypeId × Value → H) :
    ReturnsInHanded {} Tryd.checked os 3 .any (fun w args => (Rows.frameReadsSpec.pre enc Tryd.prog Tryd.f3 Rows.frameReadsRow.domain false w args ∧ laidMetH Tryd.prog Rows.frameReadsRow.laid w) ∧ sizedMet enc Tryd.prog Tryd.f3 (OpenSpec.ofChange Rows.frameReadsSpec) false w args)
      (Rows.frameReadsSpec.post enc Tryd.prog Tryd.f3 false true false false) := by
  refine returnsInHanded_of_change_and (C := Tryd.checked) (X := fun w _ => laidMetH Tryd.prog Rows.frameReadsRow.laid w) (fun _ _ _ hh h => h.of_heap hh) own started (by kernel_rfl) Tryd.func3
    (ChangeSpec.witness_shaped (enc := enc) (C := Tryd.checked) (os := os) (X := fun w _ => laidMetH Tryd.prog Rows.frameReadsRow.laid w) false (World.laidAll Tryd.prog os Rows.frameReadsRow.laid) #[.string ⟨#[]⟩] 8 (World.laidAll_os _ _ _)
      (World.shaped_of_ZipB (by kernel_rfl) (by kernel_rfl)) (by kernel_rfl) (by kernel_rfl) (by kernel_rfl)
      (by rw [MakeChecks.laidMetH_plain _ _ _ (by kernel_rfl)]; exact laidMet_laidAll _ (by kernel_rfl) (by kernel_rfl))) ?_
  intro W base args ds gs before hval0 hW hcnd _ _ _
  have hval : ∀ (j : Nat) t v, Tryd.f3.params[j]? = some t → args[j]? = some v → Value.okWide Tryd.prog W .any base t v := hval0
  have hW' := hW
  obtain ⟨p, q, hA0, hV, rfl, hfz, hnd⟩ := hW
  have hA : DataW.TrodAll enc Tryd.prog W 0 (fun _ => true) true Tryd.f3.params.toList args.toList ds p := hA0
  rw [Tryd.params3] at hA hval
  obtain ⟨v0, vs0, d0, ds0, p0, q0, hargs, rfl, rfl, h0, r0⟩ := trodAll_cons hA
  obtain ⟨rfl, rfl, rfl⟩ := trodAll_nil r0
  obtain rfl : args = #[v0] := by cases args; simp_all
  obtain ⟨rfl, rfl⟩ := trodVars_none hV
  obtain ⟨x0, rfl, rfl, rfl, ws0⟩ := open_string Tryd.underlying9 (hval 0 9 v0 rfl rfl) h0
  clear hA0 hval0
  refine (walkFrameReads x0 ws0 W).mono fun e W' ⟨he, bel⟩ => ?_
  subst he
  exact ⟨_, rfl, _, _, _, [], _, [], hW', trodAll_mk1 (shut_bool Tryd.underlying4 _), (trodAll_cons_mk (shut_string Tryd.underlying9 ws0) trodAll_mk0), rfl, bel.frame _, fun h => by cases h⟩

theorem over : Rows.frameReadsRow.holds Tryd.pinned (OpenSpec.ofChange Rows.frameReadsSpec) :=
  OpenClaim.holds_of_wide 3 Tryd.f3 rfl rfl rfl rfl rfl rfl rfl ⟨rfl, rfl, rfl, rfl, rfl⟩ rfl rfl rfl rfl rfl (by kernel_rfl) Tryd.func3 (by kernel_rfl)
    (of_decide_eq_true (by kernel_rfl)) (by unfold Func.isWrapper; first | (rw [if_pos (by decide +kernel)]; kernel_rfl) | (rw [if_neg (by decide +kernel)]; exact ⟨rfl, rfl⟩))
    (fun os started H enc _ => lifted os started H enc)

/-- The statement: the card. -/
theorem proved : Rows.FrameReadsCardSaid :=
  Claim7.holds_tied_plain_at .later [] [.data, .pinned] true (true, "dd957caea826dfd9588818920ea08f281d87fb61899cd75292fd604fb4911ede") false over (fun _ h => by cases h) (by kernel_rfl) (fun _ h => by cases h) frameReads_row_tie rfl ⟨rfl, rfl⟩ (by kernel_rfl) rfl
    (fun f fn hf hfn => by
      obtain rfl : f = 3 := Option.some.inj ((show Tryd.prog.funcNamed "kymograph/kymographlaw03.FrameReads" = some 3 by kernel_rfl).symm.trans hf) |>.symm
      obtain rfl : fn = Tryd.f3 := (Option.some.inj (Tryd.func3.symm.trans hfn)).symm
      exact ⟨by kernel_rfl, fun j t ht => by
        rw [Tryd.params3] at ht
        have hm : t ∈ [9] := by simpa using Array.mem_of_getElem? ht
        have hall : ([9].all fun u => !Tryd.prog.wantsStandIn u) = true := by kernel_rfl
        exact (show Tryd.prog.wantsStandIn t = false by simpa using List.all_eq_true.1 hall t hm)⟩)
    (by kernel_rfl)
#print axioms proved
end Go.Proofs.YtbjmcnmcodbkdaaDoor.lawFrameReads
