/-
  Contracts and plain laws that the proofs of this seat share, part 10 of 11: StX, Tail, StN, StQ.
-/
import Derived.Test.YtjdfemfobcjecaaGreatG9
import Derived.Test.YtjdfemfobcjecaaGreatG7
import Derived.Test.YtjdfemfobcjecaaGreatG1
import Derived.StillTailTactics
import Derived.Test.YtjdfemfobcjecaaGreatG8

/-
  streams: Got.
-/
namespace Go.Proofs.YtjdfemfobcjecaaGreat
open Go.RowKit Go.Sort
set_option linter.unusedVariables false
set_option linter.unusedSimpArgs false
/-- what Got does -/
inductive Ss.Gots (s : Ss) (f : Fr) : Int → Ss → Prop
  | comes (r : Int) (s' : Ss) (hk : f.kind = 8 ∨ f.kind = 4) (h : s.Comes f r s') : s.Gots f r s'
  | stopBad (v : Value) (c : Nat) (s' : Ss) (hk : f.kind = 5) (h : s.Names f.a (s.sends f.a) v c s') (hc : c ≠ 0) : s.Gots f (c : Int) s'
  | stop (s' : Ss) (x : St) (b : Nat) (dv sv dv' sv' : Value) (o : Ob) (hk : f.kind = 5) (h : s.Names f.a (s.sends f.a) (.pointer (some ⟨x.xb, 0, none⟩)) 0 s') (hx : x ∈ s'.l) (hid : x.id = f.a) (ho : x.out = some (b, dv, sv, o)) : s.Gots f 0 (s'.put (x.resetBy b dv' sv' o f.b))
  | raiseBad (v : Value) (c : Nat) (s' : Ss) (hk : f.kind = 17) (h : s.Names f.a (s.sends f.a) v c s') (hc : c ≠ 0) : s.Gots f (c : Int) s'
  | raise (s' : Ss) (x : St) (b : Nat) (dv sv dv' sv' : Value) (o : Ob) (hk : f.kind = 17) (h : s.Names f.a (s.sends f.a) (.pointer (some ⟨x.xb, 0, none⟩)) 0 s') (hx : x ∈ s'.l) (hid : x.id = f.a) (ho : x.out = some (b, dv, sv, o)) : s.Gots f 0 (s'.put (x.withOut b dv' sv' (o.raise f.b)))
  | blocked (v : Value) (c : Nat) (s' : Ss) (hk : f.kind = 21) (h : s.Names f.a (s.takes f.a) v c s') : s.Gots f (c : Int) s'
  | data (s' : Ss) (hk : f.kind = 16) (h : s.Others ⟨f.a, 0, 0, 0, 0, 0⟩ s') : s.Gots f 0 s'
  | bidis (s' : Ss) (hk : f.kind = 18) (h : s.Others ⟨0, 0, 0, 0, f.a, 0⟩ s') : s.Gots f 0 s'
  | unis (s' : Ss) (hk : f.kind = 19) (h : s.Others ⟨0, 0, 0, 0, 0, f.a⟩ s') : s.Gots f 0 s'
  | idle (hk : f.kind = 20 ∨ f.kind = 22 ∨ f.kind = 23) : s.Gots f 0 s
  | bad (hk : f.kind ≠ 8 ∧ f.kind ≠ 4 ∧ f.kind ≠ 5 ∧ f.kind ≠ 17 ∧ f.kind ≠ 21 ∧ f.kind ≠ 16 ∧ f.kind ≠ 18 ∧ f.kind ≠ 19 ∧ f.kind ≠ 20 ∧ f.kind ≠ 22 ∧ f.kind ≠ 23) : s.Gots f 1 s
set_option maxRecDepth 100000 in
set_option maxHeartbeats 16000000 in
theorem stgot_any (w : World) (sb : Nat) (s : Ss) (h : SBox w sb s) (hw : s.WF) (hsu : ∀ x ∈ s.l, x.supp ≤ 65000) (A : Option Addr) (n c : Nat) (f : Fr) (hk : f.kind ≤ 18446744073709551615) (ha : f.a ≤ 18446744073709551615) (hb : f.b ≤ 18446744073709551615) (hc : f.c ≤ 18446744073709551615) (hd : f.data.size ≤ 65536) :
    Calls Tryz.prog 11 #[.pointer (some ⟨sb, 0, none⟩), fval A n c f] w fun e w' => ∃ r s', e = .returned (.int .i64 r) ∧ s.Gots f r s' ∧ SStep w sb s s' w' := by
  have HB := hide h
  have hM : Mod [] w (w.alloc (.cells (fcs A n c f) 31)) := (Mod.refl [] w).alloc _
  have hN := Blk.new w 31 (fcs A n c f)
  have hBM := h.new hM
  obtain ⟨w1, hw1⟩ : ∃ w1, w.alloc (.cells (fcs A n c f) 31) = w1 := ⟨_, rfl⟩
  rw [hw1] at hM hN hBM
  have c0 : w1.cell? ⟨w.heap.size, 0, none⟩ = some (.int .u64 (f.kind : Int)) := hN.cell 0
  have c1 : w1.cell? ⟨w.heap.size, 1, none⟩ = some (.int .u64 (f.a : Int)) := hN.cell 1
  have c2 : w1.cell? ⟨w.heap.size, 2, none⟩ = some (.int .u64 (f.b : Int)) := hN.cell 2
  have c3 : w1.cell? ⟨w.heap.size, 3, none⟩ = some (.int .u64 (f.c : Int)) := hN.cell 3
  have c4 : w1.cell? ⟨w.heap.size, 4, none⟩ = some (.bool f.fin) := hN.cell 4
  have c5 : w1.cell? ⟨w.heap.size, 5, none⟩ = some (.string f.data) := hN.cell 5
  have c6 : w1.cell? ⟨w.heap.size, 6, none⟩ = some (.string f.more) := hN.cell 6
  have c7 : w1.cell? ⟨w.heap.size, 7, none⟩ = some (.slice A n c) := hN.cell 7
  have HST : Hid (SStep w sb s s w1) := hide (SStep.refl h hM)
  have HBM := hide hBM
  have HW := hide hw
  have HN := hide hN
  have HSu := hide hsu
  clear h hN hM hBM hw hsu
  unfold fval
  unfold fcs at hw1 ⊢
  by_cases h8 : f.kind = 8
  · have HK := hide h8
    have hk8 : ((f.kind : Int) == 8) = true := by rw [HK.out]; rfl
    have hk4 : ((f.kind : Int) == 4) = false := by rw [HK.out]; rfl
    have hk5 : ((f.kind : Int) == 5) = false := by rw [HK.out]; rfl
    have hk17 : ((f.kind : Int) == 17) = false := by rw [HK.out]; rfl
    have hk21 : ((f.kind : Int) == 21) = false := by rw [HK.out]; rfl
    have hk16 : ((f.kind : Int) == 16) = false := by rw [HK.out]; rfl
    have hk18 : ((f.kind : Int) == 18) = false := by rw [HK.out]; rfl
    have hk19 : ((f.kind : Int) == 19) = false := by rw [HK.out]; rfl
    have hk20 : ((f.kind : Int) == 20) = false := by rw [HK.out]; rfl
    have hk22 : ((f.kind : Int) == 22) = false := by rw [HK.out]; rfl
    have hk23 : ((f.kind : Int) == 23) = false := by rw [HK.out]; rfl
    clear h8
    have hco := stcomes_any w1 sb s HBM.out HW.out HSu.out A n c f hk ha hb hc hd
    unfold fval fcs at hco
    have HCo := hide hco
    clear hco
    go_enter Tryz.func11, Tryz.ntmps11
    go_wp2_with fail
    clear hw1
    refine HCo.out.mono ?_
    rintro e w2 ⟨r, s', rfl, hco, hst⟩
    have HC2 := hide hco
    have HS2 := hide hst
    clear hco hst
    go_wp2_with fail
    go_ret
    exact ⟨r, s', rfl, .comes r s' (.inl HK.out) HC2.out, HST.out.trans HS2.out⟩
  have HN8 := hide h8
  clear h8
  by_cases h4 : f.kind = 4
  · have HK := hide h4
    have hk8 : ((f.kind : Int) == 8) = false := by rw [HK.out]; rfl
    have hk4 : ((f.kind : Int) == 4) = true := by rw [HK.out]; rfl
    have hk5 : ((f.kind : Int) == 5) = false := by rw [HK.out]; rfl
    have hk17 : ((f.kind : Int) == 17) = false := by rw [HK.out]; rfl
    have hk21 : ((f.kind : Int) == 21) = false := by rw [HK.out]; rfl
    have hk16 : ((f.kind : Int) == 16) = false := by rw [HK.out]; rfl
    have hk18 : ((f.kind : Int) == 18) = false := by rw [HK.out]; rfl
    have hk19 : ((f.kind : Int) == 19) = false := by rw [HK.out]; rfl
    have hk20 : ((f.kind : Int) == 20) = false := by rw [HK.out]; rfl
    have hk22 : ((f.kind : Int) == 22) = false := by rw [HK.out]; rfl
    have hk23 : ((f.kind : Int) == 23) = false := by rw [HK.out]; rfl
    clear h4
    have hco := stcomes_any w1 sb s HBM.out HW.out HSu.out A n c f hk ha hb hc hd
    unfold fval fcs at hco
    have HCo := hide hco
    clear hco
    go_enter Tryz.func11, Tryz.ntmps11
    go_wp2_with fail
    clear hw1
    refine HCo.out.mono ?_
    rintro e w2 ⟨r, s', rfl, hco, hst⟩
    have HC2 := hide hco
    have HS2 := hide hst
    clear hco hst
    go_wp2_with fail
    go_ret
    exact ⟨r, s', rfl, .comes r s' (.inr HK.out) HC2.out, HST.out.trans HS2.out⟩
  have HN4 := hide h4
  clear h4
  by_cases h5 : f.kind = 5
  · have HK := hide h5
    have hk8 : ((f.kind : Int) == 8) = false := by rw [HK.out]; rfl
    have hk4 : ((f.kind : Int) == 4) = false := by rw [HK.out]; rfl
    have hk5 : ((f.kind : Int) == 5) = true := by rw [HK.out]; rfl
    have hk17 : ((f.kind : Int) == 17) = false := by rw [HK.out]; rfl
    have hk21 : ((f.kind : Int) == 21) = false := by rw [HK.out]; rfl
    have hk16 : ((f.kind : Int) == 16) = false := by rw [HK.out]; rfl
    have hk18 : ((f.kind : Int) == 18) = false := by rw [HK.out]; rfl
    have hk19 : ((f.kind : Int) == 19) = false := by rw [HK.out]; rfl
    have hk20 : ((f.kind : Int) == 20) = false := by rw [HK.out]; rfl
    have hk22 : ((f.kind : Int) == 22) = false := by rw [HK.out]; rfl
    have hk23 : ((f.kind : Int) == 23) = false := by rw [HK.out]; rfl
    clear h5
    have CT := hide (fun d os => Calls.regrown_of ((stsends_any (grow (redrawn w1 d) os) sb s (HBM.out.new (Mod.of_below (F := []) (below_regrown w1 d os))) f.a ha _ rfl).mono fun _ _ hh => ⟨hh.1, by rw [hh.2]; exact Below.refl _ _⟩))
    have HNm := hide (fun W (m : Mod [] w1 W) => stnamed_any W sb s (HBM.out.new m) HW.out f.a ha (s.sends f.a))
    have yc1 := cell_regrown c1
    go_enter Tryz.func11, Tryz.ntmps11
    go_wp2_with fail
    clear hw1
    clear c0 c1 c2 c3 c4 c5 c6 c7
    refine wp_region_mid 7 (by kernel_rfl) (by kernel_rfl) ?_
    simp only [List.take_succ_cons, List.take_zero, List.drop_succ_cons, List.drop_zero]
    repeat (go_big_quiet_step (with_reducible exact CT.out _ _))
    refine wpQuiet_nil ?_
    intro W hbw
    have HMw : Hid (Mod [] w1 W) := hide (Mod.of_below (F := []) hbw)
    clear hbw yc1
    go_wp2_with fail
    refine (HNm.out W HMw.out).mono ?_
    rintro e w3 ⟨v, cd, s', rfl, hnm, hst⟩
    have hs3 : SStep w1 sb s s' w3 := (SStep.refl HBM.out HMw.out).trans hst
    have HS3 := hide hs3
    have HNm2 := hide hnm
    clear hst hs3 hnm
    go_wp2_with fail
    refine Behind.moves ?_
    repeat (quiet_step (fail))
    refine wpQuiet_nil ?_
    intro k3
    have HS4 : Hid (SStep w1 sb s s' (w3.drewN k3)) := hide (HS3.out.trans (SStep.refl HS3.out.1 ((Mod.refl [] w3).drewN k3)))
    obtain ⟨w4, hw4⟩ : ∃ w4, w3.drewN k3 = w4 := ⟨_, rfl⟩
    rw [hw4] at HS4 ⊢
    clear hw4
    by_cases hcd : cd = 0
    · subst hcd
      obtain ⟨hmay, x, hx, hxid, rfl⟩ := HNm2.out.ok
      have hw' := HNm2.out.wf HW.out
      have hin : x.out.isSome = true := by
        rw [hw'.out x hx, hxid]
        have hsd := HNm2.out.side
        unfold Ss.sends at hmay ⊢
        rw [hsd]; exact hmay
      obtain ⟨p, hxo⟩ := Option.isSome_iff_exists.1 hin
      obtain ⟨b, dv, sv, o⟩ := p
      have hfr := frame_stays HB.out HN.out HS4.out
      have hxb := HS4.out.1.all x hx
      have x2 : w4.cell? ⟨x.xb, 2, none⟩ = some (.pointer (some ⟨b, 0, none⟩)) := by rw [hxb.blk.cell]; unfold St.cells St.outV; rw [hxo]; rfl
      have d2 : w4.cell? ⟨w.heap.size, 2, none⟩ = some (.int .u64 (f.b : Int)) := hfr.cell 2
      have HX := hide hx
      have HXid := hide hxid
      have HXo := hide hxo
      have hob := hxb.out b dv sv o hxo
      have HW' := hide hw'
      have HRs := hide (stresets_any w4 sb s' HS4.out.1 hw'.ids x hx b dv sv o hxo f.b)
      clear hmay hw' hin hxb hfr hx hxid hxo hob x2
      go_wp2_with fail
      refine HRs.out.mono ?_
      rintro e w5 ⟨rfl, dv', sv', hst⟩
      have HS5 := hide hst
      clear hst
      go_wp2_with fail
      go_ret
      exact ⟨_, _, rfl, .stop s' x b dv sv dv' sv' o HK.out HNm2.out HX.out HXid.out HXo.out, HST.out.trans (HS4.out.trans HS5.out)⟩
    · have HCd := hide hcd
      have hcn : ((cd : Int) == 0) = false := by rw [beq_eq_false_iff_ne]; omega
      have hcn2 : ((cd : Int) != 0) = true := by rw [bne, hcn]; rfl
      clear hcd
      go_wp2_with fail
      go_ret
      exact ⟨_, s', rfl, .stopBad v cd s' HK.out HNm2.out HCd.out, HST.out.trans HS4.out⟩
  have HN5 := hide h5
  clear h5
  by_cases h17 : f.kind = 17
  · have HK := hide h17
    have hk8 : ((f.kind : Int) == 8) = false := by rw [HK.out]; rfl
    have hk4 : ((f.kind : Int) == 4) = false := by rw [HK.out]; rfl
    have hk5 : ((f.kind : Int) == 5) = false := by rw [HK.out]; rfl
    have hk17 : ((f.kind : Int) == 17) = true := by rw [HK.out]; rfl
    have hk21 : ((f.kind : Int) == 21) = false := by rw [HK.out]; rfl
    have hk16 : ((f.kind : Int) == 16) = false := by rw [HK.out]; rfl
    have hk18 : ((f.kind : Int) == 18) = false := by rw [HK.out]; rfl
    have hk19 : ((f.kind : Int) == 19) = false := by rw [HK.out]; rfl
    have hk20 : ((f.kind : Int) == 20) = false := by rw [HK.out]; rfl
    have hk22 : ((f.kind : Int) == 22) = false := by rw [HK.out]; rfl
    have hk23 : ((f.kind : Int) == 23) = false := by rw [HK.out]; rfl
    clear h17
    have CT := hide (fun d os => Calls.regrown_of ((stsends_any (grow (redrawn w1 d) os) sb s (HBM.out.new (Mod.of_below (F := []) (below_regrown w1 d os))) f.a ha _ rfl).mono fun _ _ hh => ⟨hh.1, by rw [hh.2]; exact Below.refl _ _⟩))
    have HNm := hide (fun W (m : Mod [] w1 W) => stnamed_any W sb s (HBM.out.new m) HW.out f.a ha (s.sends f.a))
    have yc1 := cell_regrown c1
    go_enter Tryz.func11, Tryz.ntmps11
    go_wp2_with fail
    clear hw1
    clear c0 c1 c2 c3 c4 c5 c6 c7
    refine wp_region_mid 7 (by kernel_rfl) (by kernel_rfl) ?_
    simp only [List.take_succ_cons, List.take_zero, List.drop_succ_cons, List.drop_zero]
    repeat (go_big_quiet_step (with_reducible exact CT.out _ _))
    refine wpQuiet_nil ?_
    intro W hbw
    have HMw : Hid (Mod [] w1 W) := hide (Mod.of_below (F := []) hbw)
    clear hbw yc1
    go_wp2_with fail
    refine (HNm.out W HMw.out).mono ?_
    rintro e w3 ⟨v, cd, s', rfl, hnm, hst⟩
    have hs3 : SStep w1 sb s s' w3 := (SStep.refl HBM.out HMw.out).trans hst
    have HS3 := hide hs3
    have HNm2 := hide hnm
    clear hst hs3 hnm
    go_wp2_with fail
    refine Behind.moves ?_
    repeat (quiet_step (fail))
    refine wpQuiet_nil ?_
    intro k3
    have HS4 : Hid (SStep w1 sb s s' (w3.drewN k3)) := hide (HS3.out.trans (SStep.refl HS3.out.1 ((Mod.refl [] w3).drewN k3)))
    obtain ⟨w4, hw4⟩ : ∃ w4, w3.drewN k3 = w4 := ⟨_, rfl⟩
    rw [hw4] at HS4 ⊢
    clear hw4
    by_cases hcd : cd = 0
    · subst hcd
      obtain ⟨hmay, x, hx, hxid, rfl⟩ := HNm2.out.ok
      have hw' := HNm2.out.wf HW.out
      have hin : x.out.isSome = true := by
        rw [hw'.out x hx, hxid]
        have hsd := HNm2.out.side
        unfold Ss.sends at hmay ⊢
        rw [hsd]; exact hmay
      obtain ⟨p, hxo⟩ := Option.isSome_iff_exists.1 hin
      obtain ⟨b, dv, sv, o⟩ := p
      have hfr := frame_stays HB.out HN.out HS4.out
      have hxb := HS4.out.1.all x hx
      have x2 : w4.cell? ⟨x.xb, 2, none⟩ = some (.pointer (some ⟨b, 0, none⟩)) := by rw [hxb.blk.cell]; unfold St.cells St.outV; rw [hxo]; rfl
      have d2 : w4.cell? ⟨w.heap.size, 2, none⟩ = some (.int .u64 (f.b : Int)) := hfr.cell 2
      have HX := hide hx
      have HXid := hide hxid
      have HXo := hide hxo
      have hob := hxb.out b dv sv o hxo
      have HW' := hide hw'
      have HRa := hide (fun W (m : Mod [] w4 W) => raise_any W b o dv sv (hob.mod m (by simp)) f.b hb)
      have y2 := cell_regrown x2
      have yd2 := cell_regrown d2
      clear hmay hw' hin hxb hfr hx hxid hxo hob
      go_wp2_with fail
      clear x2 d2
      refine wp_region_mid 6 (by kernel_rfl) (by kernel_rfl) ?_
      simp only [List.take_succ_cons, List.take_zero, List.drop_succ_cons, List.drop_zero]
      repeat (go_big_quiet_step (fail))
      refine wpQuiet_nil ?_
      intro W5 hbw
      have HMw5 : Hid (Mod [] w4 W5) := hide (Mod.of_below (F := []) hbw)
      clear hbw y2 yd2
      go_wp2_with fail
      refine (HRa.out W5 HMw5.out).mono ?_
      rintro e w6 ⟨rfl, ho⟩
      obtain ⟨dv', sv', hst6⟩ := (HS4.out.1.new HMw5.out).outStep HW'.out.ids HX.out HXo.out ho
      have HS6 := hide (HS4.out.trans ((SStep.refl HS4.out.1 HMw5.out).trans hst6))
      clear hst6 ho
      go_wp2_with fail
      refine Behind.moves ?_
      repeat (quiet_step (fail))
      refine wpQuiet_nil ?_
      intro k6
      go_wp2_with fail
      go_ret
      exact ⟨_, _, rfl, .raise s' x b dv sv dv' sv' o HK.out HNm2.out HX.out HXid.out HXo.out, HST.out.trans (HS6.out.trans (SStep.refl HS6.out.1 ((Mod.refl [] w6).drewN k6)))⟩
    · have HCd := hide hcd
      have hcn : ((cd : Int) == 0) = false := by rw [beq_eq_false_iff_ne]; omega
      have hcn2 : ((cd : Int) != 0) = true := by rw [bne, hcn]; rfl
      clear hcd
      go_wp2_with fail
      go_ret
      exact ⟨_, s', rfl, .raiseBad v cd s' HK.out HNm2.out HCd.out, HST.out.trans HS4.out⟩
  have HN17 := hide h17
  clear h17
  by_cases h21 : f.kind = 21
  · have HK := hide h21
    have hk8 : ((f.kind : Int) == 8) = false := by rw [HK.out]; rfl
    have hk4 : ((f.kind : Int) == 4) = false := by rw [HK.out]; rfl
    have hk5 : ((f.kind : Int) == 5) = false := by rw [HK.out]; rfl
    have hk17 : ((f.kind : Int) == 17) = false := by rw [HK.out]; rfl
    have hk21 : ((f.kind : Int) == 21) = true := by rw [HK.out]; rfl
    have hk16 : ((f.kind : Int) == 16) = false := by rw [HK.out]; rfl
    have hk18 : ((f.kind : Int) == 18) = false := by rw [HK.out]; rfl
    have hk19 : ((f.kind : Int) == 19) = false := by rw [HK.out]; rfl
    have hk20 : ((f.kind : Int) == 20) = false := by rw [HK.out]; rfl
    have hk22 : ((f.kind : Int) == 22) = false := by rw [HK.out]; rfl
    have hk23 : ((f.kind : Int) == 23) = false := by rw [HK.out]; rfl
    clear h21
    have CT := hide (fun d os => Calls.regrown_of ((sttakes_any (grow (redrawn w1 d) os) sb s (HBM.out.new (Mod.of_below (F := []) (below_regrown w1 d os))) f.a ha _ rfl).mono fun _ _ hh => ⟨hh.1, by rw [hh.2]; exact Below.refl _ _⟩))
    have HNm := hide (fun W (m : Mod [] w1 W) => stnamed_any W sb s (HBM.out.new m) HW.out f.a ha (s.takes f.a))
    have yc1 := cell_regrown c1
    go_enter Tryz.func11, Tryz.ntmps11
    go_wp2_with fail
    clear hw1
    clear c0 c1 c2 c3 c4 c5 c6 c7
    refine wp_region_mid 7 (by kernel_rfl) (by kernel_rfl) ?_
    simp only [List.take_succ_cons, List.take_zero, List.drop_succ_cons, List.drop_zero]
    repeat (go_big_quiet_step (with_reducible exact CT.out _ _))
    refine wpQuiet_nil ?_
    intro W hbw
    have HMw : Hid (Mod [] w1 W) := hide (Mod.of_below (F := []) hbw)
    clear hbw yc1
    go_wp2_with fail
    refine (HNm.out W HMw.out).mono ?_
    rintro e w3 ⟨v, cd, s', rfl, hnm, hst⟩
    have hs3 : SStep w1 sb s s' w3 := (SStep.refl HBM.out HMw.out).trans hst
    have HS3 := hide hs3
    have HNm2 := hide hnm
    clear hst hs3 hnm
    go_wp2_with fail
    refine Behind.moves ?_
    repeat (quiet_step (fail))
    refine wpQuiet_nil ?_
    intro k3
    have HS4 : Hid (SStep w1 sb s s' (w3.drewN k3)) := hide (HS3.out.trans (SStep.refl HS3.out.1 ((Mod.refl [] w3).drewN k3)))
    obtain ⟨w4, hw4⟩ : ∃ w4, w3.drewN k3 = w4 := ⟨_, rfl⟩
    rw [hw4] at HS4 ⊢
    clear hw4
    go_wp2_with fail
    go_ret
    exact ⟨_, s', rfl, .blocked v cd s' HK.out HNm2.out, HST.out.trans HS4.out⟩
  have HN21 := hide h21
  clear h21
  by_cases h16 : f.kind = 16
  · have HK := hide h16
    have hk8 : ((f.kind : Int) == 8) = false := by rw [HK.out]; rfl
    have hk4 : ((f.kind : Int) == 4) = false := by rw [HK.out]; rfl
    have hk5 : ((f.kind : Int) == 5) = false := by rw [HK.out]; rfl
    have hk17 : ((f.kind : Int) == 17) = false := by rw [HK.out]; rfl
    have hk21 : ((f.kind : Int) == 21) = false := by rw [HK.out]; rfl
    have hk16 : ((f.kind : Int) == 16) = true := by rw [HK.out]; rfl
    have hk18 : ((f.kind : Int) == 18) = false := by rw [HK.out]; rfl
    have hk19 : ((f.kind : Int) == 19) = false := by rw [HK.out]; rfl
    have hk20 : ((f.kind : Int) == 20) = false := by rw [HK.out]; rfl
    have hk22 : ((f.kind : Int) == 22) = false := by rw [HK.out]; rfl
    have hk23 : ((f.kind : Int) == 23) = false := by rw [HK.out]; rfl
    clear h16
    have hot := stother_any w1 sb s HBM.out HW.out ⟨f.a, 0, 0, 0, 0, 0⟩
    unfold Lm.val at hot
    simp only [Int.natCast_zero] at hot
    have HOt := hide hot
    clear hot
    go_enter Tryz.func11, Tryz.ntmps11
    go_wp2_with fail
    clear hw1
    refine HOt.out.mono ?_
    rintro e w2 ⟨s', rfl, hco, hst⟩
    have HC2 := hide hco
    have HS2 := hide hst
    clear hco hst
    go_wp2_with fail
    go_ret
    exact ⟨_, s', rfl, .data s' HK.out HC2.out, HST.out.trans HS2.out⟩
  have HN16 := hide h16
  clear h16
  by_cases h18 : f.kind = 18
  · have HK := hide h18
    have hk8 : ((f.kind : Int) == 8) = false := by rw [HK.out]; rfl
    have hk4 : ((f.kind : Int) == 4) = false := by rw [HK.out]; rfl
    have hk5 : ((f.kind : Int) == 5) = false := by rw [HK.out]; rfl
    have hk17 : ((f.kind : Int) == 17) = false := by rw [HK.out]; rfl
    have hk21 : ((f.kind : Int) == 21) = false := by rw [HK.out]; rfl
    have hk16 : ((f.kind : Int) == 16) = false := by rw [HK.out]; rfl
    have hk18 : ((f.kind : Int) == 18) = true := by rw [HK.out]; rfl
    have hk19 : ((f.kind : Int) == 19) = false := by rw [HK.out]; rfl
    have hk20 : ((f.kind : Int) == 20) = false := by rw [HK.out]; rfl
    have hk22 : ((f.kind : Int) == 22) = false := by rw [HK.out]; rfl
    have hk23 : ((f.kind : Int) == 23) = false := by rw [HK.out]; rfl
    clear h18
    have hot := stother_any w1 sb s HBM.out HW.out ⟨0, 0, 0, 0, f.a, 0⟩
    unfold Lm.val at hot
    simp only [Int.natCast_zero] at hot
    have HOt := hide hot
    clear hot
    go_enter Tryz.func11, Tryz.ntmps11
    go_wp2_with fail
    clear hw1
    refine HOt.out.mono ?_
    rintro e w2 ⟨s', rfl, hco, hst⟩
    have HC2 := hide hco
    have HS2 := hide hst
    clear hco hst
    go_wp2_with fail
    go_ret
    exact ⟨_, s', rfl, .bidis s' HK.out HC2.out, HST.out.trans HS2.out⟩
  have HN18 := hide h18
  clear h18
  by_cases h19 : f.kind = 19
  · have HK := hide h19
    have hk8 : ((f.kind : Int) == 8) = false := by rw [HK.out]; rfl
    have hk4 : ((f.kind : Int) == 4) = false := by rw [HK.out]; rfl
    have hk5 : ((f.kind : Int) == 5) = false := by rw [HK.out]; rfl
    have hk17 : ((f.kind : Int) == 17) = false := by rw [HK.out]; rfl
    have hk21 : ((f.kind : Int) == 21) = false := by rw [HK.out]; rfl
    have hk16 : ((f.kind : Int) == 16) = false := by rw [HK.out]; rfl
    have hk18 : ((f.kind : Int) == 18) = false := by rw [HK.out]; rfl
    have hk19 : ((f.kind : Int) == 19) = true := by rw [HK.out]; rfl
    have hk20 : ((f.kind : Int) == 20) = false := by rw [HK.out]; rfl
    have hk22 : ((f.kind : Int) == 22) = false := by rw [HK.out]; rfl
    have hk23 : ((f.kind : Int) == 23) = false := by rw [HK.out]; rfl
    clear h19
    have hot := stother_any w1 sb s HBM.out HW.out ⟨0, 0, 0, 0, 0, f.a⟩
    unfold Lm.val at hot
    simp only [Int.natCast_zero] at hot
    have HOt := hide hot
    clear hot
    go_enter Tryz.func11, Tryz.ntmps11
    go_wp2_with fail
    clear hw1
    refine HOt.out.mono ?_
    rintro e w2 ⟨s', rfl, hco, hst⟩
    have HC2 := hide hco
    have HS2 := hide hst
    clear hco hst
    go_wp2_with fail
    go_ret
    exact ⟨_, s', rfl, .unis s' HK.out HC2.out, HST.out.trans HS2.out⟩
  have HN19 := hide h19
  clear h19
  by_cases h20 : f.kind = 20
  · have HK := hide h20
    have hk8 : ((f.kind : Int) == 8) = false := by rw [HK.out]; rfl
    have hk4 : ((f.kind : Int) == 4) = false := by rw [HK.out]; rfl
    have hk5 : ((f.kind : Int) == 5) = false := by rw [HK.out]; rfl
    have hk17 : ((f.kind : Int) == 17) = false := by rw [HK.out]; rfl
    have hk21 : ((f.kind : Int) == 21) = false := by rw [HK.out]; rfl
    have hk16 : ((f.kind : Int) == 16) = false := by rw [HK.out]; rfl
    have hk18 : ((f.kind : Int) == 18) = false := by rw [HK.out]; rfl
    have hk19 : ((f.kind : Int) == 19) = false := by rw [HK.out]; rfl
    have hk20 : ((f.kind : Int) == 20) = true := by rw [HK.out]; rfl
    have hk22 : ((f.kind : Int) == 22) = false := by rw [HK.out]; rfl
    have hk23 : ((f.kind : Int) == 23) = false := by rw [HK.out]; rfl
    clear h20
    go_enter Tryz.func11, Tryz.ntmps11
    go_wp2_with fail
    clear hw1
    go_ret
    exact ⟨_, s, rfl, .idle (.inl HK.out), HST.out⟩
  have HN20 := hide h20
  clear h20
  by_cases h22 : f.kind = 22
  · have HK := hide h22
    have hk8 : ((f.kind : Int) == 8) = false := by rw [HK.out]; rfl
    have hk4 : ((f.kind : Int) == 4) = false := by rw [HK.out]; rfl
    have hk5 : ((f.kind : Int) == 5) = false := by rw [HK.out]; rfl
    have hk17 : ((f.kind : Int) == 17) = false := by rw [HK.out]; rfl
    have hk21 : ((f.kind : Int) == 21) = false := by rw [HK.out]; rfl
    have hk16 : ((f.kind : Int) == 16) = false := by rw [HK.out]; rfl
    have hk18 : ((f.kind : Int) == 18) = false := by rw [HK.out]; rfl
    have hk19 : ((f.kind : Int) == 19) = false := by rw [HK.out]; rfl
    have hk20 : ((f.kind : Int) == 20) = false := by rw [HK.out]; rfl
    have hk22 : ((f.kind : Int) == 22) = true := by rw [HK.out]; rfl
    have hk23 : ((f.kind : Int) == 23) = false := by rw [HK.out]; rfl
    clear h22
    go_enter Tryz.func11, Tryz.ntmps11
    go_wp2_with fail
    clear hw1
    go_ret
    exact ⟨_, s, rfl, .idle (.inr (.inl HK.out)), HST.out⟩
  have HN22 := hide h22
  clear h22
  by_cases h23 : f.kind = 23
  · have HK := hide h23
    have hk8 : ((f.kind : Int) == 8) = false := by rw [HK.out]; rfl
    have hk4 : ((f.kind : Int) == 4) = false := by rw [HK.out]; rfl
    have hk5 : ((f.kind : Int) == 5) = false := by rw [HK.out]; rfl
    have hk17 : ((f.kind : Int) == 17) = false := by rw [HK.out]; rfl
    have hk21 : ((f.kind : Int) == 21) = false := by rw [HK.out]; rfl
    have hk16 : ((f.kind : Int) == 16) = false := by rw [HK.out]; rfl
    have hk18 : ((f.kind : Int) == 18) = false := by rw [HK.out]; rfl
    have hk19 : ((f.kind : Int) == 19) = false := by rw [HK.out]; rfl
    have hk20 : ((f.kind : Int) == 20) = false := by rw [HK.out]; rfl
    have hk22 : ((f.kind : Int) == 22) = false := by rw [HK.out]; rfl
    have hk23 : ((f.kind : Int) == 23) = true := by rw [HK.out]; rfl
    clear h23
    go_enter Tryz.func11, Tryz.ntmps11
    go_wp2_with fail
    clear hw1
    go_ret
    exact ⟨_, s, rfl, .idle (.inr (.inr HK.out)), HST.out⟩
  have HN23 := hide h23
  clear h23
  have hk8 : ((f.kind : Int) == 8) = false := by have := HN8.out; rw [beq_eq_false_iff_ne]; omega
  have hk4 : ((f.kind : Int) == 4) = false := by have := HN4.out; rw [beq_eq_false_iff_ne]; omega
  have hk5 : ((f.kind : Int) == 5) = false := by have := HN5.out; rw [beq_eq_false_iff_ne]; omega
  have hk17 : ((f.kind : Int) == 17) = false := by have := HN17.out; rw [beq_eq_false_iff_ne]; omega
  have hk21 : ((f.kind : Int) == 21) = false := by have := HN21.out; rw [beq_eq_false_iff_ne]; omega
  have hk16 : ((f.kind : Int) == 16) = false := by have := HN16.out; rw [beq_eq_false_iff_ne]; omega
  have hk18 : ((f.kind : Int) == 18) = false := by have := HN18.out; rw [beq_eq_false_iff_ne]; omega
  have hk19 : ((f.kind : Int) == 19) = false := by have := HN19.out; rw [beq_eq_false_iff_ne]; omega
  have hk20 : ((f.kind : Int) == 20) = false := by have := HN20.out; rw [beq_eq_false_iff_ne]; omega
  have hk22 : ((f.kind : Int) == 22) = false := by have := HN22.out; rw [beq_eq_false_iff_ne]; omega
  have hk23 : ((f.kind : Int) == 23) = false := by have := HN23.out; rw [beq_eq_false_iff_ne]; omega
  go_enter Tryz.func11, Tryz.ntmps11
  go_wp2_with fail
  clear hw1
  go_ret
  exact ⟨_, s, rfl, .bad ⟨HN8.out, HN4.out, HN5.out, HN17.out, HN21.out, HN16.out, HN18.out, HN19.out, HN20.out, HN22.out, HN23.out⟩, HST.out⟩
end Go.Proofs.YtjdfemfobcjecaaGreat

/-
  A drawn region that ends in one forced tail, with the world behind its draw under one name.
-/
namespace Go.Proofs.YtjdfemfobcjecaaGreat
theorem wp_region_tail {P : Program} {id : Nat} {Q : Exit → Act → World → Prop} {a : Act} {w : World} {l : List Oper} (n : Nat) (hm : P.follows .mixedOrders = true) (hB : Region.lexTailB .any l.toArray n = true)
    (h : ∀ W, Mod [] w W → (∀ p, W.cell? p = w.cell? p) → (∀ p, W.frozen? p = w.frozen? p) → W.heap.size = w.heap.size → wpStill P l.toArray W (fun a' => wpList P l.toArray Q (l.drop n) a' W) (l.take n) a) : (Code.region id l.toArray true).wp P Q a w :=
  wp_region_still_tail n hm hB (h w.drew (Mod.refl [] w).drew (fun _ => rfl) (fun _ => rfl) rfl)
end Go.Proofs.YtjdfemfobcjecaaGreat

/-
  streams: Acked, Lost.
-/
namespace Go.Proofs.YtjdfemfobcjecaaGreat
open Go.RowKit Go.Sort
set_option linter.unusedVariables false
set_option linter.unusedSimpArgs false
/-- what Acked does -/
inductive Ss.Acks (s : Ss) (f : Fr) : Ss → Prop
  | no (h : ∀ x b dv sv o, s.get f.a = some x → x.out = some (b, dv, sv, o) → f.kind ≠ 8) : s.Acks f s
  | goes (x : St) (b : Nat) (dv sv dv' sv' : Value) (o : Ob) (h : s.get f.a = some x) (hk : f.kind = 8) (ho : x.out = some (b, dv, sv, o)) : s.Acks f (s.put (x.withOut b dv' sv' (o.each ackOf f.b f.data.size f.fin)))
/-- what Lost does -/
inductive Ss.Loses (s : Ss) (f : Fr) : Ss → Prop
  | data (hk : f.kind = 16) : s.Loses f { s with raise := true }
  | none (hk : f.kind ≠ 16) (h : s.get f.a = none) : s.Loses f s
  | noOut (x : St) (h : s.get f.a = some x) (hk : f.kind = 8) (ho : x.out = none) : s.Loses f s
  | goes (x : St) (b : Nat) (dv sv dv' sv' : Value) (o : Ob) (h : s.get f.a = some x) (hk : f.kind = 8) (ho : x.out = some (b, dv, sv, o)) : s.Loses f (s.put (x.withOut b dv' sv' (o.each loseOf f.b f.data.size f.fin)))
  | raise (x : St) (h : s.get f.a = some x) (hk : f.kind = 17) : s.Loses f (s.put { x with raise := x.inn.isSome })
  | stop (x : St) (h : s.get f.a = some x) (hk : f.kind = 5) : s.Loses f (s.put { x with stop := { x.stop with must := x.stop.told } })
  | reset (x : St) (h : s.get f.a = some x) (hk : f.kind = 4) : s.Loses f (s.put { x with rst := { x.rst with must := x.rst.told } })
  | other (x : St) (h : s.get f.a = some x) (h1 : f.kind ≠ 16) (h2 : f.kind ≠ 8) (h3 : f.kind ≠ 17) (h4 : f.kind ≠ 5) (h5 : f.kind ≠ 4) : s.Loses f s
set_option maxRecDepth 100000 in
set_option maxHeartbeats 4000000 in
theorem stacked_any (w : World) (sb : Nat) (s : Ss) (h : SBox w sb s) (hw : s.WF) (A : Option Addr) (n c : Nat) (f : Fr) (hk : f.kind ≤ 18446744073709551615) (ha : f.a ≤ 18446744073709551615) (hb : f.b ≤ 18446744073709551615) (hd : f.data.size ≤ maxLen) :
    Calls Tryz.prog 21 #[.pointer (some ⟨sb, 0, none⟩), fval A n c f] w fun e w' => ∃ s', e = .returned (.tuple #[]) ∧ s.Acks f s' ∧ SStep w sb s s' w' := by
  have hM : Mod [] w (w.alloc (.cells (fcs A n c f) 31)) := (Mod.refl [] w).alloc _
  have hN := Blk.new w 31 (fcs A n c f)
  have hBM := h.new hM
  obtain ⟨w1, hw1⟩ : ∃ w1, w.alloc (.cells (fcs A n c f) 31) = w1 := ⟨_, rfl⟩
  rw [hw1] at hM hN hBM
  have v13 : w1.cell? ⟨sb, 13, none⟩ = some (.map (some s.mb)) := hBM.blk.cell 13
  have c0 : w1.cell? ⟨w.heap.size, 0, none⟩ = some (.int .u64 (f.kind : Int)) := hN.cell 0
  have c1 : w1.cell? ⟨w.heap.size, 1, none⟩ = some (.int .u64 (f.a : Int)) := hN.cell 1
  have c2 : w1.cell? ⟨w.heap.size, 2, none⟩ = some (.int .u64 (f.b : Int)) := hN.cell 2
  have c4 : w1.cell? ⟨w.heap.size, 4, none⟩ = some (.bool f.fin) := hN.cell 4
  have c5 : w1.cell? ⟨w.heap.size, 5, none⟩ = some (.string f.data) := hN.cell 5
  have HST : Hid (SStep w sb s s w1) := hide (SStep.refl h hM)
  have HBM := hide hBM
  clear h hN hM
  unfold fval
  unfold fcs at hw1 ⊢
  unfold maxLen at hd
  have hd0 : (0 : Int) ≤ (f.data.size : Int) := by omega
  cases hg : s.get f.a with
  | none =>
    have HG := hide hg
    have hlk := fun nq => lookup_get (HBM.out.new ((Mod.refl [] w1).drewN nq)) f.a
    simp only [hg, Option.map_none, Option.getD_none, Option.isSome_none] at hlk
    clear hg hBM
    go_enter Tryz.func21, Tryz.ntmps21
    go_wp2_with fail
    clear hw1
    go_quiet (fail)
    go_wp2_with fail
    go_end0
    exact ⟨_, rfl, .no (by rintro x b dv sv o h; rw [HG.out] at h; cases h), HST.out.trans (SStep.refl HST.out.1 ((Mod.refl [] w1).drewN _))⟩
  | some x =>
    have HG := hide hg
    obtain ⟨hx, hxid⟩ := Ss.get_mem hg
    have HX := hide hx
    have hlk := fun nq => lookup_get (HBM.out.new ((Mod.refl [] w1).drewN nq)) f.a
    simp only [hg, Option.map_some, Option.getD_some, Option.isSome_some] at hlk
    have x2 : w1.cell? ⟨x.xb, 2, none⟩ = some x.outV := (HBM.out.all x hx).blk.cell 2
    clear hg hxid hBM
    by_cases hk8 : f.kind = 8
    · have HK8 := hide hk8
      have hkk : ((f.kind : Int) == 8) = true := by rw [hk8]; rfl
      clear hk8
      cases hxo : x.out with
      | none =>
        have x2' : w1.cell? ⟨x.xb, 2, none⟩ = some (.pointer none) := by rw [x2]; unfold St.outV; rw [hxo]; rfl
        have HXo := hide hxo
        clear x2 hxo hx
        go_enter Tryz.func21, Tryz.ntmps21
        go_wp2_with fail
        clear hw1
        go_quiet (fail)
        go_wp2_with fail
        go_end0
        exact ⟨_, rfl, .no (by rintro y b dv sv o h ho; rw [HG.out] at h; cases h; rw [HXo.out] at ho; cases ho), HST.out.trans (SStep.refl HST.out.1 ((Mod.refl [] w1).drewN _))⟩
      | some p =>
        obtain ⟨b, dv, sv, o⟩ := p
        have x2' : w1.cell? ⟨x.xb, 2, none⟩ = some (.pointer (some ⟨b, 0, none⟩)) := by rw [x2]; unfold St.outV; rw [hxo]; rfl
        have hob := (HBM.out.all x hx).out b dv sv o hxo
        have HXo := hide hxo
        clear x2 hxo
        have HD := hide (fun W (m : Mod [] w1 W) => acked_any W b o dv sv (hob.mod m (by simp)) f.b f.data.size f.fin hb (by omega))
        clear hob hx
        go_enter Tryz.func21, Tryz.ntmps21
        go_wp2_with fail
        clear hw1
        go_quiet (fail)
        go_wp2_with fail
        refine wp_region_tail 12 (by kernel_rfl) (by kernel_rfl) ?_
        intro W9 m9 hc9 hf9 hz9
        simp only [List.take_succ_cons, List.take_zero, List.drop_succ_cons, List.drop_zero]
        have q2 : W9.cell? ⟨w.heap.size, 2, none⟩ = some (.int .u64 (f.b : Int)) := by rw [hc9]; exact c2
        have q4 : W9.cell? ⟨w.heap.size, 4, none⟩ = some (.bool f.fin) := by rw [hc9]; exact c4
        have q5 : W9.cell? ⟨w.heap.size, 5, none⟩ = some (.string f.data) := by rw [hc9]; exact c5
        have qx : W9.cell? ⟨x.xb, 2, none⟩ = some (.pointer (some ⟨b, 0, none⟩)) := by rw [hc9]; exact x2'
        clear hc9 hf9 hz9
        repeat still_step
        refine wpStill_nil ?_
        go_wp2_with fail
        refine (HD.out W9 ((Mod.refl [] w1).drewN nq |>.trans m9 (by simp))).mono ?_
        rintro e w2 ⟨rfl, ho⟩
        have HB9 := HBM.out.new (((Mod.refl [] w1).drewN nq).trans m9 (by simp))
        obtain ⟨dv', sv', hst⟩ := HB9.outStep hw.ids HX.out HXo.out ho
        have HS9 := hide ((SStep.refl HBM.out (((Mod.refl [] w1).drewN nq).trans m9 (by simp))).trans hst)
        clear hst ho m9
        go_wp2_with fail
        go_end0
        exact ⟨_, rfl, .goes x b dv sv dv' sv' o HG.out HK8.out HXo.out, HST.out.trans HS9.out⟩
    · have HK8 := hide hk8
      have hkk : ((f.kind : Int) == 8) = false := by rw [beq_eq_false_iff_ne]; omega
      clear hk8
      go_enter Tryz.func21, Tryz.ntmps21
      go_wp2_with fail
      clear hw1
      go_quiet (fail)
      go_wp2_with fail
      go_end0
      exact ⟨_, rfl, .no (fun _ _ _ _ _ _ _ => HK8.out), HST.out.trans (SStep.refl HST.out.1 ((Mod.refl [] w1).drewN _))⟩
set_option maxRecDepth 100000 in
set_option maxHeartbeats 4000000 in
theorem stlost_any (w : World) (sb : Nat) (s : Ss) (h : SBox w sb s) (hw : s.WF) (A : Option Addr) (n c : Nat) (f : Fr) (hk : f.kind ≤ 18446744073709551615) (ha : f.a ≤ 18446744073709551615) (hb : f.b ≤ 18446744073709551615) (hd : f.data.size ≤ maxLen) :
    Calls Tryz.prog 16 #[.pointer (some ⟨sb, 0, none⟩), fval A n c f] w fun e w' => ∃ s', e = .returned (.tuple #[]) ∧ s.Loses f s' ∧ SStep w sb s s' w' := by
  have hM : Mod [] w (w.alloc (.cells (fcs A n c f) 31)) := (Mod.refl [] w).alloc _
  have hN := Blk.new w 31 (fcs A n c f)
  have hBM := h.new hM
  obtain ⟨w1, hw1⟩ : ∃ w1, w.alloc (.cells (fcs A n c f) 31) = w1 := ⟨_, rfl⟩
  rw [hw1] at hM hN hBM
  have v13 : w1.cell? ⟨sb, 13, none⟩ = some (.map (some s.mb)) := hBM.blk.cell 13
  have c0 : w1.cell? ⟨w.heap.size, 0, none⟩ = some (.int .u64 (f.kind : Int)) := hN.cell 0
  have c1 : w1.cell? ⟨w.heap.size, 1, none⟩ = some (.int .u64 (f.a : Int)) := hN.cell 1
  have c2 : w1.cell? ⟨w.heap.size, 2, none⟩ = some (.int .u64 (f.b : Int)) := hN.cell 2
  have c4 : w1.cell? ⟨w.heap.size, 4, none⟩ = some (.bool f.fin) := hN.cell 4
  have c5 : w1.cell? ⟨w.heap.size, 5, none⟩ = some (.string f.data) := hN.cell 5
  have HST : Hid (SStep w sb s s w1) := hide (SStep.refl h hM)
  have HBM := hide hBM
  clear h hN hM
  unfold fval
  unfold fcs at hw1 ⊢
  unfold maxLen at hd
  have hd0 : (0 : Int) ≤ (f.data.size : Int) := by omega
  by_cases h16 : f.kind = 16
  · have HK := hide h16
    have hk16 : ((f.kind : Int) == 16) = true := by rw [HK.out]; rfl
    have hb19 := HBM.out.blk
    have HB19 := hide hb19
    have g19 : w1.frozen? ⟨sb, 19, none⟩ = false := hb19.frozen 19
    have u19 : w1.cell? ⟨sb, 19, none⟩ = some (.bool s.raise) := hb19.cell 19
    clear h16 hBM hb19
    go_enter Tryz.func16, Tryz.ntmps16
    go_wp2_with fail
    clear hw1
    refine bodyPost_ret (v := .tuple #[]) (by kernel_rfl) rfl ?_
    exact ⟨_, rfl, .data HK.out, HST.out.trans (HBM.out.rootStep (s' := { s with raise := true }) ((Mod.refl [sb] w1).setCell (p := ⟨sb, 19, none⟩) (.inl (by simp)) _) (HB19.out.set_ 19 (.bool true)) rfl rfl)⟩
  have HN16 := hide h16
  cases hg : s.get f.a with
  | none =>
    have HG := hide hg
    have hlk := fun nq => lookup_get (HBM.out.new ((Mod.refl [] w1).drewN nq)) f.a
    simp only [hg, Option.map_none, Option.getD_none, Option.isSome_none] at hlk
    clear hg hBM
    have hk16 : ((f.kind : Int) == 16) = false := by rw [beq_eq_false_iff_ne]; omega
    clear h16
    go_enter Tryz.func16, Tryz.ntmps16
    go_wp2_with fail
    clear hw1
    go_quiet (fail)
    go_wp2_with fail
    refine bodyPost_ret (v := .tuple #[]) (by kernel_rfl) rfl ?_
    exact ⟨_, rfl, .none HN16.out HG.out, HST.out.trans (SStep.refl HST.out.1 ((Mod.refl [] w1).drewN _))⟩
  | some x =>
    have HG := hide hg
    obtain ⟨hx, hxid⟩ := Ss.get_mem hg
    have HX := hide hx
    have hlk := fun nq => lookup_get (HBM.out.new ((Mod.refl [] w1).drewN nq)) f.a
    simp only [hg, Option.map_some, Option.getD_some, Option.isSome_some] at hlk
    have x2 : w1.cell? ⟨x.xb, 2, none⟩ = some x.outV := (HBM.out.all x hx).blk.cell 2
    clear hg hxid hBM
    have hk16' : Hid (f.kind ≠ 16) := hide h16
    clear h16 hk16'
    by_cases h8 : f.kind = 8
    · have HK := hide h8
      have hk16 : ((f.kind : Int) == 16) = false := by rw [HK.out]; rfl
      have hk8 : ((f.kind : Int) == 8) = true := by rw [HK.out]; rfl
      have hk17 : ((f.kind : Int) == 17) = false := by rw [HK.out]; rfl
      have hk5 : ((f.kind : Int) == 5) = false := by rw [HK.out]; rfl
      have hk4 : ((f.kind : Int) == 4) = false := by rw [HK.out]; rfl
      clear h8
      cases hxo : x.out with
      | none =>
        have x2' : w1.cell? ⟨x.xb, 2, none⟩ = some (.pointer none) := by rw [x2]; unfold St.outV; rw [hxo]; rfl
        have HXo := hide hxo
        clear x2 hxo hx
        go_enter Tryz.func16, Tryz.ntmps16
        go_wp2_with fail
        clear hw1
        go_quiet (fail)
        go_wp2_with fail
        go_end0
        exact ⟨_, rfl, .noOut x HG.out HK.out HXo.out, HST.out.trans (SStep.refl HST.out.1 ((Mod.refl [] w1).drewN _))⟩
      | some p =>
        obtain ⟨b, dv, sv, o⟩ := p
        have x2' : w1.cell? ⟨x.xb, 2, none⟩ = some (.pointer (some ⟨b, 0, none⟩)) := by rw [x2]; unfold St.outV; rw [hxo]; rfl
        have hob := (HBM.out.all x hx).out b dv sv o hxo
        have HXo := hide hxo
        clear x2 hxo
        have HD := hide (fun W (m : Mod [] w1 W) => lost_any W b o dv sv (hob.mod m (by simp)) f.b f.data.size f.fin hb (by omega))
        clear hob hx
        go_enter Tryz.func16, Tryz.ntmps16
        go_wp2_with fail
        clear hw1
        go_quiet (fail)
        go_wp2_with fail
        refine wp_region_tail 12 (by kernel_rfl) (by kernel_rfl) ?_
        intro W9 m9 hc9 hf9 hz9
        simp only [List.take_succ_cons, List.take_zero, List.drop_succ_cons, List.drop_zero]
        have q2 : W9.cell? ⟨w.heap.size, 2, none⟩ = some (.int .u64 (f.b : Int)) := by rw [hc9]; exact c2
        have q4 : W9.cell? ⟨w.heap.size, 4, none⟩ = some (.bool f.fin) := by rw [hc9]; exact c4
        have q5 : W9.cell? ⟨w.heap.size, 5, none⟩ = some (.string f.data) := by rw [hc9]; exact c5
        have qx : W9.cell? ⟨x.xb, 2, none⟩ = some (.pointer (some ⟨b, 0, none⟩)) := by rw [hc9]; exact x2'
        clear hc9 hf9 hz9
        repeat still_step
        refine wpStill_nil ?_
        go_wp2_with fail
        refine (HD.out W9 ((Mod.refl [] w1).drewN nq |>.trans m9 (by simp))).mono ?_
        rintro e w2 ⟨rfl, ho⟩
        have HB9 := HBM.out.new (((Mod.refl [] w1).drewN nq).trans m9 (by simp))
        obtain ⟨dv', sv', hst⟩ := HB9.outStep hw.ids HX.out HXo.out ho
        have HS9 := hide ((SStep.refl HBM.out (((Mod.refl [] w1).drewN nq).trans m9 (by simp))).trans hst)
        clear hst ho m9
        go_wp2_with fail
        go_end0
        exact ⟨_, rfl, .goes x b dv sv dv' sv' o HG.out HK.out HXo.out, HST.out.trans HS9.out⟩
    by_cases h17 : f.kind = 17
    · have HK := hide h17
      have hk16 : ((f.kind : Int) == 16) = false := by rw [HK.out]; rfl
      have hk8 : ((f.kind : Int) == 8) = false := by rw [HK.out]; rfl
      have hk17 : ((f.kind : Int) == 17) = true := by rw [HK.out]; rfl
      have hk5 : ((f.kind : Int) == 5) = false := by rw [HK.out]; rfl
      have hk4 : ((f.kind : Int) == 4) = false := by rw [HK.out]; rfl
      clear h17
      have hxb := (HBM.out.all x hx).blk
      have HXb := hide hxb
      have g4 : w1.frozen? ⟨x.xb, 4, none⟩ = false := hxb.frozen 4
      have t1 : w1.cell? ⟨x.xb, 1, none⟩ = some x.inV := hxb.cell 1
      have u4 : w1.cell? ⟨x.xb, 4, none⟩ = some (.bool x.raise) := hxb.cell 4
      cases hxi : x.inn with
      | none =>
        have t1' : w1.cell? ⟨x.xb, 1, none⟩ = some (.pointer none) := by rw [t1]; unfold St.inV; rw [hxi]; rfl
        have HXi := hide hxi
        clear x2 hxb hx t1 hxi
        go_enter Tryz.func16, Tryz.ntmps16
        go_wp2_with fail
        clear hw1
        go_quiet (fail)
        go_wp2_with fail
        go_end0
        have HB9 := HBM.out.new ((Mod.refl [] w1).drewN nq)
        refine ⟨_, rfl, .raise x HG.out HK.out, HST.out.trans ((SStep.refl HBM.out ((Mod.refl [] w1).drewN nq)).trans (SBox.cellStep HB9 hw.ids HX.out (x' := { x with raise := x.inn.isSome }) ((Mod.refl [x.xb] _).setCell (p := ⟨x.xb, 4, none⟩) (.inl (by simp)) _) ?_ rfl rfl rfl rfl))⟩
        have ex : x.inn.isSome = false := by rw [HXi.out]; rfl
        rw [ex]
        exact (HXb.out : Blk (w1.drewN nq) x.xb 83 x.cells).set_ 4 (.bool false)
      | some p =>
        obtain ⟨b, m, o⟩ := p
        have t1' : w1.cell? ⟨x.xb, 1, none⟩ = some (.pointer (some ⟨b, 0, none⟩)) := by rw [t1]; unfold St.inV; rw [hxi]; rfl
        have HXi := hide hxi
        clear x2 hxb hx t1 hxi
        go_enter Tryz.func16, Tryz.ntmps16
        go_wp2_with fail
        clear hw1
        go_quiet (fail)
        go_wp2_with fail
        go_end0
        have HB9 := HBM.out.new ((Mod.refl [] w1).drewN nq)
        refine ⟨_, rfl, .raise x HG.out HK.out, HST.out.trans ((SStep.refl HBM.out ((Mod.refl [] w1).drewN nq)).trans (SBox.cellStep HB9 hw.ids HX.out (x' := { x with raise := x.inn.isSome }) ((Mod.refl [x.xb] _).setCell (p := ⟨x.xb, 4, none⟩) (.inl (by simp)) _) ?_ rfl rfl rfl rfl))⟩
        have ex : x.inn.isSome = true := by rw [HXi.out]; rfl
        rw [ex]
        exact (HXb.out : Blk (w1.drewN nq) x.xb 83 x.cells).set_ 4 (.bool true)
    by_cases h5 : f.kind = 5
    · have HK := hide h5
      have hk16 : ((f.kind : Int) == 16) = false := by rw [HK.out]; rfl
      have hk8 : ((f.kind : Int) == 8) = false := by rw [HK.out]; rfl
      have hk17 : ((f.kind : Int) == 17) = false := by rw [HK.out]; rfl
      have hk5 : ((f.kind : Int) == 5) = true := by rw [HK.out]; rfl
      have hk4 : ((f.kind : Int) == 4) = false := by rw [HK.out]; rfl
      clear h5
      have hxb := (HBM.out.all x hx).blk
      have HXb := hide hxb
      have g7 : w1.frozen? ⟨x.xb, 7, none⟩ = false := hxb.frozen 7
      have t6 : w1.cell? ⟨x.xb, 6, none⟩ = some (.bool x.stop.told) := hxb.cell 6
      have u7 : w1.cell? ⟨x.xb, 7, none⟩ = some (.bool x.stop.must) := hxb.cell 7
      clear x2 hxb hx
      go_enter Tryz.func16, Tryz.ntmps16
      go_wp2_with fail
      clear hw1
      go_quiet (fail)
      go_wp2_with fail
      go_end0
      have HB9 := HBM.out.new ((Mod.refl [] w1).drewN nq)
      refine ⟨_, rfl, .stop x HG.out HK.out, HST.out.trans ((SStep.refl HBM.out ((Mod.refl [] w1).drewN nq)).trans (SBox.cellStep HB9 hw.ids HX.out (x' := { x with stop := { x.stop with must := x.stop.told } }) ((Mod.refl [x.xb] _).setCell (p := ⟨x.xb, 7, none⟩) (.inl (by simp)) _) ?_ rfl rfl rfl rfl))⟩
      exact (HXb.out : Blk (w1.drewN nq) x.xb 83 x.cells).set_ 7 _
    by_cases h4 : f.kind = 4
    · have HK := hide h4
      have hk16 : ((f.kind : Int) == 16) = false := by rw [HK.out]; rfl
      have hk8 : ((f.kind : Int) == 8) = false := by rw [HK.out]; rfl
      have hk17 : ((f.kind : Int) == 17) = false := by rw [HK.out]; rfl
      have hk5 : ((f.kind : Int) == 5) = false := by rw [HK.out]; rfl
      have hk4 : ((f.kind : Int) == 4) = true := by rw [HK.out]; rfl
      clear h4
      have hxb := (HBM.out.all x hx).blk
      have HXb := hide hxb
      have g10 : w1.frozen? ⟨x.xb, 10, none⟩ = false := hxb.frozen 10
      have t9 : w1.cell? ⟨x.xb, 9, none⟩ = some (.bool x.rst.told) := hxb.cell 9
      have u10 : w1.cell? ⟨x.xb, 10, none⟩ = some (.bool x.rst.must) := hxb.cell 10
      clear x2 hxb hx
      go_enter Tryz.func16, Tryz.ntmps16
      go_wp2_with fail
      clear hw1
      go_quiet (fail)
      go_wp2_with fail
      go_end0
      have HB9 := HBM.out.new ((Mod.refl [] w1).drewN nq)
      refine ⟨_, rfl, .reset x HG.out HK.out, HST.out.trans ((SStep.refl HBM.out ((Mod.refl [] w1).drewN nq)).trans (SBox.cellStep HB9 hw.ids HX.out (x' := { x with rst := { x.rst with must := x.rst.told } }) ((Mod.refl [x.xb] _).setCell (p := ⟨x.xb, 10, none⟩) (.inl (by simp)) _) ?_ rfl rfl rfl rfl))⟩
      exact (HXb.out : Blk (w1.drewN nq) x.xb 83 x.cells).set_ 10 _
    have HN := hide (And.intro HN16.out (And.intro h8 (And.intro h17 (And.intro h5 h4))))
    have hk16 : ((f.kind : Int) == 16) = false := by have := HN.out; rw [beq_eq_false_iff_ne]; omega
    have hk8 : ((f.kind : Int) == 8) = false := by have := HN.out; rw [beq_eq_false_iff_ne]; omega
    have hk17 : ((f.kind : Int) == 17) = false := by have := HN.out; rw [beq_eq_false_iff_ne]; omega
    have hk5 : ((f.kind : Int) == 5) = false := by have := HN.out; rw [beq_eq_false_iff_ne]; omega
    have hk4 : ((f.kind : Int) == 4) = false := by have := HN.out; rw [beq_eq_false_iff_ne]; omega
    clear h8 h17 h5 h4 hx x2
    go_enter Tryz.func16, Tryz.ntmps16
    go_wp2_with fail
    clear hw1
    go_quiet (fail)
    go_wp2_with fail
    go_end0
    exact ⟨_, rfl, .other x HG.out HN.out.1 HN.out.2.1 HN.out.2.2.1 HN.out.2.2.2.1 HN.out.2.2.2.2, HST.out.trans (SStep.refl HST.out.1 ((Mod.refl [] w1).drewN _))⟩
end Go.Proofs.YtjdfemfobcjecaaGreat

/-
  streams: Read.
-/
namespace Go.Proofs.YtjdfemfobcjecaaGreat
open Go.RowKit Go.Sort
set_option linter.unusedVariables false
set_option linter.unusedSimpArgs false
/-- is so little left that the inbox' limit is raised? -/
def St.low (x : St) (o : Ib) : Bool := !o.known && decide (o.limit - o.taken < x.first / 2)
def St.readTo (x : St) (b m : Nat) (o : Ib) : St := if x.low o then { x.withIn b m (o.raise (o.taken + x.first)) with raise := true } else x.withIn b m o
def Ss.readsTo (s : Ss) (x : St) (b m : Nat) (o : Ib) (most : Int) : Ss :=
  if s.limit - min s.limit (s.read + (o.readS most).length) < s.own.data / 2 then { s.put (x.readTo b m (o.read most)) with read := s.read + (o.readS most).length, limit := min (s.read + (o.readS most).length + s.own.data) mvar, raise := true }
  else { s.put (x.readTo b m (o.read most)) with read := s.read + (o.readS most).length }
/-- what Read does -/
inductive Ss.Reads (s : Ss) (id : Nat) (most : Int) : ByteArray → Bool → Int → Ss → Prop
  | none (h : s.get id = none) : s.Reads id most ⟨#[]⟩ false 10 s
  | arg (x : St) (h : s.get id = some x) (ho : x.inn = none) : s.Reads id most ⟨#[]⟩ false 1 s
  | goes (x : St) (b m m' : Nat) (o : Ib) (h : s.get id = some x) (ho : x.inn = some (b, m, o)) : s.Reads id most ⟨(o.readS most).toArray⟩ (o.readD most) o.readE (s.readsTo x b m' o most)
theorem St.taken_le {w : World} {x : St} (h : x.Box w) : x.taken ≤ x.top := by
  unfold St.taken St.top
  cases hi : x.inn with
  | none => exact Nat.le_refl _
  | some p =>
    obtain ⟨b, m, o⟩ := p
    have hwf := (h.inn b m o hi).wf
    have h1 := hwf.tk
    have h2 := hwf.rd
    show o.taken ≤ o.top
    unfold Ib.top
    split
    · have := (hwf.fin (by assumption)).1; omega
    · omega
theorem sum_le_of {f g : St → Nat} : ∀ {l : List St}, (∀ x ∈ l, f x ≤ g x) → (l.map f).sum ≤ (l.map g).sum
  | [], _ => Nat.le_refl _
  | x :: l, h => by
    simp only [List.map_cons, List.sum_cons]
    have h1 := h x (by simp)
    have h2 := sum_le_of (f := f) (g := g) (l := l) (fun y hy => h y (by simp [hy]))
    omega
theorem Ss.read_le {w : World} {sb : Nat} {s : Ss} (h : SBox w sb s) (hw : s.WF) : s.read ≤ s.came := by
  rw [hw.read]
  exact sum_le_of fun x hx => St.taken_le (h.all x hx)
set_option maxRecDepth 100000 in
set_option maxHeartbeats 8000000 in
theorem stread_any (w : World) (sb : Nat) (s : Ss) (h : SBox w sb s) (hw : s.WF) (hbig : ∀ x ∈ s.l, ∀ b m o, x.inn = some (b, m, o) → o.ready - o.taken ≤ 1000000) (id : Nat) (most : Int) :
    Calls Tryz.prog 22 #[.pointer (some ⟨sb, 0, none⟩), .int .u64 (id : Int), .int .i64 most] w fun e w' => ∃ t d c s', e = .returned (.tuple #[.string t, .bool d, .int .i64 c]) ∧ s.Reads id most t d c s' ∧ SStep w sb s s' w' := by
  have HB := hide h
  have v13 : w.cell? ⟨sb, 13, none⟩ = some (.map (some s.mb)) := h.blk.cell 13
  have hlk := lookup_get h id
  cases hg : s.get id with
  | none =>
    have HG := hide hg
    rw [hg] at hlk
    simp only [Option.map_none, Option.getD_none, Option.isSome_none] at hlk
    clear h hg hbig
    go_enter Tryz.func22, Tryz.ntmps22
    go_wp2_with fail
    refine bodyPost_ret (results_tmp3 rfl _ _ _) rfl ?_
    exact ⟨_, _, _, s, rfl, .none HG.out, SStep.refl HB.out (Mod.refl _ _)⟩
  | some x =>
    have HG := hide hg
    obtain ⟨hx, hxid⟩ := Ss.get_mem hg
    have HX := hide hx
    rw [hg] at hlk
    simp only [Option.map_some, Option.getD_some, Option.isSome_some] at hlk
    have x2 : w.cell? ⟨x.xb, 1, none⟩ = some x.inV := (h.all x hx).blk.cell 1
    cases hxo : x.inn with
    | none =>
      have x2' : w.cell? ⟨x.xb, 1, none⟩ = some (.pointer none) := by rw [x2]; unfold St.inV; rw [hxo]; rfl
      have HXo := hide hxo
      clear x2 h hg hx hxid hxo hbig
      go_enter Tryz.func22, Tryz.ntmps22
      go_wp2_with fail
      refine bodyPost_ret (results_tmp3 rfl _ _ _) rfl ?_
      exact ⟨_, _, _, s, rfl, .arg x HG.out HXo.out, SStep.refl HB.out (Mod.refl _ _)⟩
    | some p =>
      obtain ⟨b, m, o⟩ := p
      have x2' : w.cell? ⟨x.xb, 1, none⟩ = some (.pointer (some ⟨b, 0, none⟩)) := by rw [x2]; unfold St.inV; rw [hxo]; rfl
      have hob := (h.all x hx).inn b m o hxo
      have hbg := hbig x hx b m o hxo
      have HXo := hide hxo
      have HD := hide (iread_any w b m o hob most (by omega))
      have hrl := Ss.read_le h hw
      have hcl := hw.came
      have hll : s.limit ≤ 4611686018427387903 := hw.lim
      have hol : s.own.data ≤ 4611686018427387903 := hw.own.data
      have hfl : x.first ≤ 4611686018427387903 := (hw.vals x hx).2.1
      have hn : (o.readS most).length ≤ 1000000 := by
        unfold Ib.readS
        split
        · simp
        · rw [run_length]; unfold Ib.readN; omega
      have HI := hide hw.ids
      obtain ⟨R, hR⟩ : ∃ R, s.read + (o.readS most).length = R := ⟨_, rfl⟩
      have HR := hide hR
      obtain ⟨S, hS⟩ : ∃ S : ByteArray, (⟨(o.readS most).toArray⟩ : ByteArray) = S := ⟨_, rfl⟩
      have hSz : S.size = (o.readS most).length := by rw [← hS]; rfl
      have hS0 := hide hS
      have hRl : R ≤ 4611686018428387903 := by omega
      obtain ⟨mn, hmn⟩ : ∃ mn, min s.limit R = mn := ⟨_, rfl⟩
      obtain ⟨df, hdf⟩ : ∃ df, s.limit - mn = df := ⟨_, rfl⟩
      obtain ⟨hf, hhf⟩ : ∃ hf, s.own.data / 2 = hf := ⟨_, rfl⟩
      obtain ⟨hx2, hhx2⟩ : ∃ hx2, x.first / 2 = hx2 := ⟨_, rfl⟩
      obtain ⟨lm, hlm0⟩ : ∃ lm, min (R + s.own.data) mvar = lm := ⟨_, rfl⟩
      have hlm := hide hlm0
      have q1 : min (s.limit : Int) (R : Int) = (mn : Int) := by omega
      have q2 : IntKind.u64.wrap ((s.limit : Int) - (mn : Int)) = (df : Int) := by rw [show (s.limit : Int) - (mn : Int) = (df : Int) by omega]; exact IntWalk.u64_in _ (by omega)
      have q3 : (s.own.data : Int) / 2 = (hf : Int) := by omega
      have q4 : IntKind.u64.wrap ((R : Int) + (s.own.data : Int)) = (R : Int) + (s.own.data : Int) := IntWalk.u64_in _ (by omega)
      have q5 : min ((R : Int) + (s.own.data : Int)) 4611686018427387903 = (lm : Int) := by unfold mvar at hlm0; omega
      have q6 : (x.first : Int) / 2 = (hx2 : Int) := by omega
      have q7 : IntKind.u64.wrap (S.size : Int) = (S.size : Int) := IntWalk.u64_in _ (by omega)
      have q8 : IntKind.u64.wrap ((s.read : Int) + (S.size : Int)) = (R : Int) := by rw [show (s.read : Int) + (S.size : Int) = (R : Int) by omega]; exact IntWalk.u64_in _ (by omega)
      have HQs := hide (And.intro q1 (And.intro q2 (And.intro q3 (And.intro q4 (And.intro q5 (And.intro q6 (And.intro q7 q8)))))))
      clear x2 h hg hx hxid hxo hbig hob q1 q2 q3 q4 q5 q6 q7 q8 hR hS hlm0 hSz
      unfold str at HD
      rw [hS0.out] at HD
      go_enter Tryz.func22, Tryz.ntmps22
      go_wp2_with fail
      refine HD.out.mono ?_
      rintro e w1 ⟨rfl, hst⟩
      obtain ⟨m1, hst⟩ := HB.out.inStep HI.out HX.out HXo.out hst
      obtain ⟨o1, ho1⟩ : ∃ o1, o.read most = o1 := ⟨_, rfl⟩
      have HO1 := hide ho1
      rw [ho1] at hst
      have hsm : Mod [sb] w1 (w1.setCell ⟨sb, 21, none⟩ (.int .u64 (R : Int))) := (Mod.refl [sb] w1).setCell (p := ⟨sb, 21, none⟩) (.inl (by simp)) _
      have hst2 := hst.1.rootStep (s' := { s.put (x.withIn b m1 o1) with read := R }) hsm (hst.1.blk.set_ 21 _) rfl rfl
      have v21 : w1.cell? ⟨sb, 21, none⟩ = some (.int .u64 (s.read : Int)) := hst.1.blk.cell 21
      have g21 : w1.frozen? ⟨sb, 21, none⟩ = false := hst.1.blk.frozen 21
      have hst3 := hst.trans hst2
      obtain ⟨w2, hw2⟩ : ∃ w2, w1.setCell ⟨sb, 21, none⟩ (.int .u64 (R : Int)) = w2 := ⟨_, rfl⟩
      rw [hw2] at hst3
      have hx1 : x.withIn b m1 o1 ∈ ({ s.put (x.withIn b m1 o1) with read := R } : Ss).l := Ss.put_mem HX.out rfl
      have HX1 := hide hx1
      have hxb := hst3.1.all _ hx1
      have x1 : w2.cell? ⟨x.xb, 1, none⟩ = some (.pointer (some ⟨b, 0, none⟩)) := hxb.blk.cell 1
      have x3 : w2.cell? ⟨x.xb, 3, none⟩ = some (.int .u64 (x.first : Int)) := hxb.blk.cell 3
      have x4 : w2.cell? ⟨x.xb, 4, none⟩ = some (.bool x.raise) := hxb.blk.cell 4
      have g4 : w2.frozen? ⟨x.xb, 4, none⟩ = false := hxb.blk.frozen 4
      have hib := hxb.inn b m1 o1 rfl
      have hwf := hib.wf
      have htl : o1.taken ≤ o1.limit := by have h1 := hwf.tk; have h2 := hwf.rd; have h3 := hwf.top; omega
      have hil : o1.limit ≤ 4611686018427387903 := hwf.lim
      have HFi := hide (fun W (m : Mod [] w2 W) => ifinal_any W b m1 o1 (hib.mod m (by simp) (by simp)))
      have HLi := hide (fun W (m : Mod [] w2 W) => ilimit_any W b m1 o1 (hib.mod m (by simp) (by simp)))
      have HTa := hide (fun W (m : Mod [] w2 W) => itaken_any W b m1 o1 (hib.mod m (by simp) (by simp)))
      have HS2 := hide hst3
      have e7 := HQs.out.2.2.2.2.2.2.1
      have e8 := HQs.out.2.2.2.2.2.2.2
      clear hst hst2 hsm hst3 hxb hib hwf hx1 ho1
      go_wp2_with fail
      refine (HFi.out w2 (Mod.refl _ _)).mono ?_
      rintro e w3 ⟨rfl, n3, rfl⟩
      clear hw2 e7 e8 v21 g21
      have HMx : Hid (Mod [] w2 (w2.drewN n3)) := hide ((Mod.refl [] w2).drewN n3)
      have HS3 : Hid (SStep w sb s { s.put (x.withIn b m1 o1) with read := R } (w2.drewN n3)) := hide (HS2.out.trans (SStep.refl HS2.out.1 HMx.out))
      have x1 : (w2.drewN n3).cell? ⟨x.xb, 1, none⟩ = some (.pointer (some ⟨b, 0, none⟩)) := x1
      have x3 : (w2.drewN n3).cell? ⟨x.xb, 3, none⟩ = some (.int .u64 (x.first : Int)) := x3
      have x4 : (w2.drewN n3).cell? ⟨x.xb, 4, none⟩ = some (.bool x.raise) := x4
      have g4 : (w2.drewN n3).frozen? ⟨x.xb, 4, none⟩ = false := g4
      obtain ⟨wx, hwx⟩ : ∃ wx, w2.drewN n3 = wx := ⟨_, rfl⟩
      rw [hwx] at HMx HS3 x1 x3 x4 g4 ⊢
      clear hwx
      have q1 := HQs.out.1
      have q2 := HQs.out.2.1
      have q3 := HQs.out.2.2.1
      have q4 := HQs.out.2.2.2.1
      have q5 := HQs.out.2.2.2.2.1
      have HMn := hide (And.intro hmn (And.intro hdf hhf))
      cases hkn : o1.known with
      | true =>
        have HRt : Hid (∀ mq, x.readTo b mq (o.read most) = x.withIn b mq o1) := hide (fun mq => by rw [HO1.out]; unfold St.readTo St.low; rw [hkn]; rfl)
        clear hkn
        go_wp2_with fail
        go_quiet (fail)
        have HS : Hid (SStep w sb s { s.put (x.withIn b m1 o1) with read := R } (wx.drewN nq)) := hide (HS3.out.trans (SStep.refl HS3.out.1 ((Mod.refl [] wx).drewN nq)))
        obtain ⟨wy, hwy⟩ : ∃ wy, wx.drewN nq = wy := ⟨_, rfl⟩
        rw [hwy] at HS ⊢
        clear hwy x1 x3 x4 g4
        have v18 : wy.cell? ⟨sb, 18, none⟩ = some (.int .u64 (s.limit : Int)) := HS.out.1.blk.cell 18
        have v19 : wy.cell? ⟨sb, 19, none⟩ = some (.bool s.raise) := HS.out.1.blk.cell 19
        have v21 : wy.cell? ⟨sb, 21, none⟩ = some (.int .u64 (R : Int)) := HS.out.1.blk.cell 21
        have v1 : wy.cell? ⟨sb, 1, none⟩ = some (.int .u64 (s.own.data : Int)) := HS.out.1.blk.cell 1
        have g18 : wy.frozen? ⟨sb, 18, none⟩ = false := HS.out.1.blk.frozen 18
        have g19 : wy.frozen? ⟨sb, 19, none⟩ = false := HS.out.1.blk.frozen 19
        have HSb := hide HS.out.1.blk
        go_wp2_with fail
        go_quiet (fail)
        by_cases hlt : s.limit - min s.limit R < s.own.data / 2
        · have d1 : df < hf := by omega
          have HLt := hide hlt
          clear hlt
          go_wp2_with fail
          go_region
          all_goals
            go_wp2_with fail
            refine bodyPost_ret (results_tmp3 rfl _ _ _) rfl ?_
            refine ⟨_, _, _, s.readsTo x b m1 o most, by rw [hS0.out]; rfl, .goes x b m m1 o HG.out HXo.out, HS.out.trans ?_⟩
            have e : s.readsTo x b m1 o most = { ({ s.put (x.withIn b m1 o1) with read := R } : Ss) with limit := lm, raise := true } := by
              unfold Ss.readsTo
              rw [HR.out, if_pos HLt.out, hlm.out, HRt.out]
            rw [e]
            refine HS.out.1.rootStep ?_ ?_ rfl rfl
            · exact (((Mod.refl [sb] _).drewN _).setCell (p := ⟨sb, 18, none⟩) (.inl (by simp)) _).setCell (p := ⟨sb, 19, none⟩) (.inl (by simp)) _
            · exact ((HSb.out : Blk (wy.drewN _) sb _ _).set_ 18 (.int .u64 (lm : Int))).set_ 19 (.bool true)
        · have d1 : ¬ df < hf := by omega
          have HLt := hide hlt
          clear hlt
          go_wp2_with fail
          refine bodyPost_ret (results_tmp3 rfl _ _ _) rfl ?_
          refine ⟨_, _, _, s.readsTo x b m1 o most, by rw [hS0.out]; rfl, .goes x b m m1 o HG.out HXo.out, HS.out.trans ?_⟩
          have e : s.readsTo x b m1 o most = { s.put (x.withIn b m1 o1) with read := R } := by
            unfold Ss.readsTo
            rw [HR.out, if_neg HLt.out, HRt.out]
          rw [e]
          exact SStep.refl HS.out.1 ((Mod.refl [] _).drewN _)
      | false =>
        have q6 := HQs.out.2.2.2.2.2.1
        obtain ⟨lf, hlf⟩ : ∃ lf, o1.limit - o1.taken = lf := ⟨_, rfl⟩
        have q9 : IntKind.u64.wrap ((o1.limit : Int) - (o1.taken : Int)) = (lf : Int) := by rw [show (o1.limit : Int) - (o1.taken : Int) = (lf : Int) by omega]; exact IntWalk.u64_in _ (by omega)
        have HLf := hide hlf
        clear hlf
        go_wp2_with fail
        go_quiet ((first | (go_at_call 47; exact Calls.quiet_of (HLi.out _ (HMx.out.drewN _))) | (go_at_call 48; exact Calls.quiet_of (HTa.out _ (HMx.out.drewN _)))))
        have HMy := hide (HMx.out.drewN nq)
        have HS4 : Hid (SStep w sb s { s.put (x.withIn b m1 o1) with read := R } (wx.drewN nq)) := hide (HS3.out.trans (SStep.refl HS3.out.1 ((Mod.refl [] wx).drewN nq)))
        have x1 : (wx.drewN nq).cell? ⟨x.xb, 1, none⟩ = some (.pointer (some ⟨b, 0, none⟩)) := x1
        have x3 : (wx.drewN nq).cell? ⟨x.xb, 3, none⟩ = some (.int .u64 (x.first : Int)) := x3
        obtain ⟨wy, hwy⟩ : ∃ wy, wx.drewN nq = wy := ⟨_, rfl⟩
        rw [hwy] at HMy HS4 x1 x3 ⊢
        have HKn := hide hkn
        clear hwy x4 g4 q6 q9 hkn
        by_cases hlow : lf < hx2
        · have HRt : Hid (∀ mq, x.readTo b mq (o.read most) = { x.withIn b mq (o1.raise (o1.taken + x.first)) with raise := true }) := hide (fun mq => by
            rw [HO1.out]; unfold St.readTo St.low
            rw [HKn.out, HLf.out, hhx2, decide_eq_true hlow]; rfl)
          have HTy := hide (fun W (m : Mod [] wy W) => HTa.out W (HMy.out.trans m (by simp)))
          have ct : ∀ d os, Calls Tryz.prog 48 #[.pointer (some ⟨b, 0, none⟩)] (grow (redrawn wy d) os) fun e0 w'' => e0 = .returned (.int .u64 (o1.taken : Int)) ∧ ∃ p : Regrown, w'' = grow (redrawn wy p.d) p.os := fun d os => Calls.regrown_of ((HTy.out _ (Mod.of_below (F := []) (below_regrown wy d os))).mono fun _ _ hh => ⟨hh.1, by obtain ⟨n, hn⟩ := hh.2; rw [hn]; exact ((Mod.refl [] _).drewN n).below (Nat.le_refl _) (by simp)⟩)
          have CT := hide ct
          have y1 := cell_regrown x1
          have y3 := cell_regrown x3
          have q10 : IntKind.u64.wrap ((o1.taken : Int) + (x.first : Int)) = (o1.taken : Int) + (x.first : Int) := IntWalk.u64_in _ (by omega)
          have hra := fun W (m : Mod [] wy W) => iraise_any W b m1 o1 (((HS4.out.1.new m).all _ HX1.out).inn b m1 o1 rfl) (o1.taken + x.first) (by omega)
          rw [show ((o1.taken + x.first : Nat) : Int) = (o1.taken : Int) + (x.first : Int) from by omega] at hra
          have HRa := hide hra
          clear ct x1 x3 hra
          go_wp2_with fail
          refine wp_region_mid 14 (by kernel_rfl) (by kernel_rfl) ?_
          simp only [List.take_succ_cons, List.take_zero, List.drop_succ_cons, List.drop_zero]
          repeat (go_big_quiet_step (with_reducible exact CT.out _ _))
          refine wpQuiet_nil ?_
          intro W hbw
          have HMw : Hid (Mod [] wy W) := hide (Mod.of_below (F := []) hbw)
          clear hbw y1 y3 q10
          go_wp2_with fail
          refine (HRa.out W HMw.out).mono ?_
          rintro e w5 ⟨rfl, hst⟩
          have hbw := HS4.out.1.new HMw.out
          obtain ⟨m2, hst⟩ := hbw.inStep (x := x.withIn b m1 o1) (by rw [show (({ s.put (x.withIn b m1 o1) with read := R } : Ss).l.map St.id) = s.l.map St.id from Ss.put_ids s _]; exact HI.out) HX1.out rfl hst
          have hst5 := HS4.out.trans ((SStep.refl HS4.out.1 HMw.out).trans hst)
          have he : ({ s.put (x.withIn b m1 o1) with read := R } : Ss).put ((x.withIn b m1 o1).withIn b m2 (o1.raise (o1.taken + x.first))) = { s.put (x.withIn b m2 (o1.raise (o1.taken + x.first))) with read := R } := by
            have := Ss.put_put s (x.withIn b m1 o1) (x.withIn b m2 (o1.raise (o1.taken + x.first))) rfl
            exact congrArg (fun q : Ss => { q with read := R }) this
          rw [he] at hst5
          have hx2 : x.withIn b m2 (o1.raise (o1.taken + x.first)) ∈ ({ s.put (x.withIn b m2 (o1.raise (o1.taken + x.first))) with read := R } : Ss).l := Ss.put_mem HX.out rfl
          have HX2 := hide hx2
          have hxb := (hst5.1.all _ hx2).blk
          have HXb := hide hxb
          have z4 : w5.cell? ⟨x.xb, 4, none⟩ = some (.bool x.raise) := hxb.cell 4
          have g4 : w5.frozen? ⟨x.xb, 4, none⟩ = false := hxb.frozen 4
          have HS5 := hide hst5
          clear hst hst5 hbw he hx2 hxb
          go_wp2_with fail
          refine Behind.moves ?_
          refine wpQuiet_nil ?_
          intro k5
          have HS6 : Hid (SStep w sb s { s.put (x.withIn b m2 (o1.raise (o1.taken + x.first))) with read := R } (w5.drewN k5)) := hide (HS5.out.trans (SStep.refl HS5.out.1 ((Mod.refl [] w5).drewN k5)))
          have z4 : (w5.drewN k5).cell? ⟨x.xb, 4, none⟩ = some (.bool x.raise) := z4
          have g4 : (w5.drewN k5).frozen? ⟨x.xb, 4, none⟩ = false := g4
          have hxb6 : Blk (w5.drewN k5) x.xb 83 (x.withIn b m2 (o1.raise (o1.taken + x.first))).cells := HXb.out
          obtain ⟨w6, hw6⟩ : ∃ w6, w5.drewN k5 = w6 := ⟨_, rfl⟩
          rw [hw6] at HS6 z4 g4 hxb6 ⊢
          clear hw6 HS5 HXb
          have hcs := SBox.cellStep HS6.out.1 (by rw [show (({ s.put (x.withIn b m2 (o1.raise (o1.taken + x.first))) with read := R } : Ss).l.map St.id) = s.l.map St.id from Ss.put_ids s _]; exact HI.out) HX2.out (x' := { x.withIn b m2 (o1.raise (o1.taken + x.first)) with raise := true }) ((Mod.refl [x.xb] w6).setCell (p := ⟨x.xb, 4, none⟩) (.inl (by simp)) (.bool true)) (hxb6.set_ 4 (.bool true)) rfl rfl rfl rfl
          have he : ({ s.put (x.withIn b m2 (o1.raise (o1.taken + x.first))) with read := R } : Ss).put ({ x.withIn b m2 (o1.raise (o1.taken + x.first)) with raise := true }) = { s.put ({ x.withIn b m2 (o1.raise (o1.taken + x.first)) with raise := true } : St) with read := R } := by
            have := Ss.put_put s (x.withIn b m2 (o1.raise (o1.taken + x.first))) ({ x.withIn b m2 (o1.raise (o1.taken + x.first)) with raise := true }) rfl
            exact congrArg (fun q : Ss => { q with read := R }) this
          rw [he] at hcs
          have hst7 := HS6.out.trans hcs
          obtain ⟨w7, hw7⟩ : ∃ w7, w6.setCell ⟨x.xb, 4, none⟩ (.bool true) = w7 := ⟨_, rfl⟩
          rw [hw7] at hst7
          have HS : Hid (SStep w sb s { s.put ({ x.withIn b m2 (o1.raise (o1.taken + x.first)) with raise := true } : St) with read := R } w7) := hide hst7
          clear hst7 hcs he hxb6
          have v18 : w7.cell? ⟨sb, 18, none⟩ = some (.int .u64 (s.limit : Int)) := HS.out.1.blk.cell 18
          have v19 : w7.cell? ⟨sb, 19, none⟩ = some (.bool s.raise) := HS.out.1.blk.cell 19
          have v21 : w7.cell? ⟨sb, 21, none⟩ = some (.int .u64 (R : Int)) := HS.out.1.blk.cell 21
          have v1 : w7.cell? ⟨sb, 1, none⟩ = some (.int .u64 (s.own.data : Int)) := HS.out.1.blk.cell 1
          have g18 : w7.frozen? ⟨sb, 18, none⟩ = false := HS.out.1.blk.frozen 18
          have g19 : w7.frozen? ⟨sb, 19, none⟩ = false := HS.out.1.blk.frozen 19
          have HSb := hide HS.out.1.blk
          go_wp2_with fail
          go_quiet (fail)
          by_cases hlt : s.limit - min s.limit R < s.own.data / 2
          · have d1 : df < hf := by omega
            have HLt := hide hlt
            clear hlt
            go_wp2_with fail
            go_region
            all_goals
              go_wp2_with fail
              refine bodyPost_ret (results_tmp3 rfl _ _ _) rfl ?_
              refine ⟨_, _, _, s.readsTo x b m2 o most, by rw [hS0.out]; rfl, .goes x b m m2 o HG.out HXo.out, HS.out.trans ?_⟩
              have e : s.readsTo x b m2 o most = { ({ s.put ({ x.withIn b m2 (o1.raise (o1.taken + x.first)) with raise := true } : St) with read := R } : Ss) with limit := lm, raise := true } := by
                unfold Ss.readsTo
                rw [HR.out, if_pos HLt.out, hlm.out, HRt.out]
              rw [e]
              refine HS.out.1.rootStep ?_ ?_ rfl rfl
              · exact (((Mod.refl [sb] _).drewN _).setCell (p := ⟨sb, 18, none⟩) (.inl (by simp)) _).setCell (p := ⟨sb, 19, none⟩) (.inl (by simp)) _
              · exact ((HSb.out : Blk (w7.drewN _) sb _ _).set_ 18 (.int .u64 (lm : Int))).set_ 19 (.bool true)
          · have d1 : ¬ df < hf := by omega
            have HLt := hide hlt
            clear hlt
            go_wp2_with fail
            refine bodyPost_ret (results_tmp3 rfl _ _ _) rfl ?_
            refine ⟨_, _, _, s.readsTo x b m2 o most, by rw [hS0.out]; rfl, .goes x b m m2 o HG.out HXo.out, HS.out.trans ?_⟩
            have e : s.readsTo x b m2 o most = { s.put ({ x.withIn b m2 (o1.raise (o1.taken + x.first)) with raise := true } : St) with read := R } := by
              unfold Ss.readsTo
              rw [HR.out, if_neg HLt.out, HRt.out]
            rw [e]
            exact SStep.refl HS.out.1 ((Mod.refl [] _).drewN _)
        · have HRt : Hid (∀ mq, x.readTo b mq (o.read most) = x.withIn b mq o1) := hide (fun mq => by
            rw [HO1.out]; unfold St.readTo St.low
            rw [HKn.out, HLf.out, hhx2, decide_eq_false hlow]; rfl)
          clear x1 x3
          have HS : Hid (SStep w sb s { s.put (x.withIn b m1 o1) with read := R } wy) := hide HS4.out
          have v18 : wy.cell? ⟨sb, 18, none⟩ = some (.int .u64 (s.limit : Int)) := HS.out.1.blk.cell 18
          have v19 : wy.cell? ⟨sb, 19, none⟩ = some (.bool s.raise) := HS.out.1.blk.cell 19
          have v21 : wy.cell? ⟨sb, 21, none⟩ = some (.int .u64 (R : Int)) := HS.out.1.blk.cell 21
          have v1 : wy.cell? ⟨sb, 1, none⟩ = some (.int .u64 (s.own.data : Int)) := HS.out.1.blk.cell 1
          have g18 : wy.frozen? ⟨sb, 18, none⟩ = false := HS.out.1.blk.frozen 18
          have g19 : wy.frozen? ⟨sb, 19, none⟩ = false := HS.out.1.blk.frozen 19
          have HSb := hide HS.out.1.blk
          go_wp2_with fail
          go_quiet (fail)
          by_cases hlt : s.limit - min s.limit R < s.own.data / 2
          · have d1 : df < hf := by omega
            have HLt := hide hlt
            clear hlt
            go_wp2_with fail
            go_region
            all_goals
              go_wp2_with fail
              refine bodyPost_ret (results_tmp3 rfl _ _ _) rfl ?_
              refine ⟨_, _, _, s.readsTo x b m1 o most, by rw [hS0.out]; rfl, .goes x b m m1 o HG.out HXo.out, HS.out.trans ?_⟩
              have e : s.readsTo x b m1 o most = { ({ s.put (x.withIn b m1 o1) with read := R } : Ss) with limit := lm, raise := true } := by
                unfold Ss.readsTo
                rw [HR.out, if_pos HLt.out, hlm.out, HRt.out]
              rw [e]
              refine HS.out.1.rootStep ?_ ?_ rfl rfl
              · exact (((Mod.refl [sb] _).drewN _).setCell (p := ⟨sb, 18, none⟩) (.inl (by simp)) _).setCell (p := ⟨sb, 19, none⟩) (.inl (by simp)) _
              · exact ((HSb.out : Blk (wy.drewN _) sb _ _).set_ 18 (.int .u64 (lm : Int))).set_ 19 (.bool true)
          · have d1 : ¬ df < hf := by omega
            have HLt := hide hlt
            clear hlt
            go_wp2_with fail
            refine bodyPost_ret (results_tmp3 rfl _ _ _) rfl ?_
            refine ⟨_, _, _, s.readsTo x b m1 o most, by rw [hS0.out]; rfl, .goes x b m m1 o HG.out HXo.out, HS.out.trans ?_⟩
            have e : s.readsTo x b m1 o most = { s.put (x.withIn b m1 o1) with read := R } := by
              unfold Ss.readsTo
              rw [HR.out, if_neg HLt.out, HRt.out]
            rw [e]
            exact SStep.refl HS.out.1 ((Mod.refl [] _).drewN _)
end Go.Proofs.YtjdfemfobcjecaaGreat
