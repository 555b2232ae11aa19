/-
  the document's Get.
-/
import Derived.Test.YtkbpndohpkcikaaDoorJsRf2
import Derived.Test.YtkbpndohpkcikaaDoorJsGet
namespace Go.Proofs.YtkbpndohpkcikaaDoor
open Go.RowKit Js Go.Sort
set_option linter.unusedVariables false
set_option linter.unusedSimpArgs false
theorem GetP.same {v : JV} {key : ByteArray} {x y : JV} {b c : Bool} (h : GetP v key x b) (h' : GetP v key y c) : x = y ∧ b = c := by
  rcases h with ⟨rfl, h1, h2, j, h3, h4, h5⟩ | ⟨rfl, rfl, h1⟩
  · rcases h' with ⟨rfl, _, _, j', k3, k4, k5⟩ | ⟨rfl, rfl, k1⟩
    · have : j = j' := by
        rcases Nat.lt_trichotomy j j' with h | h | h
        · exact absurd h3 (k4 j h)
        · exact h
        · exact absurd k3 (h4 j' h)
      subst this
      rw [h5] at k5
      exact ⟨Option.some.inj k5, rfl⟩
    · rcases k1 with k1 | k1 | k1
      · exact absurd h1 k1
      · rw [h2] at k1; cases k1
      · exact absurd (List.mem_iff_getElem?.2 ⟨j, h3⟩) k1
  · rcases h' with ⟨rfl, k1, k2, j', k3, k4, k5⟩ | ⟨rfl, rfl, k1⟩
    · rcases h1 with h1 | h1 | h1
      · exact absurd k1 h1
      · rw [k2] at h1; cases h1
      · exact absurd (List.mem_iff_getElem?.2 ⟨j', k3⟩) h1
    · exact ⟨rfl, rfl⟩
def RGetP (w : World) (v : JV) (key : ByteArray) (e : Ending) (w' : World) : Prop := ∃ (y : JN) (b : Bool), e = .returned (.tuple #[.agg y.cells, .bool b]) ∧ GetP v key y.v b ∧ JIn w' y ∧ Mod [] w w'
set_option maxRecDepth 100000 in
set_option maxHeartbeats 4000000 in
theorem rget_any (w : World) (x : JN) (key : ByteArray) (hx : JIn w x) :
    Calls Tryd.prog 14 #[.agg x.cells, .string key] w (RGetP w x.v key) := by
  have HMay := hide (fun w' (m : Mod [] w w') b hb => rmay_any w' x (hx.new m) b hb)
  obtain ⟨xk, xi, xt, xA, xc, xl, xB, xd, xs⟩ := x
  rw [JIn] at hx
  obtain ⟨⟨hx1, hx2⟩, hx3, hx4, hx5⟩ := hx
  have HKs := hide hx3
  have HRow := hide hx4
  have HIns := hide hx5
  rw [JN.v] at HMay ⊢
  unfold jmax at hx1 hx2
  obtain ⟨n, hn⟩ : ∃ n, xl.length = n := ⟨_, rfl⟩
  obtain ⟨m, hm⟩ : ∃ m, xs.length = m := ⟨_, rfl⟩
  have HNn := hide hn
  have HMn := hide hm
  simp only [JN.cells] at HMay ⊢
  rw [hn, hm] at HMay
  rw [hn, hm]
  rw [hn] at hx1
  rw [hm] at hx2
  clear hx3 hx4 hx5 hn hm
  have HM0 := hide (((Mod.refl [] w).alloc (.cells #[.int .i64 xk, .int .i64 xi, .string xt, .slice xA n xc, .slice xB m xd] 25)).alloc (.cells #[.int .i64 0, .int .i64 0, .string ⟨#[]⟩, .slice none 0 0, .slice none 0 0] 25))
  have HB1 := hide ((Blk.new w 25 #[.int .i64 xk, .int .i64 xi, .string xt, .slice xA n xc, .slice xB m xd]).alloc (.cells #[.int .i64 0, .int .i64 0, .string ⟨#[]⟩, .slice none 0 0, .slice none 0 0] 25))
  have hB2 := Blk.new (w.alloc (.cells #[.int .i64 xk, .int .i64 xi, .string xt, .slice xA n xc, .slice xB m xd] 25)) 25 #[.int .i64 0, .int .i64 0, .string ⟨#[]⟩, .slice none 0 0, .slice none 0 0]
  rw [World.size_alloc] at hB2
  have HB2 := hide hB2
  clear hB2
  by_cases h6 : xk = 6
  · subst h6
    have f6 : ((6 : Int) != 6) = false := by simp
    obtain ⟨bm, hb⟩ : ∃ bm, jmay 8 (.mk 6 xi xt (JN.vs xl) xs) = bm := ⟨_, rfl⟩
    have HM8 := hide (fun w' (m : Mod [] w w') => HMay.out w' m bm hb)
    have HBm := hide hb
    clear hb HMay
    go_enter Tryd.func14, Tryd.ntmps14
    go_wp2_with fail
    refine (HM8.out _ HM0.out).mono ?_
    rintro e w3 ⟨rfl, m3⟩
    have HM3 := hide (HM0.out.trans m3 (by simp))
    have HB13 := hide (m3.blk HB1.out (by simp))
    have HB23 := hide (m3.blk HB2.out (by simp))
    have lt3 := HB23.out.lt
    have r0 : w3.cell? ⟨w.heap.size + 1, 0, none⟩ = some (.int .i64 0) := HB23.out.cell 0
    have rf0 : w3.frozen? ⟨w.heap.size + 1, 0, none⟩ = false := HB23.out.frozen 0
    have r1 : w3.cell? ⟨w.heap.size + 1, 1, none⟩ = some (.int .i64 0) := HB23.out.cell 1
    have rf1 : w3.frozen? ⟨w.heap.size + 1, 1, none⟩ = false := HB23.out.frozen 1
    have r2 : w3.cell? ⟨w.heap.size + 1, 2, none⟩ = some (.string ⟨#[]⟩) := HB23.out.cell 2
    have rf2 : w3.frozen? ⟨w.heap.size + 1, 2, none⟩ = false := HB23.out.frozen 2
    have r3 : w3.cell? ⟨w.heap.size + 1, 3, none⟩ = some (.slice none 0 0) := HB23.out.cell 3
    have rf3 : w3.frozen? ⟨w.heap.size + 1, 3, none⟩ = false := HB23.out.frozen 3
    have r4 : w3.cell? ⟨w.heap.size + 1, 4, none⟩ = some (.slice none 0 0) := HB23.out.cell 4
    have rf4 : w3.frozen? ⟨w.heap.size + 1, 4, none⟩ = false := HB23.out.frozen 4
    clear m3 HM8
    cases bm with
    | false =>
      have HE : Hid (GetP (.mk 6 xi xt (JN.vs xl) xs) key (JN.mk 0 0 ⟨#[]⟩ none 0 [] none 0 []).v false) := hide (.inr ⟨rfl, rfl, .inr (.inl HBm.out)⟩)
      have HW := hide (jsets_blk (JN.mk 0 0 ⟨#[]⟩ none 0 [] none 0 []).cells HB23.out rfl (JN.mk 0 0 ⟨#[]⟩ none 0 [] none 0 []).cells_size)
      have HWm := hide ((HM3.out.sets (.inr (Nat.le_succ _)) (fun i => (JN.mk 0 0 ⟨#[]⟩ none 0 [] none 0 []).cells.getD i undef) (List.range 5)))
      unfold JN.cells at HW HWm
      go_wp2_with fail
      refine bodyPost_ret (results_cell_tmp_row_ rfl _ _ (w.heap.size + 1) 25 (#[.int .i64 0, .int .i64 0, .string ⟨#[]⟩, .slice none 0 0, .slice none 0 0]) _ rfl ?_ Tryd.underlying25 rfl (by kernel_rfl)) rfl ?_
      · exact HW.out
      · exact ⟨(JN.mk 0 0 ⟨#[]⟩ none 0 [] none 0 []), false, rfl, HE.out, JIn.plain _ _ _ _, HWm.out⟩
    | true =>
      have hpl : m = n := by
        have h1 := jmay_len HBm.out rfl
        rw [JN.vs_len] at h1
        have := HNn.out
        have := HMn.out
        omega
      have HPl := hide hpl
      clear hpl r0 r1 r2 r3 r4 rf0 rf1 rf2 rf3 rf4
      go_wp2_with fail
      go_loopw [6] (fun iv wr => ∃ i : Nat, i ≤ m ∧ iv = .int .i64 (i : Int) ∧ Hid (∀ j : Nat, j < i → xs[j]? ≠ some key) ∧ Hid (wr = w3)) (fun iv _ => m - (intOf iv).toNat)
      case atStart => exact ⟨0, by omega, rfl, hide (fun j h => absurd h (Nat.not_lt_zero _)), hide rfl⟩
      case round =>
        obtain ⟨i, hi, rfl, htk, hwr⟩ := hrel
        have hmr : Mod [] w wr := by rw [hwr.out]; exact HM3.out
        have HMr := hide hmr
        have HB1r : Hid (Blk wr w.heap.size 25 #[.int .i64 6, .int .i64 xi, .string xt, .slice xA n xc, .slice xB m xd]) := hide (by rw [hwr.out]; exact HB13.out)
        have HB2r : Hid (Blk wr (w.heap.size + 1) 25 #[.int .i64 0, .int .i64 0, .string ⟨#[]⟩, .slice none 0 0, .slice none 0 0]) := hide (by rw [hwr.out]; exact HB23.out)
        have x4 : wr.cell? ⟨w.heap.size, 4, none⟩ = some (.slice xB m xd) := HB1r.out.cell 4
        clear hmr
        by_cases h2 : i < m
        · obtain ⟨u, hu⟩ : ∃ u, xs[i]? = some u := ⟨_, List.getElem?_eq_getElem (by have := HMn.out; omega)⟩
          obtain ⟨g, o, rfl, hg, hc⟩ := (HKs.out.new HMr.out).at_ hu
          have hii : (i : Int) < (m : Int) := by omega
          have a1 : IntKind.i64.wrap ((i : Int) + 1) = (i : Int) + 1 := IntWalk.i64_in _ (by omega)
          by_cases huk : u = key
          · subst huk
            have g3 := toList_same u
            obtain ⟨v, hv⟩ : ∃ v, xl[i]? = some v := ⟨_, List.getElem?_eq_getElem (by have := HNn.out; have := HPl.out; omega)⟩
            obtain ⟨g', o', rfl, hg', hc'⟩ := (HRow.out.new HMr.out).at_ hv
            have HU := hide (HIns.out.at_ hv)
            have HE : Hid (GetP (.mk 6 xi xt (JN.vs xl) xs) u v.v true) := hide (.inl ⟨rfl, rfl, HBm.out, i, hu, htk.out, by show (JN.vs xl)[i]? = _; rw [JN.vs_at, hv]; rfl⟩)
            have hgne : g' ≠ w.heap.size + 1 := by
              obtain ⟨g1, o1, h1, h2, _⟩ := HRow.out.at_ hv
              have h3 : g' = g1 := congrArg Addr.block (Option.some.inj h1)
              omega
            obtain ⟨vk, vi, vt, vA, vc, vl, vB, vd, vs⟩ := v
            have y0 : wr.cell? ⟨g', o' + i * 5, none⟩ = some (.int .i64 vk) := hc' 0 _ rfl
            have y1 : wr.cell? ⟨g', o' + i * 5 + 1, none⟩ = some (.int .i64 vi) := hc' 1 _ rfl
            have y2 : wr.cell? ⟨g', o' + i * 5 + 2, none⟩ = some (.string vt) := hc' 2 _ rfl
            have y3 : wr.cell? ⟨g', o' + i * 5 + 3, none⟩ = some (.slice vA vl.length vc) := hc' 3 _ rfl
            have y4 : wr.cell? ⟨g', o' + i * 5 + 4, none⟩ = some (.slice vB vs.length vd) := hc' 4 _ rfl
            have x3 : wr.cell? ⟨w.heap.size, 3, none⟩ = some (.slice (some ⟨g', o', none⟩) n xc) := HB1r.out.cell 3
            have hin : (i : Int) < (n : Int) := by have := HPl.out; omega
            have ltr := HB2r.out.lt
            have r0 : wr.cell? ⟨w.heap.size + 1, 0, none⟩ = some (.int .i64 0) := HB2r.out.cell 0
            have rf0 : wr.frozen? ⟨w.heap.size + 1, 0, none⟩ = false := HB2r.out.frozen 0
            have r1 : wr.cell? ⟨w.heap.size + 1, 1, none⟩ = some (.int .i64 0) := HB2r.out.cell 1
            have rf1 : wr.frozen? ⟨w.heap.size + 1, 1, none⟩ = false := HB2r.out.frozen 1
            have r2 : wr.cell? ⟨w.heap.size + 1, 2, none⟩ = some (.string ⟨#[]⟩) := HB2r.out.cell 2
            have rf2 : wr.frozen? ⟨w.heap.size + 1, 2, none⟩ = false := HB2r.out.frozen 2
            have r3 : wr.cell? ⟨w.heap.size + 1, 3, none⟩ = some (.slice none 0 0) := HB2r.out.cell 3
            have rf3 : wr.frozen? ⟨w.heap.size + 1, 3, none⟩ = false := HB2r.out.frozen 3
            have r4 : wr.cell? ⟨w.heap.size + 1, 4, none⟩ = some (.slice none 0 0) := HB2r.out.cell 4
            have rf4 : wr.frozen? ⟨w.heap.size + 1, 4, none⟩ = false := HB2r.out.frozen 4
            have HW := hide (jsets_blk (JN.mk vk vi vt vA vc vl vB vd vs).cells HB2r.out rfl (JN.mk vk vi vt vA vc vl vB vd vs).cells_size)
            have HWm := hide ((HMr.out.sets (.inr (Nat.le_succ _)) (fun i => (JN.mk vk vi vt vA vc vl vB vd vs).cells.getD i undef) (List.range 5)))
            unfold JN.cells at HW HWm
            clear hc' hu hv htk h2 hwr hg hg'
            go_wp2_with fail
            refine bodyPost_ret (results_cell_tmp_row_ rfl _ _ (w.heap.size + 1) 25 (#[.int .i64 vk, .int .i64 vi, .string vt, .slice vA vl.length vc, .slice vB vs.length vd]) _ rfl ?_ Tryd.underlying25 rfl (by kernel_rfl)) rfl ?_
            · exact HW.out
            · exact ⟨JN.mk vk vi vt vA vc vl vB vd vs, true, rfl, HE.out, HU.out.new HWm.out, HWm.out⟩
          · have g3 := toList_ne huk
            have HT : Hid (∀ j : Nat, j < i + 1 → xs[j]? ≠ some key) := hide (fun j hj => by
              by_cases e : j = i
              · subst e; rw [hu]; intro h; exact huk (Option.some.inj h)
              · exact htk.out j (by omega))
            clear hu htk huk h2 hg
            go_wp2_with fail
            refine ⟨?rel, ?measure⟩
            case rel => exact ⟨i + 1, by omega, by go_num, HT, hwr⟩
            case measure => simp [intOf]; omega
        · have hii : decide ((i : Int) < (m : Int)) = false := decide_eq_false (by omega)
          have hiin : decide (i < m) = false := decide_eq_false (by omega)
          have HE : Hid (GetP (.mk 6 xi xt (JN.vs xl) xs) key (JN.mk 0 0 ⟨#[]⟩ none 0 [] none 0 []).v false) := hide (.inr ⟨rfl, rfl, .inr (.inr (fun hmem => by
            obtain ⟨j, hj⟩ := List.mem_iff_getElem?.1 hmem
            have h5 : j < xs.length := (List.getElem?_eq_some_iff.1 hj).1
            exact htk.out j (by have := HMn.out; omega) hj))⟩)
          have ltr := HB2r.out.lt
          have r0 : wr.cell? ⟨w.heap.size + 1, 0, none⟩ = some (.int .i64 0) := HB2r.out.cell 0
          have rf0 : wr.frozen? ⟨w.heap.size + 1, 0, none⟩ = false := HB2r.out.frozen 0
          have r1 : wr.cell? ⟨w.heap.size + 1, 1, none⟩ = some (.int .i64 0) := HB2r.out.cell 1
          have rf1 : wr.frozen? ⟨w.heap.size + 1, 1, none⟩ = false := HB2r.out.frozen 1
          have r2 : wr.cell? ⟨w.heap.size + 1, 2, none⟩ = some (.string ⟨#[]⟩) := HB2r.out.cell 2
          have rf2 : wr.frozen? ⟨w.heap.size + 1, 2, none⟩ = false := HB2r.out.frozen 2
          have r3 : wr.cell? ⟨w.heap.size + 1, 3, none⟩ = some (.slice none 0 0) := HB2r.out.cell 3
          have rf3 : wr.frozen? ⟨w.heap.size + 1, 3, none⟩ = false := HB2r.out.frozen 3
          have r4 : wr.cell? ⟨w.heap.size + 1, 4, none⟩ = some (.slice none 0 0) := HB2r.out.cell 4
          have rf4 : wr.frozen? ⟨w.heap.size + 1, 4, none⟩ = false := HB2r.out.frozen 4
          have HW := hide (jsets_blk (JN.mk 0 0 ⟨#[]⟩ none 0 [] none 0 []).cells HB2r.out rfl (JN.mk 0 0 ⟨#[]⟩ none 0 [] none 0 []).cells_size)
          have HWm := hide ((HMr.out.sets (.inr (Nat.le_succ _)) (fun i => (JN.mk 0 0 ⟨#[]⟩ none 0 [] none 0 []).cells.getD i undef) (List.range 5)))
          unfold JN.cells at HW HWm
          clear htk h2 hwr
          go_wp2_with fail
          refine bodyPost_ret (results_cell_tmp_row_ rfl _ _ (w.heap.size + 1) 25 (#[.int .i64 0, .int .i64 0, .string ⟨#[]⟩, .slice none 0 0, .slice none 0 0]) _ rfl ?_ Tryd.underlying25 rfl (by kernel_rfl)) rfl ?_
          · exact HW.out
          · exact ⟨(JN.mk 0 0 ⟨#[]⟩ none 0 [] none 0 []), false, rfl, HE.out, JIn.plain _ _ _ _, HWm.out⟩
  · have f6 : (xk != 6) = true := by simp [h6]
    have HE : Hid (GetP (.mk xk xi xt (JN.vs xl) xs) key (JN.mk 0 0 ⟨#[]⟩ none 0 [] none 0 []).v false) := hide (.inr ⟨rfl, rfl, .inl h6⟩)
    have lt2 := HB2.out.lt
    clear HMay h6
    go_enter Tryd.func14, Tryd.ntmps14
    go_wp2_with fail
    refine bodyPost_ret (results_cell_tmp_row_ rfl _ _ (w.heap.size + 1) 25 (#[.int .i64 0, .int .i64 0, .string ⟨#[]⟩, .slice none 0 0, .slice none 0 0]) _ rfl ?_ Tryd.underlying25 rfl (by kernel_rfl)) rfl ?_
    · exact HB2.out
    · exact ⟨(JN.mk 0 0 ⟨#[]⟩ none 0 [] none 0 []), false, rfl, HE.out, JIn.plain _ _ _ _, HM0.out⟩
end Go.Proofs.YtkbpndohpkcikaaDoor
