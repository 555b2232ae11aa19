/-
  the document's Same.
-/
import Derived.Test.YtkbpndohpkcikaaDoorJsAw
namespace Go.Proofs.YtkbpndohpkcikaaDoor
open Go.RowKit Js Go.Sort
set_option linter.unusedVariables false
set_option linter.unusedSimpArgs false
/-- the document's Same, of values that are the same, of at most that size -/
def RSameOk (n : Nat) : Prop := ∀ (w : World) (x y : JN), x.sz ≤ n → x.v = y.v → JIn w x → JIn w y →
  Calls Tryd.prog 17 #[.agg x.cells, .agg y.cells] w fun e w' => e = .returned (.bool true) ∧ Mod [] w w'
set_option maxRecDepth 100000 in
set_option maxHeartbeats 8000000 in
theorem rsame_step (N : Nat) (hS : RSameOk N) : RSameOk (N + 1) := by
  intro w x y hsz hv hx hy
  obtain ⟨xk, xi, xt, xA, xc, xl, xB, xd, xs⟩ := x
  obtain ⟨yk, yi, yt, yA, yc, yl, yB, yd, ys⟩ := y
  rw [JN.v, JN.v] at hv
  injection hv with e1 e2 e3 e4 e5
  subst e1 e2 e3 e5
  rw [JIn] at hx hy
  rw [JN.sz] at hsz
  obtain ⟨⟨hx1, hx2⟩, hx3, hx4, hx5⟩ := hx
  obtain ⟨⟨hy1, hy2⟩, hy3, hy4, hy5⟩ := hy
  unfold jmax at hx1 hx2
  have hll : yl.length = xl.length := by rw [← JN.vs_len, ← JN.vs_len, e4]
  obtain ⟨n, hn⟩ : ∃ n, xl.length = n := ⟨_, rfl⟩
  obtain ⟨m, hm⟩ : ∃ m, xs.length = m := ⟨_, rfl⟩
  have hn2 : yl.length = n := by omega
  have HN := hide hn
  have HN2 := hide hn2
  have HMm := hide hm
  have HVs := hide e4
  have HKx := hide hx3
  have HKy := hide hy3
  have HRx := hide hx4
  have HRy := hide hy4
  have HIx := hide hx5
  have HIy := hide hy5
  have HS := hide hS
  have HSz : Hid (JN.szs xl ≤ N) := hide (by omega)
  simp only [JN.cells]
  rw [hn, hn2, hm]
  rw [hn] at hx1
  rw [hm] at hx2
  have HM0 := hide (((Mod.refl [] w).alloc (.cells #[.int .i64 xk, .int .i64 xi, .string xt, .slice xA n xc, .slice xB m xd] 25)).alloc (.cells #[.int .i64 xk, .int .i64 xi, .string xt, .slice yA n yc, .slice yB m yd] 25))
  have HX0 := hide ((Blk.new w 25 #[.int .i64 xk, .int .i64 xi, .string xt, .slice xA n xc, .slice xB m xd]).alloc (.cells #[.int .i64 xk, .int .i64 xi, .string xt, .slice yA n yc, .slice yB m yd] 25))
  have hY0 := Blk.new (w.alloc (.cells #[.int .i64 xk, .int .i64 xi, .string xt, .slice xA n xc, .slice xB m xd] 25)) 25 #[.int .i64 xk, .int .i64 xi, .string xt, .slice yA n yc, .slice yB m yd]
  rw [World.size_alloc] at hY0
  have HY0 := hide hY0
  have k1 : (xk != xk) = false := by simp
  have k2 : (xi != xi) = false := by simp
  have k3 := toList_same xt
  have k4 : ((n : Int) != n) = false := by simp
  have k5 : ((m : Int) != m) = false := by simp
  clear hx3 hx4 hx5 hy3 hy4 hy5 hy1 hy2 hn hn2 hm hll e4 hS hsz hY0
  go_enter Tryd.func17, Tryd.ntmps17
  go_wp2_with fail
  go_loopw [5] (fun iv wr => ∃ i : Nat, i ≤ m ∧ iv = .int .i64 (i : Int) ∧ Hid (Mod [] w wr) ∧ Hid (Blk wr w.heap.size 25 #[.int .i64 xk, .int .i64 xi, .string xt, .slice xA n xc, .slice xB m xd]) ∧ Hid (Blk wr (w.heap.size + 1) 25 #[.int .i64 xk, .int .i64 xi, .string xt, .slice yA n yc, .slice yB m yd])) (fun iv _ => m - (intOf iv).toNat)
  case atStart => exact ⟨0, by omega, rfl, HM0, HX0, HY0⟩
  case round =>
    obtain ⟨i, hi, rfl, hmi, hbx, hby⟩ := hrel
    have x4 : wr.cell? ⟨w.heap.size, 4, none⟩ = some (.slice xB m xd) := hbx.out.cell 4
    by_cases h2 : i < m
    · obtain ⟨u, hu⟩ : ∃ u, xs[i]? = some u := ⟨_, List.getElem?_eq_getElem (by have := HMm.out; omega)⟩
      obtain ⟨g, o, rfl, hg, hc⟩ := (HKx.out.new hmi.out).at_ hu
      obtain ⟨g', o', rfl, hg', hc'⟩ := (HKy.out.new hmi.out).at_ hu
      have y4 : wr.cell? ⟨w.heap.size + 1, 4, none⟩ = some (.slice (some ⟨g', o', none⟩) m yd) := hby.out.cell 4
      have hii : (i : Int) < (m : Int) := by omega
      have a1 : IntKind.i64.wrap ((i : Int) + 1) = (i : Int) + 1 := IntWalk.i64_in _ (by omega)
      have g3 := toList_same u
      clear hu h2
      go_wp2_with fail
      go_quiet (fail)
      go_wp2_with fail
      refine ⟨?rel, ?measure⟩
      case rel => exact ⟨i + 1, by omega, by go_num, hide (hmi.out.drewN nq), hide (by exact hbx.out), hide (by exact hby.out)⟩
      case measure => simp [intOf]; omega
    · have hii : decide ((i : Int) < (m : Int)) = false := decide_eq_false (by omega)
      have hiin : decide (i < m) = false := decide_eq_false (by omega)
      clear h2
      go_wp2_with fail
      obtain ⟨wb, HWB⟩ : ∃ wb : World, wb = wr := ⟨_, rfl⟩
      subst HWB
      go_loopw [6] (fun iv wr => ∃ j : Nat, j ≤ n ∧ iv = .int .i64 (j : Int) ∧ Hid (Mod [] w wr) ∧ Hid (Blk wr w.heap.size 25 #[.int .i64 xk, .int .i64 xi, .string xt, .slice xA n xc, .slice xB m xd]) ∧ Hid (Blk wr (w.heap.size + 1) 25 #[.int .i64 xk, .int .i64 xi, .string xt, .slice yA n yc, .slice yB m yd])) (fun iv _ => n - (intOf iv).toNat)
      case atStart => exact ⟨0, by omega, rfl, hmi, hbx, hby⟩
      case round =>
        obtain ⟨j, hj, rfl, hmj, hbx, hby⟩ := hrel
        have x3 : wr.cell? ⟨w.heap.size, 3, none⟩ = some (.slice xA n xc) := hbx.out.cell 3
        by_cases h2 : j < n
        · obtain ⟨u, hu⟩ : ∃ u, xl[j]? = some u := ⟨_, List.getElem?_eq_getElem (by have := HN.out; omega)⟩
          obtain ⟨v, hv⟩ : ∃ v, yl[j]? = some v := ⟨_, List.getElem?_eq_getElem (by have := HN2.out; omega)⟩
          have huv : u.v = v.v := by
            have h1 := JN.vs_at xl j
            rw [HVs.out, JN.vs_at, hu, hv] at h1
            exact (Option.some.inj h1).symm
          obtain ⟨g, o, rfl, hg, hc⟩ := (HRx.out.new hmj.out).at_ hu
          obtain ⟨g', o', rfl, hg', hc'⟩ := (HRy.out.new hmj.out).at_ hv
          have hui := (HIx.out.at_ hu).new hmj.out
          have hvi := (HIy.out.at_ hv).new hmj.out
          have husz : u.sz ≤ N := by
            have := JN.szs_mem (List.mem_of_getElem? hu)
            have := HSz.out
            omega
          have cS : ∀ d os, Calls Tryd.prog 17 #[.agg u.cells, .agg v.cells] (grow (redrawn wr d) os) fun e w'' => e = .returned (.bool true) ∧ ∃ p : Regrown, w'' = grow (redrawn wr p.d) p.os := fun d os => by
            have mg : Mod [] wr (grow (redrawn wr d) os) := Mod.of_below (below_regrown wr d os)
            exact Calls.regrown_of ((HS.out _ u v husz huv (hui.new mg) (hvi.new mg)).mono fun _ _ h => ⟨h.1, h.2.below (Nat.le_refl _) (by simp)⟩)
          have CS := hide cS
          obtain ⟨uA, uc, un, uB, ud, um, hcu, -, -⟩ := u.open5
          generalize u.v.k = uk at hcu
          generalize u.v.i = ui at hcu
          generalize u.v.t = ut at hcu
          obtain ⟨zA, zc, zn, zB, zd, zm, hcz, -, -⟩ := v.open5
          generalize v.v.k = zk at hcz
          generalize v.v.i = zi at hcz
          generalize v.v.t = zt at hcz
          rw [hcu, hcz] at CS
          rw [hcu] at hc
          rw [hcz] at hc'
          have u0 : ∀ d os, (grow (redrawn wr d) os).cell? ⟨g, o + j * 5, none⟩ = some (.int .i64 uk) := cell_regrown (hc 0 _ rfl)
          have u1 : ∀ d os, (grow (redrawn wr d) os).cell? ⟨g, o + j * 5 + 1, none⟩ = some (.int .i64 ui) := cell_regrown (hc 1 _ rfl)
          have u2 : ∀ d os, (grow (redrawn wr d) os).cell? ⟨g, o + j * 5 + 2, none⟩ = some (.string ut) := cell_regrown (hc 2 _ rfl)
          have u3 : ∀ d os, (grow (redrawn wr d) os).cell? ⟨g, o + j * 5 + 3, none⟩ = some (.slice uA un uc) := cell_regrown (hc 3 _ rfl)
          have u4 : ∀ d os, (grow (redrawn wr d) os).cell? ⟨g, o + j * 5 + 4, none⟩ = some (.slice uB um ud) := cell_regrown (hc 4 _ rfl)
          have z0 : ∀ d os, (grow (redrawn wr d) os).cell? ⟨g', o' + j * 5, none⟩ = some (.int .i64 zk) := cell_regrown (hc' 0 _ rfl)
          have z1 : ∀ d os, (grow (redrawn wr d) os).cell? ⟨g', o' + j * 5 + 1, none⟩ = some (.int .i64 zi) := cell_regrown (hc' 1 _ rfl)
          have z2 : ∀ d os, (grow (redrawn wr d) os).cell? ⟨g', o' + j * 5 + 2, none⟩ = some (.string zt) := cell_regrown (hc' 2 _ rfl)
          have z3 : ∀ d os, (grow (redrawn wr d) os).cell? ⟨g', o' + j * 5 + 3, none⟩ = some (.slice zA zn zc) := cell_regrown (hc' 3 _ rfl)
          have z4 : ∀ d os, (grow (redrawn wr d) os).cell? ⟨g', o' + j * 5 + 4, none⟩ = some (.slice zB zm zd) := cell_regrown (hc' 4 _ rfl)
          have x3r := cell_regrown x3
          have y3 := cell_regrown (show wr.cell? ⟨w.heap.size + 1, 3, none⟩ = some (.slice (some ⟨g', o', none⟩) n yc) from hby.out.cell 3)
          have hii : (j : Int) < (n : Int) := by omega
          have a1 : IntKind.i64.wrap ((j : Int) + 1) = (j : Int) + 1 := IntWalk.i64_in _ (by omega)
          clear hu hv huv hui hvi husz cS hc hc' hcu hcz h2
          go_wp2_with fail
          refine wp_region_below (by kernel_rfl) (by kernel_rfl) (by kernel_rfl) ?_
          repeat (go_big_quiet_step (with_reducible exact CS.out _ _))
          refine wpQuiet_nil ?_
          intro _ hw'
          obtain ⟨⟨dq, osq⟩, hw''⟩ := hw'
          subst hw''
          have mg : Mod [] wr (grow (redrawn wr dq) osq) := Mod.of_below (below_regrown wr dq osq)
          have HMi := hide (hmj.out.trans mg (by simp))
          have HBx := hide (mg.blk hbx.out (by simp))
          have HBy := hide (mg.blk hby.out (by simp))
          clear mg
          go_wp2_with fail
          refine ⟨?rel, ?measure⟩
          case rel => exact ⟨j + 1, by omega, by go_num, HMi, HBx, HBy⟩
          case measure => simp [intOf]; omega
        · have hii : decide ((j : Int) < (n : Int)) = false := decide_eq_false (by omega)
          have hiin : decide (j < n) = false := decide_eq_false (by omega)
          clear h2
          go_wp2_with fail
          go_ret
          exact ⟨rfl, hmj.out⟩
theorem rsame_all : ∀ n, RSameOk n
  | 0 => fun w x y h => by cases x; rw [JN.sz] at h; omega
  | n + 1 => rsame_step n (rsame_all n)
theorem rsame_any (w : World) (x y : JN) (h : x.v = y.v) (hx : JIn w x) (hy : JIn w y) : Calls Tryd.prog 17 #[.agg x.cells, .agg y.cells] w fun e w' => e = .returned (.bool true) ∧ Mod [] w w' :=
  rsame_all x.sz w x y (Nat.le_refl _) h hx hy
end Go.Proofs.YtkbpndohpkcikaaDoor
