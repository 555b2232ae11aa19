/-
  JsonDeep: the walk.
-/
import Derived.Test.YtkbpndohpkcikabDoorJsLs
namespace Go.Proofs.YtkbpndohpkcikabDoor
open Go.RowKit Js Go.Sort
set_option linter.unusedVariables false
set_option linter.unusedSimpArgs false
/-- j lists around x, the value in each of them in a block of its own -/
def Wrapd (w : World) (vb : Nat) (x : JN) : Nat → JN → Prop
  | 0, y => y = x
  | j + 1, y => ∃ (nb : Nat) (z : JN), y = .mk 5 0 ⟨#[]⟩ (some ⟨nb, 0, none⟩) 1 [z] none 0 [] ∧ nb ≠ vb ∧ Blk w nb 25 z.cells ∧ Wrapd w vb x j z
theorem Wrapd.mod {w w' : World} {vb : Nat} {x : JN} {F : List Nat} (m : Mod F w w') (hF : ∀ g ∈ F, g = vb) : ∀ {j : Nat} {y : JN}, Wrapd w vb x j y → Wrapd w' vb x j y
  | 0, y, h => h
  | j + 1, y, ⟨nb, z, h1, h2, h3, h4⟩ => ⟨nb, z, h1, h2, m.blk h3 (fun hm => h2 (hF nb hm)), Wrapd.mod m hF h4⟩
theorem Wrapd.jin {w : World} {vb : Nat} {x : JN} (hx : JIn w x) : ∀ {j : Nat} {y : JN}, Wrapd w vb x j y → JIn w y
  | 0, y, h => by cases h; exact hx
  | j + 1, y, ⟨nb, z, h1, h2, h3, h4⟩ => by
    subst h1
    rw [JIn]
    refine ⟨⟨by unfold jmax; simp, Nat.zero_le _⟩, .inl rfl, .inr ⟨nb, 0, rfl, h3.lt, fun k u hu i v hv => ?_⟩, ?_⟩
    · cases k with
      | zero =>
        cases hu
        have := h3.cell (0 + 0 * 5 + i)
        rw [this]
        simpa using hv
      | succ k => simp at hu
    · exact JIns.of (fun q hq => by simp at hq; subst hq; exact Wrapd.jin hx h4)
def jwrap : Nat → JV → JV
  | 0, v => v
  | j + 1, v => .mk 5 0 ⟨#[]⟩ [jwrap j v] []
theorem Wrapd.v {w : World} {vb : Nat} {x : JN} : ∀ {j : Nat} {y : JN}, Wrapd w vb x j y → y.v = jwrap j x.v
  | 0, y, h => by cases h; rfl
  | j + 1, y, ⟨nb, z, h1, h2, h3, h4⟩ => by
    subst h1
    rw [JN.v, JN.vs, JN.vs, jwrap, Wrapd.v h4]
theorem jwrap_may : ∀ (j d : Nat) (v : JV), jmay (d + j) (jwrap j v) = jmay d v
  | 0, d, v => rfl
  | j + 1, d, v => by
    rw [jwrap, show d + (j + 1) = (d + j) + 1 from rfl, jmay_list, jmays, jmays, Bool.and_true, jwrap_may j d v]
theorem jwrap_lt {j : Nat} {v : JV} (h : jmay 8 (jwrap j v) = true) (hj : j ≤ 8) : j < 8 := by
  rcases Nat.lt_or_ge j 8 with h8 | h8
  · exact h8
  · have : j = 8 := by omega
    subst this
    have := jwrap_may 8 0 v
    rw [Nat.zero_add, h] at this
    cases v with
    | mk k i t l ks => rw [jmay] at this; simp at this
theorem jwrap_rng : ∀ (j : Nat) (v : JV), jrng v = true → jrng (jwrap j v) = true
  | 0, v, h => h
  | j + 1, v, h => by rw [jwrap, jrng, jrngs, jrngs, jwrap_rng j v h]; rfl
theorem jwrap_len : ∀ (j : Nat) (v : JV), (jwr (jwrap j v)).length = (jwr v).length + 2 * j
  | 0, v => rfl
  | j + 1, v => by
    rw [jwrap, jwr, if_neg (by decide), if_neg (by decide), if_neg (by decide), if_neg (by decide), if_neg (by decide), if_neg (by decide), jwrs, jwrsR]
    simp [jkeyed, jwrap_len j v]
    omega
theorem jsets_size (X : World) (b : Nat) (V : Array Value) : (jsets X b V).heap.size = X.heap.size := by
  unfold jsets
  simp [List.range, List.range.loop, World.setCell]
set_option maxRecDepth 100000 in
set_option maxHeartbeats 8000000 in
theorem walkJsonDeep (x : JN) {W : World} (hx : JIn W x) (hr : jrng x.v = true) (hj : JVars W.heap.size W) :
    Calls Tryd.prog 3 #[.agg x.cells] W fun e w' => e = .returned (.bool true) ∧ Below W.heap.size W w' := by
  have HAw := hide (fun (w' : World) (m : Mod [] W w') => awake_any w' W.heap.size m.size (hj.mod m (Nat.le_refl _) (by simp)))
  have HRd := hide (fun (w' : World) (m : Mod [] W w') (s : ByteArray) (hs : s.size ≤ 1000000) (v : JV) (a e : Int) (hr : jread s.data.toList = (v, a, e)) => readL w' s hs W.heap.size m.size (hj.mod m (Nat.le_refl _) (by simp)) hr)
  have HWr := hide (fun (w' : World) (m : Mod [] W w') (u : JN) (hu : JIn w' u) (hr : jrng u.v = true) (hl : (jwr u.v).length ≤ 1099511627776) (hb : jmay 8 u.v = true) => writeL w' u hu hr hl W.heap.size m.size (hj.mod m (Nat.le_refl _) (by simp)) hb)
  have HLg := hide (fun (w' : World) (m : Mod [] W w') (b : Bool) (hb : decide (2048 ≤ jwt 21 x.v) = b) => large_any w' x (hx.new m) b hb)
  have HX := hide hx
  have HR := hide hr
  obtain ⟨vA, vc, vn, vB, vd, vm, hcv, -, -⟩ := x.open5
  generalize x.v.k = vk at hcv
  generalize x.v.i = vi at hcv
  generalize x.v.t = vt at hcv
  have HCv := hide hcv
  rw [hcv] at HLg ⊢
  have HM0 := hide ((Mod.refl [] W).alloc (.cells #[.int .i64 vk, .int .i64 vi, .string vt, .slice vA vn vc, .slice vB vm vd] 25))
  have HB0 := hide (Blk.new W 25 #[.int .i64 vk, .int .i64 vi, .string vt, .slice vA vn vc, .slice vB vm vd])
  clear hx hr hj hcv
  go_enter Tryd.func3, Tryd.ntmps3
  go_wp2_with fail
  refine (HAw.out _ HM0.out).mono ?_
  rintro en w1 ⟨rfl, m1⟩
  have HM1 := hide (HM0.out.trans m1 (by simp))
  have HB1 := hide (m1.blk HB0.out (by simp))
  have q0 : w1.cell? ⟨W.heap.size, 0, none⟩ = some (.int .i64 vk) := HB1.out.cell 0
  have q1 : w1.cell? ⟨W.heap.size, 1, none⟩ = some (.int .i64 vi) := HB1.out.cell 1
  have q2 : w1.cell? ⟨W.heap.size, 2, none⟩ = some (.string vt) := HB1.out.cell 2
  have q3 : w1.cell? ⟨W.heap.size, 3, none⟩ = some (.slice vA vn vc) := HB1.out.cell 3
  have q4 : w1.cell? ⟨W.heap.size, 4, none⟩ = some (.slice vB vm vd) := HB1.out.cell 4
  obtain ⟨b, hb⟩ : ∃ b, decide (2048 ≤ jwt 21 x.v) = b := ⟨_, rfl⟩
  have HL1 := hide (HLg.out w1 HM1.out b hb)
  have HWt := hide hb
  clear hb HLg m1
  go_wp2_with fail
  refine HL1.out.mono ?_
  rintro en w2 ⟨rfl, m2⟩
  have HM2 := hide (HM1.out.trans m2 (by simp))
  have HB2 := hide (m2.blk HB1.out (by simp))
  clear m2 HL1 q0 q1 q2 q3 q4
  cases b with
  | true =>
    go_wp2_with fail
    go_ret
    exact ⟨rfl, HM2.out.below (Nat.le_refl _) (by simp)⟩
  | false =>
    have hwt : jwt 21 x.v < 2048 := by have := of_decide_eq_false HWt.out; omega
    have HSh := hide (jwr_short hwt HR.out)
    clear hwt
    have q0 : w2.cell? ⟨W.heap.size, 0, none⟩ = some (.int .i64 vk) := HB2.out.cell 0
    have q1 : w2.cell? ⟨W.heap.size, 1, none⟩ = some (.int .i64 vi) := HB2.out.cell 1
    have q2 : w2.cell? ⟨W.heap.size, 2, none⟩ = some (.string vt) := HB2.out.cell 2
    have q3 : w2.cell? ⟨W.heap.size, 3, none⟩ = some (.slice vA vn vc) := HB2.out.cell 3
    have q4 : w2.cell? ⟨W.heap.size, 4, none⟩ = some (.slice vB vm vd) := HB2.out.cell 4
    obtain ⟨bm, hbm⟩ : ∃ bm, jmay 8 x.v = bm := ⟨_, rfl⟩
    have HMa := hide (may_any w2 x (HX.out.new HM2.out) bm hbm)
    rw [HCv.out] at HMa
    have HBm := hide hbm
    clear hbm
    go_wp2_with fail
    refine HMa.out.mono ?_
    rintro en w3 ⟨rfl, m3⟩
    have HM3 := hide (HM2.out.trans m3 (by simp))
    have HB3 := hide (m3.blk HB2.out (by simp))
    clear m3 HMa q0 q1 q2 q3 q4
    cases bm with
    | false =>
      go_wp2_with fail
      go_ret
      exact ⟨rfl, HM3.out.below (Nat.le_refl _) (by simp)⟩
    | true =>
      go_wp2_with fail
      go_loopw [3] (fun nv wr => ∃ (j : Nat) (y : JN), j ≤ 8 ∧ nv = .int .i64 (j : Int) ∧ Hid (Wrapd wr W.heap.size x j y) ∧ Hid (Mod [] W wr) ∧ Hid (Blk wr W.heap.size 25 y.cells)) (fun nv _ => 9 - (intOf nv).toNat)
      case atStart => exact ⟨0, x, by omega, rfl, hide rfl, HM3, hide (by rw [HCv.out]; exact HB3.out)⟩
      case round =>
        obtain ⟨j, y, hj8, rfl, hwr, hm, hbk⟩ := hrel
        obtain ⟨yA, yc, yn, yB, yd, ym, hcy, -, -⟩ := y.open5
        generalize y.v.k = yk at hcy
        generalize y.v.i = yi at hcy
        generalize y.v.t = yt at hcy
        have HCy := hide hcy
        have HYi := hide (hwr.out.jin (HX.out.new hm.out))
        have HYv := hide hwr.out.v
        have HBk : Hid (Blk wr W.heap.size 25 #[.int .i64 yk, .int .i64 yi, .string yt, .slice yA yn yc, .slice yB ym yd]) := hide (by rw [← hcy]; exact hbk.out)
        have q0 : wr.cell? ⟨W.heap.size, 0, none⟩ = some (.int .i64 yk) := HBk.out.cell 0
        have q1 : wr.cell? ⟨W.heap.size, 1, none⟩ = some (.int .i64 yi) := HBk.out.cell 1
        have q2 : wr.cell? ⟨W.heap.size, 2, none⟩ = some (.string yt) := HBk.out.cell 2
        have q3 : wr.cell? ⟨W.heap.size, 3, none⟩ = some (.slice yA yn yc) := HBk.out.cell 3
        have q4 : wr.cell? ⟨W.heap.size, 4, none⟩ = some (.slice yB ym yd) := HBk.out.cell 4
        obtain ⟨bm, hbm⟩ : ∃ bm, jmay 8 y.v = bm := ⟨_, rfl⟩
        have HMa := hide (may_any wr y HYi.out bm hbm)
        rw [hcy] at HMa
        have HBmy := hide hbm
        clear hcy hbk hbm
        go_wp2_with fail
        refine HMa.out.mono ?_
        rintro en2 w4 ⟨rfl, m4⟩
        have HM4 := hide (hm.out.trans m4 (by simp))
        have HB4 := hide (m4.blk HBk.out (by simp))
        have HW4 := hide (hwr.out.mod m4 (by simp))
        clear m4 HMa q0 q1 q2 q3 q4
        cases bm with
        | false =>
          have hj1 : (1 : Int) ≤ (j : Int) := by
            rcases Nat.eq_zero_or_pos j with h | h
            · subst h
              have h1 := HBmy.out
              rw [HYv.out] at h1
              have h2 := HBm.out
              rw [show jwrap 0 x.v = x.v from rfl, h2] at h1
              cases h1
            · omega
          go_wp2_with fail
          go_ret
          exact ⟨rfl, HM4.out.below (Nat.le_refl _) (by simp)⟩
        | true =>
          have hj7 : j < 8 := jwrap_lt (v := x.v) (by rw [← HYv.out]; exact HBmy.out) hj8
          have a1 : IntKind.i64.wrap ((j : Int) + 1) = (j : Int) + 1 := IntWalk.i64_in _ (by omega)
          have hrg : jrng y.v = true := by rw [HYv.out]; exact jwrap_rng _ _ HR.out
          have hln : (jwr y.v).length ≤ 61430 := by rw [HYv.out, jwrap_len]; have := HSh.out; omega
          have HW5 := hide (HWr.out w4 HM4.out y (HW4.out.jin (HX.out.new HM4.out)) hrg (by omega) HBmy.out)
          rw [HCy.out] at HW5
          have HRg := hide hrg
          have HLn := hide hln
          clear hrg hln
          have q0 : w4.cell? ⟨W.heap.size, 0, none⟩ = some (.int .i64 yk) := HB4.out.cell 0
          have q1 : w4.cell? ⟨W.heap.size, 1, none⟩ = some (.int .i64 yi) := HB4.out.cell 1
          have q2 : w4.cell? ⟨W.heap.size, 2, none⟩ = some (.string yt) := HB4.out.cell 2
          have q3 : w4.cell? ⟨W.heap.size, 3, none⟩ = some (.slice yA yn yc) := HB4.out.cell 3
          have q4 : w4.cell? ⟨W.heap.size, 4, none⟩ = some (.slice yB ym yd) := HB4.out.cell 4
          go_wp2_with fail
          refine HW5.out.mono ?_
          rintro en2 w5 ⟨P, rfl, hP, m5⟩
          have HM5 := hide (HM4.out.trans m5 (by simp))
          have HB5 := hide (m5.blk HB4.out (by simp))
          have HW5' := hide (HW4.out.mod m5 (by simp))
          have HR5 := hide (HRd.out _ HM5.out P (by rw [← bytes_len, hP]; have := HLn.out; omega) y.v 0 0 (by rw [hP]; exact jread_wr HBmy.out HRg.out))
          clear hP m5 HW5 q0 q1 q2 q3 q4
          go_wp2_with fail
          refine HR5.out.mono ?_
          rintro en2 w6 ⟨u, uk, ui, ut, uA, un, uc, uB, um, ud, huc, rfl, huv, hui, m6⟩
          have HM6 := hide ((HM5.out.trans m6 (by simp)).alloc (.cells #[.int .i64 uk, .int .i64 ui, .string ut, .slice uA un uc, .slice uB um ud] 25))
          have HB6 := hide ((m6.blk HB5.out (by simp)).alloc (.cells #[.int .i64 uk, .int .i64 ui, .string ut, .slice uA un uc, .slice uB um ud] 25))
          have HW6 := hide ((HW5'.out.mod m6 (by simp)).mod ((Mod.refl [] w6).alloc (.cells #[.int .i64 uk, .int .i64 ui, .string ut, .slice uA un uc, .slice uB um ud] 25)) (by simp))
          have HSm := hide (same_any (w6.alloc (.cells #[.int .i64 uk, .int .i64 ui, .string ut, .slice uA un uc, .slice uB um ud] 25)) u y (hui.new ((Mod.refl [] w6).alloc (.cells #[.int .i64 uk, .int .i64 ui, .string ut, .slice uA un uc, .slice uB um ud] 25))) (HW6.out.jin (HX.out.new HM6.out)) true (by rw [huv]; exact (jsame_iff _ _).2 rfl))
          rw [huc, HCy.out] at HSm
          have q0 : (w6.alloc (.cells #[.int .i64 uk, .int .i64 ui, .string ut, .slice uA un uc, .slice uB um ud] 25)).cell? ⟨W.heap.size, 0, none⟩ = some (.int .i64 yk) := HB6.out.cell 0
          have q1 : (w6.alloc (.cells #[.int .i64 uk, .int .i64 ui, .string ut, .slice uA un uc, .slice uB um ud] 25)).cell? ⟨W.heap.size, 1, none⟩ = some (.int .i64 yi) := HB6.out.cell 1
          have q2 : (w6.alloc (.cells #[.int .i64 uk, .int .i64 ui, .string ut, .slice uA un uc, .slice uB um ud] 25)).cell? ⟨W.heap.size, 2, none⟩ = some (.string yt) := HB6.out.cell 2
          have q3 : (w6.alloc (.cells #[.int .i64 uk, .int .i64 ui, .string ut, .slice uA un uc, .slice uB um ud] 25)).cell? ⟨W.heap.size, 3, none⟩ = some (.slice yA yn yc) := HB6.out.cell 3
          have q4 : (w6.alloc (.cells #[.int .i64 uk, .int .i64 ui, .string ut, .slice uA un uc, .slice uB um ud] 25)).cell? ⟨W.heap.size, 4, none⟩ = some (.slice yB ym yd) := HB6.out.cell 4
          clear huc huv hui m6 HR5
          have hj9 : decide ((8 : Int) < (j : Int) + 1) = false := decide_eq_false (by omega)
          go_wp2_with fail
          refine HSm.out.mono ?_
          rintro en2 w7 ⟨rfl, m7⟩
          have HM7 := hide (HM6.out.trans m7 (by simp))
          have HB7 := hide (m7.blk HB6.out (by simp))
          have HW7 := hide (HW6.out.mod m7 (by simp))
          have l7 := HB7.out.lt
          have l7n : ¬ w7.heap.size = W.heap.size := by omega
          have r0 : w7.cell? ⟨W.heap.size, 0, none⟩ = some (.int .i64 yk) := HB7.out.cell 0
          have f0 : w7.frozen? ⟨W.heap.size, 0, none⟩ = false := HB7.out.frozen 0
          have r1 : w7.cell? ⟨W.heap.size, 1, none⟩ = some (.int .i64 yi) := HB7.out.cell 1
          have f1 : w7.frozen? ⟨W.heap.size, 1, none⟩ = false := HB7.out.frozen 1
          have r2 : w7.cell? ⟨W.heap.size, 2, none⟩ = some (.string yt) := HB7.out.cell 2
          have f2 : w7.frozen? ⟨W.heap.size, 2, none⟩ = false := HB7.out.frozen 2
          have r3 : w7.cell? ⟨W.heap.size, 3, none⟩ = some (.slice yA yn yc) := HB7.out.cell 3
          have f3 : w7.frozen? ⟨W.heap.size, 3, none⟩ = false := HB7.out.frozen 3
          have r4 : w7.cell? ⟨W.heap.size, 4, none⟩ = some (.slice yB ym yd) := HB7.out.cell 4
          have f4 : w7.frozen? ⟨W.heap.size, 4, none⟩ = false := HB7.out.frozen 4
          have HV := hide (jsets_blk (JN.mk 5 0 ⟨#[]⟩ (some ⟨w7.heap.size, 0, none⟩) 1 [y] none 0 []).cells HB7.out rfl rfl)
          have HVm := hide (jsets_mod w7 W.heap.size (JN.mk 5 0 ⟨#[]⟩ (some ⟨w7.heap.size, 0, none⟩) 1 [y] none 0 []).cells)
          have HN8 : Hid (Blk ((jsets w7 W.heap.size (JN.mk 5 0 ⟨#[]⟩ (some ⟨w7.heap.size, 0, none⟩) 1 [y] none 0 []).cells).alloc (.cells #[.int .i64 yk, .int .i64 yi, .string yt, .slice yA yn yc, .slice yB ym yd] 25)) w7.heap.size 25 #[.int .i64 yk, .int .i64 yi, .string yt, .slice yA yn yc, .slice yB ym yd]) := hide (by
            have := Blk.new (jsets w7 W.heap.size (JN.mk 5 0 ⟨#[]⟩ (some ⟨w7.heap.size, 0, none⟩) 1 [y] none 0 []).cells) 25 #[.int .i64 yk, .int .i64 yi, .string yt, .slice yA yn yc, .slice yB ym yd]
            rwa [jsets_size] at this)
          have HW8 : Hid (Wrapd ((jsets w7 W.heap.size (JN.mk 5 0 ⟨#[]⟩ (some ⟨w7.heap.size, 0, none⟩) 1 [y] none 0 []).cells).alloc (.cells #[.int .i64 yk, .int .i64 yi, .string yt, .slice yA yn yc, .slice yB ym yd] 25)) W.heap.size x (j + 1) (.mk 5 0 ⟨#[]⟩ (some ⟨w7.heap.size, 0, none⟩) 1 [y] none 0 [])) := hide
            ⟨w7.heap.size, y, rfl, l7n, by rw [HCy.out]; exact HN8.out, (HW7.out.mod HVm.out (by simp)).mod ((Mod.refl [] _).alloc (.cells #[.int .i64 yk, .int .i64 yi, .string yt, .slice yA yn yc, .slice yB ym yd] 25)) (by simp)⟩
          have HM8 : Hid (Mod [] W ((jsets w7 W.heap.size (JN.mk 5 0 ⟨#[]⟩ (some ⟨w7.heap.size, 0, none⟩) 1 [y] none 0 []).cells).alloc (.cells #[.int .i64 yk, .int .i64 yi, .string yt, .slice yA yn yc, .slice yB ym yd] 25))) := hide ((HM7.out.trans HVm.out (by simp)).alloc (.cells #[.int .i64 yk, .int .i64 yi, .string yt, .slice yA yn yc, .slice yB ym yd] 25))
          have HV := hide (HV.out.alloc (.cells #[.int .i64 yk, .int .i64 yi, .string yt, .slice yA yn yc, .slice yB ym yd] 25))
          have hyc : (JN.mk 5 0 ⟨#[]⟩ (some ⟨w7.heap.size, 0, none⟩) 1 [y] none 0 []).cells = #[.int .i64 5, .int .i64 0, .string ⟨#[]⟩, .slice (some ⟨w7.heap.size, 0, none⟩) 1 1, .slice none 0 0] := rfl
          have HYc := hide hyc
          have HJ := hide (Nat.succ_le_of_lt hj7)
          rw [hyc] at HV HW8 HM8
          clear m7 HSm HVm HN8 hyc hj7
          go_wp2_with fail
          refine ⟨?rel, ?measure⟩
          case rel =>
            refine ⟨j + 1, .mk 5 0 ⟨#[]⟩ (some ⟨w7.heap.size, 0, none⟩) 1 [y] none 0 [], HJ.out, by go_num, ?_, ?_, ?_⟩
            · exact HW8
            · exact HM8
            · rw [HYc.out]; exact HV
          case measure => simp [intOf]; omega
end Go.Proofs.YtkbpndohpkcikabDoor
