/-
  json: weight, large.
-/
import Derived.Test.YtkbpndohpkcikabDoorJsMay
import Derived.Test.YtkbpndohpkcikabDoorJsWtP
namespace Go.Proofs.YtkbpndohpkcikabDoor
open Go.RowKit Js
set_option linter.unusedVariables false
set_option linter.unusedSimpArgs false
def WtOk (d : Nat) : Prop := ∀ (w : World) (x : JN), JIn w x →
  Calls Tryd.prog 11 #[.agg x.cells, .int .i64 (21 - (d : Int))] w fun e w' => ∃ r : Nat, e = .returned (.int .i64 (r : Int)) ∧ r = jwt d x.v ∧ r ≤ 140737488355328 + 4096 * (d + 1) ∧ Mod [] w w'
theorem weight_zero : WtOk 0 := by
  intro w x hx
  obtain ⟨xk, xi, xt, xA, xc, xl, xB, xd, xs⟩ := x
  have hr := hide (show jwt 0 (JN.mk xk xi xt xA xc xl xB xd xs).v = 2048 by rw [JN.v, jwt]; simp)
  rw [show (21 : Int) - ((0 : Nat) : Int) = 21 from rfl]
  simp only [JN.cells]
  clear hx
  go_enter Tryd.func11, Tryd.ntmps11
  go_wp2_with fail
  go_ret
  exact ⟨2048, rfl, hr.out.symm, by omega, (Mod.refl [] w).alloc _⟩
theorem jwk_stop : ∀ (ks : List ByteArray) (r : Nat), (ks = [] ∨ ¬ r < 2048) → jwk ks r = r
  | [], r, _ => by rw [jwk]
  | k :: ks, r, h => by rw [jwk, if_neg (by rcases h with h | h; cases h; exact h)]
theorem jwl_stop : ∀ (d : Nat) (l : List JV) (r : Nat), (l = [] ∨ ¬ r < 2048) → jwl d l r = r
  | d, [], r, _ => by rw [jwl]
  | d, k :: ks, r, h => by rw [jwl, if_neg (by rcases h with h | h; cases h; exact h)]
theorem jwk_go {ks : List ByteArray} {i r : Nat} {u : ByteArray} (h : ks[i]? = some u) (hr : r < 2048) : jwk (ks.drop i) r = jwk (ks.drop (i + 1)) (r + min u.size 2048) := by
  obtain ⟨hi, rfl⟩ := List.getElem?_eq_some_iff.1 h
  rw [List.drop_eq_getElem_cons hi, jwk, if_pos hr]
theorem jwl_go {d : Nat} {l : List JV} {i r : Nat} {u : JV} (h : l[i]? = some u) (hr : r < 2048) : jwl d (l.drop i) r = jwl d (l.drop (i + 1)) (r + jwt d u) := by
  obtain ⟨hi, rfl⟩ := List.getElem?_eq_some_iff.1 h
  rw [List.drop_eq_getElem_cons hi, jwl, if_pos hr]
set_option maxRecDepth 100000 in
set_option maxHeartbeats 8000000 in
theorem weight_step (d : Nat) (hd : d + 1 ≤ 21) (hW : WtOk d) : WtOk (d + 1) := by
  intro w x hx
  obtain ⟨xk, xi, xt, xA, xc, xl, xB, xd, xs⟩ := x
  rw [JIn] at hx
  obtain ⟨⟨hx1, hx2⟩, hx3, hx4, hx5⟩ := hx
  rw [show (21 : Int) - ((d + 1 : Nat) : Int) = 20 - d by omega]
  obtain ⟨n, hn⟩ : ∃ n, xl.length = n := ⟨_, rfl⟩
  obtain ⟨m, hm⟩ : ∃ m, xs.length = m := ⟨_, rfl⟩
  obtain ⟨q, hq⟩ : ∃ q : Int, q = 20 - (d : Int) := ⟨_, rfl⟩
  have q1 : ¬ 20 < q := by omega
  have q2 : 0 ≤ q := by omega
  have HQ : Hid (IntKind.i64.wrap (q + 1) = 21 - (d : Int)) := hide (by rw [IntWalk.i64_in _ (by omega)]; omega)
  rw [← hq]
  simp only [JN.cells]
  rw [hn, hm]
  unfold jmax at hx1 hx2
  have HN := hide hn
  have HMm := hide hm
  have HW := hide hW
  have HK := hide hx3
  have HR := hide hx4
  have HI := hide hx5
  rw [hn] at hx1
  rw [hm] at hx2
  obtain ⟨r0, hr0⟩ : ∃ r0, r0 = 1 + min xt.size 2048 + m := ⟨_, rfl⟩
  have HT : Hid (jwl d (JN.vs xl) (jwk xs r0) = jwt (d + 1) (JN.mk xk xi xt xA xc xl xB xd xs).v) := hide (by rw [JN.v, jwt, if_neg (by omega), hr0, ← hm]; rfl)
  have hr0b : r0 ≤ 140737488355328 + 2049 := by omega
  have HR0 := hide hr0
  have HM1 := hide ((Mod.refl [] w).alloc (.cells #[.int .i64 xk, .int .i64 xi, .string xt, .slice xA n xc, .slice xB m xd] 25))
  have HB1 := hide (Blk.new w 25 #[.int .i64 xk, .int .i64 xi, .string xt, .slice xA n xc, .slice xB m xd])
  have hsm : (min (xt.size : Int) 2048) = ((min xt.size 2048 : Nat) : Int) := by omega
  have hs0 : IntKind.i64.wrap (1 + ((min xt.size 2048 : Nat) : Int)) = 1 + ((min xt.size 2048 : Nat) : Int) := IntWalk.i64_in _ (by omega)
  have hs1 : IntKind.i64.wrap (1 + ((min xt.size 2048 : Nat) : Int) + (m : Int)) = (r0 : Int) := by rw [IntWalk.i64_in _ (by omega)]; omega
  clear hx3 hx4 hx5 hn hm hW hq hr0
  go_enter Tryd.func11, Tryd.ntmps11
  go_wp2_with fail
  clear hsm hs0 hs1
  go_loopw [5, 6] (fun rv iv wr => ∃ (i r : Nat), i ≤ m ∧ r ≤ 140737488355328 + 4096 ∧ rv = .int .i64 (r : Int) ∧ iv = .int .i64 (i : Int) ∧ Hid (jwk (xs.drop i) r = jwk xs r0) ∧ Hid (Mod [] w wr) ∧ Hid (Blk wr w.heap.size 25 #[.int .i64 xk, .int .i64 xi, .string xt, .slice xA n xc, .slice xB m xd])) (fun _ iv _ => m - (intOf iv).toNat)
  case atStart => exact ⟨0, r0, by omega, by omega, rfl, rfl, hide rfl, HM1, HB1⟩
  case round =>
    obtain ⟨i, r, hi, hr, rfl, rfl, hj, hmi, hbi⟩ := hrel
    have c4 : wr.cell? ⟨w.heap.size, 4, none⟩ = some (.slice xB m xd) := hbi.out.cell 4
    by_cases h2 : i < m
    · have hii : (i : Int) < (m : Int) := by omega
      by_cases h3 : r < 2048
      · have hri : (r : Int) < 2048 := by omega
        obtain ⟨u, hu⟩ : ∃ u, xs[i]? = some u := ⟨_, List.getElem?_eq_getElem (by have := HMm.out; omega)⟩
        obtain ⟨g, o, rfl, hg, hc⟩ := (HK.out.new hmi.out).at_ hu
        have hmn : (min (u.size : Int) 2048) = ((min u.size 2048 : Nat) : Int) := by omega
        obtain ⟨r', hr'⟩ : ∃ r', r' = r + min u.size 2048 := ⟨_, rfl⟩
        have a1 : IntKind.i64.wrap ((i : Int) + 1) = (i : Int) + 1 := IntWalk.i64_in _ (by omega)
        have a2 : IntKind.i64.wrap ((r : Int) + ((min u.size 2048 : Nat) : Int)) = (r' : Int) := by rw [IntWalk.i64_in _ (by omega)]; omega
        have HJ : Hid (jwk (xs.drop (i + 1)) r' = jwk xs r0) := hide (by rw [hr', ← jwk_go hu h3]; exact hj.out)
        have hrb : r' ≤ 140737488355328 + 4096 := by omega
        clear hj hu h3 h2 hr'
        go_wp2_with fail
        refine ⟨?rel, ?measure⟩
        case rel => exact ⟨i + 1, r', by omega, hrb, rfl, by go_num, HJ, hmi, hbi⟩
        case measure => simp [intOf]; omega
      · have hrd : decide ((r : Int) < 2048) = false := decide_eq_false (by omega)
        have HX : Hid (jwk (xs.drop i) r = r) := hide (jwk_stop _ _ (.inr h3))
        clear h3 h2
        go_wp2_with fail
        have HR1 : Hid (r = jwk xs r0) := hide (by rw [← hj.out, HX.out])
        clear hj hii HX c4
        obtain ⟨wb, HWB⟩ : ∃ wb : World, wb = wr := ⟨_, rfl⟩
        subst HWB
        have HT2 : Hid (jwl d (JN.vs xl) r = jwt (d + 1) (JN.mk xk xi xt xA xc xl xB xd xs).v) := hide (by rw [HR1.out]; exact HT.out)
        go_loopw [5, 7] (fun rv iv wr => ∃ (j z : Nat), j ≤ n ∧ Hid (z ≤ 140737488355328 + 4096 * (d + 2)) ∧ rv = .int .i64 (z : Int) ∧ iv = .int .i64 (j : Int) ∧ Hid (jwl d ((JN.vs xl).drop j) z = jwl d (JN.vs xl) r) ∧ Hid (Mod [] w wr) ∧ Hid (Blk wr w.heap.size 25 #[.int .i64 xk, .int .i64 xi, .string xt, .slice xA n xc, .slice xB m xd])) (fun _ iv _ => n - (intOf iv).toNat)
        case atStart => exact ⟨0, r, by omega, hide (by omega), rfl, rfl, hide rfl, hmi, hbi⟩
        case round =>
          obtain ⟨j, z, hjn, hz, rfl, rfl, hjz, hmj, hbj⟩ := hrel
          have c3 : wr.cell? ⟨w.heap.size, 3, none⟩ = some (.slice xA n xc) := hbj.out.cell 3
          by_cases h2 : j < n
          · have hii : (j : Int) < (n : Int) := by omega
            by_cases h3 : z < 2048
            · have hri : (z : Int) < 2048 := by omega
              obtain ⟨u, hu⟩ : ∃ u, xl[j]? = some u := ⟨_, List.getElem?_eq_getElem (by have := HN.out; omega)⟩
              obtain ⟨g, o, rfl, hg, hc⟩ := (HR.out.new hmj.out).at_ hu
              have HU := HI.out.new hmj.out
              have HWu := hide (HW.out wr u (HU.at_ hu))
              have HVu : Hid (jwl d ((JN.vs xl).drop j) z = jwl d ((JN.vs xl).drop (j + 1)) (z + jwt d u.v)) := hide (jwl_go (by rw [JN.vs_at, hu]; rfl) h3)
              obtain ⟨uk, ui, ut, uA, uc, ul, uB, ud, us⟩ := u
              have y0 : wr.cell? ⟨g, o + j * 5, none⟩ = some (.int .i64 uk) := hc 0 _ rfl
              have y1 : wr.cell? ⟨g, o + j * 5 + 1, none⟩ = some (.int .i64 ui) := hc 1 _ rfl
              have y2 : wr.cell? ⟨g, o + j * 5 + 2, none⟩ = some (.string ut) := hc 2 _ rfl
              have y3 : wr.cell? ⟨g, o + j * 5 + 3, none⟩ = some (.slice uA ul.length uc) := hc 3 _ rfl
              have y4 : wr.cell? ⟨g, o + j * 5 + 4, none⟩ = some (.slice uB us.length ud) := hc 4 _ rfl
              have a0 := HQ.out
              have a3 : IntKind.i64.wrap ((j : Int) + 1) = (j : Int) + 1 := IntWalk.i64_in _ (by omega)
              simp only [JN.cells] at HWu
              obtain ⟨un, hun⟩ : ∃ un, ul.length = un := ⟨_, rfl⟩
              obtain ⟨um, hum⟩ : ∃ um, us.length = um := ⟨_, rfl⟩
              rw [hun, hum] at HWu
              rw [hun] at y3
              rw [hum] at y4
              clear hc hu HU hun hum h2
              go_wp2_with fail
              refine HWu.out.mono ?_
              rintro e w3 ⟨k, rfl, hk, hkb, m3⟩
              have HMk := hide (hmj.out.trans m3 (by simp))
              have HBk := hide (m3.blk hbj.out (by simp))
              obtain ⟨z', hz'⟩ : ∃ z', z' = z + k := ⟨_, rfl⟩
              have a2 : IntKind.i64.wrap ((z : Int) + (k : Int)) = (z' : Int) := by rw [IntWalk.i64_in _ (by omega)]; omega
              have HJ : Hid (jwl d ((JN.vs xl).drop (j + 1)) z' = jwl d (JN.vs xl) r) := hide (by rw [hz', hk, ← HVu.out]; exact hjz.out)
              have HZ : Hid (z' ≤ 140737488355328 + 4096 * (d + 2)) := hide (by omega)
              clear hk hkb m3 hz' a0 h3 y0 y1 y2 y3 y4
              go_wp2_with fail
              refine ⟨?rel, ?measure⟩
              case rel => exact ⟨j + 1, z', by omega, HZ, rfl, by go_num, HJ, HMk, HBk⟩
              case measure => simp [intOf]; omega
            · have hrd : decide ((z : Int) < 2048) = false := decide_eq_false (by omega)
              have HE : Hid (z = jwt (d + 1) (JN.mk xk xi xt xA xc xl xB xd xs).v) := hide (by rw [← HT2.out, ← hjz.out, jwl_stop _ _ _ (.inr h3)])
              clear h3 h2 hjz
              go_wp2_with fail
              go_ret
              exact ⟨z, rfl, HE.out, hz.out, hmj.out⟩
          · have hii : decide ((j : Int) < (n : Int)) = false := decide_eq_false (by omega)
            have hiin : decide (j < n) = false := decide_eq_false (by omega)
            have HE : Hid (z = jwt (d + 1) (JN.mk xk xi xt xA xc xl xB xd xs).v) := hide (by rw [← HT2.out, ← hjz.out, jwl_stop _ _ _ (.inl (List.drop_eq_nil_iff.2 (by rw [JN.vs_len]; have := HN.out; omega)))])
            clear h2 hjz
            go_wp2_with fail
            go_ret
            exact ⟨z, rfl, HE.out, hz.out, hmj.out⟩
    · have hii : decide ((i : Int) < (m : Int)) = false := decide_eq_false (by omega)
      have HX : Hid (jwk (xs.drop i) r = r) := hide (jwk_stop _ _ (.inl (List.drop_eq_nil_iff.2 (by have := HMm.out; omega))))
      have hiin : decide (i < m) = false := decide_eq_false (by omega)
      clear h2
      go_wp2_with fail
      have HR1 : Hid (r = jwk xs r0) := hide (by rw [← hj.out, HX.out])
      clear hj hii HX c4
      obtain ⟨wb, HWB⟩ : ∃ wb : World, wb = wr := ⟨_, rfl⟩
      subst HWB
      have HT2 : Hid (jwl d (JN.vs xl) r = jwt (d + 1) (JN.mk xk xi xt xA xc xl xB xd xs).v) := hide (by rw [HR1.out]; exact HT.out)
      go_loopw [5, 7] (fun rv iv wr => ∃ (j z : Nat), j ≤ n ∧ Hid (z ≤ 140737488355328 + 4096 * (d + 2)) ∧ rv = .int .i64 (z : Int) ∧ iv = .int .i64 (j : Int) ∧ Hid (jwl d ((JN.vs xl).drop j) z = jwl d (JN.vs xl) r) ∧ Hid (Mod [] w wr) ∧ Hid (Blk wr w.heap.size 25 #[.int .i64 xk, .int .i64 xi, .string xt, .slice xA n xc, .slice xB m xd])) (fun _ iv _ => n - (intOf iv).toNat)
      case atStart => exact ⟨0, r, by omega, hide (by omega), rfl, rfl, hide rfl, hmi, hbi⟩
      case round =>
        obtain ⟨j, z, hjn, hz, rfl, rfl, hjz, hmj, hbj⟩ := hrel
        have c3 : wr.cell? ⟨w.heap.size, 3, none⟩ = some (.slice xA n xc) := hbj.out.cell 3
        by_cases h2 : j < n
        · have hii : (j : Int) < (n : Int) := by omega
          by_cases h3 : z < 2048
          · have hri : (z : Int) < 2048 := by omega
            obtain ⟨u, hu⟩ : ∃ u, xl[j]? = some u := ⟨_, List.getElem?_eq_getElem (by have := HN.out; omega)⟩
            obtain ⟨g, o, rfl, hg, hc⟩ := (HR.out.new hmj.out).at_ hu
            have HU := HI.out.new hmj.out
            have HWu := hide (HW.out wr u (HU.at_ hu))
            have HVu : Hid (jwl d ((JN.vs xl).drop j) z = jwl d ((JN.vs xl).drop (j + 1)) (z + jwt d u.v)) := hide (jwl_go (by rw [JN.vs_at, hu]; rfl) h3)
            obtain ⟨uk, ui, ut, uA, uc, ul, uB, ud, us⟩ := u
            have y0 : wr.cell? ⟨g, o + j * 5, none⟩ = some (.int .i64 uk) := hc 0 _ rfl
            have y1 : wr.cell? ⟨g, o + j * 5 + 1, none⟩ = some (.int .i64 ui) := hc 1 _ rfl
            have y2 : wr.cell? ⟨g, o + j * 5 + 2, none⟩ = some (.string ut) := hc 2 _ rfl
            have y3 : wr.cell? ⟨g, o + j * 5 + 3, none⟩ = some (.slice uA ul.length uc) := hc 3 _ rfl
            have y4 : wr.cell? ⟨g, o + j * 5 + 4, none⟩ = some (.slice uB us.length ud) := hc 4 _ rfl
            have a0 := HQ.out
            have a3 : IntKind.i64.wrap ((j : Int) + 1) = (j : Int) + 1 := IntWalk.i64_in _ (by omega)
            simp only [JN.cells] at HWu
            obtain ⟨un, hun⟩ : ∃ un, ul.length = un := ⟨_, rfl⟩
            obtain ⟨um, hum⟩ : ∃ um, us.length = um := ⟨_, rfl⟩
            rw [hun, hum] at HWu
            rw [hun] at y3
            rw [hum] at y4
            clear hc hu HU hun hum h2
            go_wp2_with fail
            refine HWu.out.mono ?_
            rintro e w3 ⟨k, rfl, hk, hkb, m3⟩
            have HMk := hide (hmj.out.trans m3 (by simp))
            have HBk := hide (m3.blk hbj.out (by simp))
            obtain ⟨z', hz'⟩ : ∃ z', z' = z + k := ⟨_, rfl⟩
            have a2 : IntKind.i64.wrap ((z : Int) + (k : Int)) = (z' : Int) := by rw [IntWalk.i64_in _ (by omega)]; omega
            have HJ : Hid (jwl d ((JN.vs xl).drop (j + 1)) z' = jwl d (JN.vs xl) r) := hide (by rw [hz', hk, ← HVu.out]; exact hjz.out)
            have HZ : Hid (z' ≤ 140737488355328 + 4096 * (d + 2)) := hide (by omega)
            clear hk hkb m3 hz' a0 h3 y0 y1 y2 y3 y4
            go_wp2_with fail
            refine ⟨?rel, ?measure⟩
            case rel => exact ⟨j + 1, z', by omega, HZ, rfl, by go_num, HJ, HMk, HBk⟩
            case measure => simp [intOf]; omega
          · have hrd : decide ((z : Int) < 2048) = false := decide_eq_false (by omega)
            have HE : Hid (z = jwt (d + 1) (JN.mk xk xi xt xA xc xl xB xd xs).v) := hide (by rw [← HT2.out, ← hjz.out, jwl_stop _ _ _ (.inr h3)])
            clear h3 h2 hjz
            go_wp2_with fail
            go_ret
            exact ⟨z, rfl, HE.out, hz.out, hmj.out⟩
        · have hii : decide ((j : Int) < (n : Int)) = false := decide_eq_false (by omega)
          have hiin : decide (j < n) = false := decide_eq_false (by omega)
          have HE : Hid (z = jwt (d + 1) (JN.mk xk xi xt xA xc xl xB xd xs).v) := hide (by rw [← HT2.out, ← hjz.out, jwl_stop _ _ _ (.inl (List.drop_eq_nil_iff.2 (by rw [JN.vs_len]; have := HN.out; omega)))])
          clear h2 hjz
          go_wp2_with fail
          go_ret
          exact ⟨z, rfl, HE.out, hz.out, hmj.out⟩
theorem weight_all : ∀ d, d ≤ 21 → WtOk d
  | 0, _ => weight_zero
  | d + 1, h => weight_step d h (weight_all d (by omega))
set_option maxHeartbeats 8000000 in
theorem large_any (w : World) (x : JN) (hx : JIn w x) (b : Bool) (hb : decide (2048 ≤ jwt 21 x.v) = b) :
    Calls Tryd.prog 5 #[.agg x.cells] w fun e w' => e = .returned (.bool b) ∧ Mod [] w w' := by
  have H := hide (fun w' (m : Mod [] w w') => weight_all 21 (Nat.le_refl _) w' x (hx.new m))
  obtain ⟨xk, xi, xt, xA, xc, xl, xB, xd, xs⟩ := x
  have HM := hide ((Mod.refl [] w).alloc (.cells #[.int .i64 xk, .int .i64 xi, .string xt, .slice xA xl.length xc, .slice xB xs.length xd] 25))
  unfold JN.cells at H ⊢
  have HB := hide hb
  clear hx hb
  go_enter Tryd.func5, Tryd.ntmps5
  go_wp2_with fail
  refine (H.out _ HM.out).mono ?_
  rintro e w3 ⟨r, rfl, hr, _, m3⟩
  have HM3 := hide (HM.out.trans m3 (by simp))
  have hd : decide ((2048 : Int) ≤ (r : Int)) = b := by
    rw [← HB.out, ← hr, decide_eq_decide]
    omega
  clear m3 hr
  cases b with
  | true =>
    have hd2 : (2048 : Int) ≤ (r : Int) := by simpa using hd
    clear hd
    go_wp2_with fail
    go_ret
    exact ⟨rfl, HM3.out⟩
  | false =>
    go_wp2_with fail
    go_ret
    exact ⟨rfl, HM3.out⟩
end Go.Proofs.YtkbpndohpkcikabDoor
