/-
  json: may, May.
-/
import Derived.Test.YtkbpndohpkcikabDoorJsSame
import Derived.Deep.DeepCutAuto
import Derived.Deep.CutBlock
namespace Go.Proofs.YtkbpndohpkcikabDoor
open Go.RowKit Js Go.Sort
set_option linter.unusedVariables false
set_option linter.unusedSimpArgs false

/-- may tells what it shall, with so many depths left -/
def MayOk (d : Nat) : Prop := ∀ (w : World) (x : JN), JIn w x →
  Calls Tryd.prog 12 #[.agg x.cells, .int .i64 (9 - (d : Int))] w fun e w' => e = .returned (.bool (jmay d x.v)) ∧ Mod [] w w'
theorem jmays_iff : ∀ (d : Nat) (l : List JV), jmays d l = true ↔ ∀ x ∈ l, jmay d x = true
  | d, [] => by simp [jmays]
  | d, x :: l => by rw [jmays, Bool.and_eq_true, jmays_iff d l]; simp
theorem jmays_bad {d : Nat} {l : List JN} {j : Nat} {x : JN} (h : l[j]? = some x) (hb : jmay d x.v = false) : jmays d (JN.vs l) = false := by
  cases hm : jmays d (JN.vs l) with
  | false => rfl
  | true =>
    have := (jmays_iff d _).1 hm x.v (List.mem_of_getElem? (i := j) (by rw [JN.vs_at, h]; rfl))
    rw [hb] at this; cases this
theorem jmays_all {d : Nat} {l : List JN} (h : ∀ (j : Nat) (x : JN), l[j]? = some x → jmay d x.v = true) : jmays d (JN.vs l) = true := by
  rw [jmays_iff]
  intro v hv
  obtain ⟨j, hj⟩ := List.mem_iff_getElem?.1 hv
  rw [JN.vs_at] at hj
  cases hx : l[j]? with
  | none => rw [hx] at hj; cases hj
  | some x =>
    rw [hx] at hj
    cases hj
    exact h j x hx
theorem may_zero : MayOk 0 := by
  intro w x hx
  obtain ⟨xk, xi, xt, xA, xc, xl, xB, xd, xs⟩ := x
  have hr : jmay 0 (JN.mk xk xi xt xA xc xl xB xd xs).v = false := by rw [JN.v, jmay]; simp
  rw [hr, show (9 : Int) - ((0 : Nat) : Int) = 9 from rfl]
  unfold JN.cells
  clear hx hr
  go_enter Tryd.func12, Tryd.ntmps12
  go_wp2_with fail
  go_ret
  exact ⟨rfl, ((Mod.refl [] w).alloc _).alloc _⟩
set_option maxRecDepth 100000 in
set_option maxHeartbeats 8000000 in
theorem mayc_any (d : Nat) (hd : d ≤ 8) (hM : MayOk d) (w : World) (x : JN) (hx : JIn w x) (p : Nat) (hp : p < w.heap.size) (hc : w.cell? ⟨p, 0, none⟩ = some (.int .i64 (8 - (d : Int)))) (b : Bool) (hb : jmay d x.v = b) :
    Calls Tryd.prog 22 #[.agg x.cells, .pointer (some ⟨p, 0, none⟩)] w fun e w' => e = .returned (.bool (!b)) ∧ Mod [] w w' := by
  obtain ⟨xk, xi, xt, xA, xc, xl, xB, xd, xs⟩ := x
  have HS := hide (fun w' (m : Mod [] w w') => hM w' (JN.mk xk xi xt xA xc xl xB xd xs) (hx.new m))
  rw [hb] at HS
  unfold JN.cells at HS ⊢
  have a1 : IntKind.i64.wrap ((8 - (d : Int)) + 1) = 9 - (d : Int) := by rw [IntWalk.i64_in _ (by omega)]; omega
  have HM := hide ((Mod.refl [] w).alloc (.cells #[.int .i64 xk, .int .i64 xi, .string xt, .slice xA xl.length xc, .slice xB xs.length xd] 25))
  have lp : p ≠ w.heap.size := by omega
  have hc2 : (w.alloc (.cells #[.int .i64 xk, .int .i64 xi, .string xt, .slice xA xl.length xc, .slice xB xs.length xd] 25)).cell? ⟨p, 0, none⟩ = some (.int .i64 (8 - (d : Int))) := (((Mod.refl [] w).alloc _).cell (p := ⟨p, 0, none⟩) hp (by simp)).trans hc
  have lp2 : p < (w.alloc (.cells #[.int .i64 xk, .int .i64 xi, .string xt, .slice xA xl.length xc, .slice xB xs.length xd] 25)).heap.size := by rw [World.size_alloc]; omega
  clear hb hx hM
  go_enter Tryd.func22, Tryd.ntmps22
  go_wp2_with fail
  refine (HS.out _ HM.out).mono ?_
  rintro e w3 ⟨rfl, m3⟩
  have HM3 := hide (HM.out.trans m3 (by simp))
  clear m3
  go_wp2_with fail
  go_ret
  exact ⟨rfl, HM3.out⟩
set_option maxRecDepth 100000 in
set_option maxHeartbeats 8000000 in
theorem mayI_any (d : Nat) (hd : d ≤ 8) (hM : MayOk d) (w : World) (A : Option Addr) (c : Nat) (l : List JN) (hl : RowAt w A l) (hli : JIns w l) (hn : l.length ≤ jmax) (p : Nat) (hp : p < w.heap.size) (hc : w.cell? ⟨p, 0, none⟩ = some (.int .i64 (8 - (d : Int)))) :
    Calls Tryd.prog 33 #[.slice A l.length c, .func (Fn.func 22) #[] #[.pointer (some ⟨p, 0, none⟩)]] w fun e w' => ∃ i : Int, e = .returned (.int .i64 i) ∧ decide (i ≥ 0) = (!jmays d (JN.vs l)) ∧ Mod [] w w' := by
  unfold jmax at hn
  obtain ⟨q, hlq⟩ : ∃ q, l.length = q := ⟨_, rfl⟩
  have HLn := hide hlq
  have HL := hide hl
  have HLi := hide hli
  have HC := hide (fun w' (m : Mod [] w w') (x : JN) (hx : JIn w' x) (b : Bool) (hb : jmay d x.v = b) => mayc_any d hd hM w' x hx p (Nat.lt_of_lt_of_le hp m.size) ((m.cell (p := ⟨p, 0, none⟩) hp (by simp)).trans hc) b hb)
  rw [hlq]
  rw [hlq] at hn
  clear hlq hl hli hM hc
  go_enter Tryd.func33, Tryd.ntmps33
  go_wp2_with fail
  go_loopw [5, 8] (fun s5 iv wr => ∃ (i : Nat), i ≤ q ∧ iv = .int .i64 (i : Int) ∧ Hid (∀ (j : Nat) (x : JN), j < i → l[j]? = some x → jmay d x.v = true) ∧ Hid (Mod [] w wr)) (fun _ iv _ => q - (intOf iv).toNat)
  case atStart => exact ⟨0, by omega, rfl, hide (fun j x h => absurd h (Nat.not_lt_zero _)), hide (Mod.refl _ _)⟩
  case round =>
    obtain ⟨i, hi, rfl, htk, hmi⟩ := hrel
    by_cases h2 : i < q
    · obtain ⟨u, hu⟩ : ∃ u, l[i]? = some u := ⟨_, List.getElem?_eq_getElem (by have := HLn.out; omega)⟩
      obtain ⟨g, o, rfl, hg, hc⟩ := (HL.out.new hmi.out).at_ hu
      have hii : (i : Int) < q := by omega
      have a1 : IntKind.i64.wrap ((i : Int) + 1) = (i : Int) + 1 := IntWalk.i64_in _ (by omega)
      obtain ⟨b, hb⟩ : ∃ b, jmay d u.v = b := ⟨_, rfl⟩
      have HS1 := hide (HC.out _ hmi.out u ((HLi.out.at_ hu).new hmi.out) b hb)
      have HT : Hid (b = true → ∀ (j : Nat) (x : JN), j < i + 1 → l[j]? = some x → jmay d x.v = true) := hide (fun hbt j x hj hx => by
        by_cases e : j = i
        · subst e; rw [hu] at hx; cases hx; rw [hb, hbt]
        · exact htk.out j x (by omega) hx)
      have HE : Hid (b = false → jmays d (JN.vs l) = false) := hide (fun hbf => jmays_bad hu (by rw [hb, hbf]))
      obtain ⟨xk, xi, xt, xA, xc, xl, xB, xd, xs⟩ := u
      have y0 : wr.cell? ⟨g, o + i * 5, none⟩ = some (.int .i64 xk) := hc 0 _ rfl
      have y1 : wr.cell? ⟨g, o + i * 5 + 1, none⟩ = some (.int .i64 xi) := hc 1 _ rfl
      have y2 : wr.cell? ⟨g, o + i * 5 + 2, none⟩ = some (.string xt) := hc 2 _ rfl
      have y3 : wr.cell? ⟨g, o + i * 5 + 3, none⟩ = some (.slice xA xl.length xc) := hc 3 _ rfl
      have y4 : wr.cell? ⟨g, o + i * 5 + 4, none⟩ = some (.slice xB xs.length xd) := hc 4 _ rfl
      unfold JN.cells at HS1
      clear hu hc htk hb
      go_wp2_with fail
      refine HS1.out.mono ?_
      rintro e w2 ⟨rfl, m2⟩
      have HM2 := hide (hmi.out.trans m2 (by simp))
      clear m2
      cases b with
      | true =>
        have HT2 := hide (HT.out rfl)
        go_wp2_with fail
        refine ⟨?rel, ?measure⟩
        case rel => exact ⟨i + 1, by omega, by go_num, HT2, HM2⟩
        case measure => simp [intOf]; omega
      | false =>
        have HE2 := hide (HE.out rfl)
        go_wp2_with fail
        go_ret
        exact ⟨(i : Int), rfl, by rw [HE2.out]; simp, HM2.out⟩
    · have hin : i = q := by omega
      subst hin
      have HE : Hid (jmays d (JN.vs l) = true) := hide (jmays_all (fun j x hj => htk.out j x (by have := (List.getElem?_eq_some_iff.1 hj).1; have := HLn.out; omega) hj))
      clear htk
      go_wp2_with fail
      go_ret
      exact ⟨-1, rfl, by rw [HE.out]; rfl, hmi.out⟩
set_option maxHeartbeats 8000000 in
theorem mayF_any (d : Nat) (hd : d ≤ 8) (hM : MayOk d) (w : World) (A : Option Addr) (c : Nat) (l : List JN) (hl : RowAt w A l) (hli : JIns w l) (hn : l.length ≤ jmax) (p : Nat) (hp : p < w.heap.size) (hc : w.cell? ⟨p, 0, none⟩ = some (.int .i64 (8 - (d : Int)))) :
    Calls Tryd.prog 21 #[.slice A l.length c, .func (Fn.func 22) #[] #[.pointer (some ⟨p, 0, none⟩)]] w fun e w' => e = .returned (.bool (!jmays d (JN.vs l))) ∧ Mod [] w w' := by
  have H := hide (mayI_any d hd hM w A c l hl hli hn p hp hc)
  clear hM hl hli hn hc
  go_enter Tryd.func21, Tryd.ntmps21
  go_wp2_with fail
  refine H.out.mono ?_
  rintro e w2 ⟨i, rfl, hi, m2⟩
  have HI := hide hi
  have HM2 := hide m2
  clear hi m2
  go_wp2_with fail
  go_ret
  exact ⟨by rw [← HI.out]; rfl, HM2.out⟩
theorem isEmpty_dec {α : Type} [DecidableEq (List α)] (l : List α) : l.isEmpty = decide (l = []) := by cases l <;> simp
/-- the own copy's numbers tell whether a value may be -/
theorem jmay_own (d : Nat) (k i : Int) (t : ByteArray) (l : List JV) (ks : List ByteArray) (oi : Int) (ot : ByteArray) (n m : Nat)
    (h : ((k = 0 ∨ k = 1 ∨ k = 2) ∧ oi = 0 ∧ ot = ⟨#[]⟩ ∧ n = 0 ∧ m = 0) ∨ (k = 3 ∧ oi = i ∧ ot = ⟨#[]⟩ ∧ n = 0 ∧ m = 0) ∨ (k = 4 ∧ oi = 0 ∧ ot = t ∧ n = 0 ∧ m = 0) ∨ (k = 5 ∧ oi = 0 ∧ ot = ⟨#[]⟩ ∧ n = l.length ∧ m = 0) ∨ (k = 6 ∧ oi = 0 ∧ ot = ⟨#[]⟩ ∧ n = l.length ∧ m = ks.length)) :
    jmay (d + 1) (.mk k i t l ks) = (decide (i = oi) && decide (t = ot) && decide (l.length = n) && decide (ks.length = m) && (decide (m = 0) || decide (m = n)) && (decide (k ≠ 6) || decide (ks.length = l.length)) && jmays d l) := by
  have ht : (t = ⟨#[]⟩) ↔ t.size = 0 := by
    constructor
    · rintro rfl; rfl
    · intro h
      apply ByteArray.ext
      exact Array.eq_empty_of_size_eq_zero h
  rcases h with ⟨hk, rfl, rfl, rfl, rfl⟩ | ⟨rfl, rfl, rfl, rfl, rfl⟩ | ⟨rfl, rfl, rfl, rfl, rfl⟩ | ⟨rfl, rfl, rfl, rfl, rfl⟩ | ⟨rfl, rfl, rfl, rfl, rfl⟩
  · rcases hk with rfl | rfl | rfl <;> cases l <;> simp [jmay, ht, Bool.and_assoc, eq_comm, isEmpty_dec]
  · cases l <;> simp [jmay, ht, Bool.and_assoc, eq_comm, isEmpty_dec]
  · cases l <;> simp [jmay, ht, Bool.and_assoc, eq_comm, isEmpty_dec]
  · simp [jmay, ht, Bool.and_assoc, eq_comm, isEmpty_dec]
  · by_cases h : ks.length = l.length <;> simp [jmay, ht, Bool.and_assoc, eq_comm, isEmpty_dec, h]
set_option maxRecDepth 100000 in
set_option maxHeartbeats 8000000 in
theorem may_step (d : Nat) (hd : d + 1 ≤ 8) (hM : MayOk d) : MayOk (d + 1) := by
  intro w x hx
  obtain ⟨xk, xi, xt, xA, xc, xl, xB, xd, xs⟩ := x
  rw [JIn] at hx
  obtain ⟨⟨hx1, hx2⟩, hx3, hx4, hx5⟩ := hx
  rw [show (9 : Int) - ((d + 1 : Nat) : Int) = 8 - d by omega]
  obtain ⟨n, hn⟩ : ∃ n, xl.length = n := ⟨_, rfl⟩
  obtain ⟨m, hm⟩ : ∃ m, xs.length = m := ⟨_, rfl⟩
  have HF := hide (fun w' (mm : Mod [] w w') (p : Nat) (hp : p < w'.heap.size) (hc : w'.cell? ⟨p, 0, none⟩ = some (.int .i64 (8 - (d : Int)))) => mayF_any d (by omega) hM w' xA xc xl (hx4.new mm) (hx5.new mm) hx1 p hp hc)
  have HO := hide (jmay_own d xk xi xt (JN.vs xl) xs)
  rw [JN.vs_len, hn, hm] at HO
  rw [hn] at HF
  have hres : JN.v (JN.mk xk xi xt xA xc xl xB xd xs) = .mk xk xi xt (JN.vs xl) xs := by rw [JN.v]
  rw [hres]
  simp only [JN.cells]
  rw [hn, hm]
  unfold jmax at hx1 hx2
  rw [hn] at hx1
  rw [hm] at hx2
  obtain ⟨R, hR⟩ : ∃ R, jmay (d + 1) (.mk xk xi xt (JN.vs xl) xs) = R := ⟨_, rfl⟩
  rw [hR] at HO ⊢
  obtain ⟨bs, hbs⟩ : ∃ b, jmays d (JN.vs xl) = b := ⟨_, rfl⟩
  rw [hbs] at HO HF
  have HKx := hide hR
  clear hM hx3 hx4 hx5 hn hm hres hR hbs
  go_enter Tryd.func12, Tryd.ntmps12
  go_upto_block 0 with fail
  have hM0 := hide ((((Mod.refl [] w).alloc (.cells #[.int .i64 xk, .int .i64 xi, .string xt, .slice xA n xc, .slice xB m xd] 25)).alloc (.cells #[.int .i64 (8 - (d : Int))] 3)))
  have hB1 := hide ((Blk.new w 25 #[.int .i64 xk, .int .i64 xi, .string xt, .slice xA n xc, .slice xB m xd]).alloc (.cells #[.int .i64 (8 - (d : Int))] 3))
  have hB2 := Blk.new (w.alloc (.cells #[.int .i64 xk, .int .i64 xi, .string xt, .slice xA n xc, .slice xB m xd] 25)) 3 #[.int .i64 (8 - (d : Int))]
  rw [World.size_alloc] at hB2
  have hB2 := hide hB2
  have hB3 := hide (fun oc => by
    have h := Blk.new ((w.alloc (.cells #[.int .i64 xk, .int .i64 xi, .string xt, .slice xA n xc, .slice xB m xd] 25)).alloc (.cells #[.int .i64 (8 - (d : Int))] 3)) 25 oc
    rw [World.size_alloc, World.size_alloc] at h
    exact h)
  go_cut [] (fun wx => ∃ (oi : Int) (ot : ByteArray) (A' : Option Addr) (c' n' : Nat) (B' : Option Addr) (d' m' : Nat), Hid (Blk wx w.heap.size 25 #[.int .i64 xk, .int .i64 xi, .string xt, .slice xA n xc, .slice xB m xd]) ∧ Hid (Blk wx (w.heap.size + 1) 3 #[.int .i64 (8 - (d : Int))]) ∧ Hid (Blk wx (w.heap.size + 1 + 1) 25 #[.int .i64 xk, .int .i64 oi, .string ot, .slice A' n' c', .slice B' m' d']) ∧ Hid (Mod [] w wx) ∧ m' ≤ 140737488355328 ∧ n' ≤ 140737488355328 ∧ Hid (R = (decide (xi = oi) && decide (xt = ot) && decide (n = n') && decide (m = m') && (decide (m' = 0) || decide (m' = n')) && (decide (xk ≠ 6) || decide (m = n)) && bs)))
  case first =>
    by_cases hk0 : xk = 0
    · subst hk0
      have HR := hide (HO.out 0 ⟨#[]⟩ 0 0 (by simp))
      clear HO HF
      go_wp2_with fail
      go_meet
      case rel => exact ⟨0, ⟨#[]⟩, none, 0, 0, none, 0, 0, hide ((hB1.out.alloc _)), hide ((hB2.out.alloc _)), hide ((hB3.out _)), hide ((hM0.out.alloc _)), by omega, by omega, hide (by have h := HR.out; simp at h ⊢; exact h)⟩
    by_cases hk1 : xk = 1
    · subst hk1
      have HR := hide (HO.out 0 ⟨#[]⟩ 0 0 (by simp))
      clear HO HF
      go_wp2_with fail
      go_meet
      case rel => exact ⟨0, ⟨#[]⟩, none, 0, 0, none, 0, 0, hide ((hB1.out.alloc _)), hide ((hB2.out.alloc _)), hide ((hB3.out _)), hide ((hM0.out.alloc _)), by omega, by omega, hide (by have h := HR.out; simp at h ⊢; exact h)⟩
    by_cases hk2 : xk = 2
    · subst hk2
      have HR := hide (HO.out 0 ⟨#[]⟩ 0 0 (by simp))
      clear HO HF
      go_wp2_with fail
      go_meet
      case rel => exact ⟨0, ⟨#[]⟩, none, 0, 0, none, 0, 0, hide ((hB1.out.alloc _)), hide ((hB2.out.alloc _)), hide ((hB3.out _)), hide ((hM0.out.alloc _)), by omega, by omega, hide (by have h := HR.out; simp at h ⊢; exact h)⟩
    by_cases hk3 : xk = 3
    · subst hk3
      have HR := hide (HO.out xi ⟨#[]⟩ 0 0 (by simp))
      clear HO HF
      go_wp2_with fail
      go_meet
      case rel => exact ⟨xi, ⟨#[]⟩, none, 0, 0, none, 0, 0, hide ((hB1.out.alloc _)), hide ((hB2.out.alloc _)), hide ((hB3.out _)), hide ((hM0.out.alloc _)), by omega, by omega, hide (by have h := HR.out; simp at h ⊢; exact h)⟩
    by_cases hk4 : xk = 4
    · subst hk4
      have HR := hide (HO.out 0 xt 0 0 (by simp))
      clear HO HF
      go_wp2_with fail
      go_meet
      case rel => exact ⟨0, xt, none, 0, 0, none, 0, 0, hide ((hB1.out.alloc _)), hide ((hB2.out.alloc _)), hide ((hB3.out _)), hide ((hM0.out.alloc _)), by omega, by omega, hide (by have h := HR.out; simp at h ⊢; exact h)⟩
    by_cases hk5 : xk = 5
    · subst hk5
      have HR := hide (HO.out 0 ⟨#[]⟩ n 0 (by simp))
      clear HO HF
      go_wp2_with fail
      go_meet
      case rel => exact ⟨0, ⟨#[]⟩, xA, xc, n, none, 0, 0, hide ((hB1.out.alloc _)), hide ((hB2.out.alloc _)), hide ((hB3.out _)), hide ((hM0.out.alloc _)), by omega, by omega, hide (by have h := HR.out; simp at h ⊢; exact h)⟩
    by_cases hk6 : xk = 6
    · subst hk6
      have HR := hide (HO.out 0 ⟨#[]⟩ n m (by simp))
      clear HO HF
      go_wp2_with fail
      go_region
      go_wp2_with fail
      go_meet
      case rel => exact ⟨0, ⟨#[]⟩, xA, xc, n, xB, xd, m, hide ((hB1.out.alloc _).drew), hide ((hB2.out.alloc _).drew), hide ((hB3.out _).drew), hide ((hM0.out.alloc _).drew), by omega, by omega, hide (by have h := HR.out; simp at h ⊢; exact h)⟩
    have HR := HKx.out
    rw [jmay] at HR
    simp only [hk0, hk1, hk2, hk3, hk4, hk5, hk6, decide_false, Bool.or_false, Bool.and_false, Bool.false_and] at HR
    subst HR
    have k0 : (xk == 0) = false := by simp [hk0]
    have k1 : (xk == 1) = false := by simp [hk1]
    have k2 : (xk == 2) = false := by simp [hk2]
    have k3 : (xk == 3) = false := by simp [hk3]
    have k4 : (xk == 4) = false := by simp [hk4]
    have k5 : (xk == 5) = false := by simp [hk5]
    have k6 : (xk == 6) = false := by simp [hk6]
    clear HO HF HKx
    go_wp2_with fail
    go_ret
    exact ⟨rfl, hM0.out.alloc _⟩
  case rest =>
    obtain ⟨oi, ot, A', c', n', B', d', m', hB4, hB5, hB6, hM4, hm', hn', hR⟩ := hcut
    have x0 : wc.cell? ⟨w.heap.size, 0, none⟩ = some (.int .i64 xk) := hB4.out.cell 0
    have x1 : wc.cell? ⟨w.heap.size, 1, none⟩ = some (.int .i64 xi) := hB4.out.cell 1
    have x2 : wc.cell? ⟨w.heap.size, 2, none⟩ = some (.string xt) := hB4.out.cell 2
    have x3 : wc.cell? ⟨w.heap.size, 3, none⟩ = some (.slice xA n xc) := hB4.out.cell 3
    have x4 : wc.cell? ⟨w.heap.size, 4, none⟩ = some (.slice xB m xd) := hB4.out.cell 4
    have cD : wc.cell? ⟨w.heap.size + 1, 0, none⟩ = some (.int .i64 (8 - (d : Int))) := hB5.out.cell 0
    have lD := hB5.out.lt
    have y1 : wc.cell? ⟨w.heap.size + 1 + 1, 1, none⟩ = some (.int .i64 oi) := hB6.out.cell 1
    have y2 : wc.cell? ⟨w.heap.size + 1 + 1, 2, none⟩ = some (.string ot) := hB6.out.cell 2
    have y3 : wc.cell? ⟨w.heap.size + 1 + 1, 3, none⟩ = some (.slice A' n' c') := hB6.out.cell 3
    have y4 : wc.cell? ⟨w.heap.size + 1 + 1, 4, none⟩ = some (.slice B' m' d') := hB6.out.cell 4
    have hmf : ∀ (fn : Fn) (first cap : Array Value) (w : World), (Instr.makeFunc fn first cap).run Tryd.prog w = .ok (.func fn first cap) w := fun _ _ _ _ => rfl
    by_cases h1 : xi = oi
    · subst h1
      have f1 : (xi != xi) = false := by simp
      by_cases h2 : xt = ot
      · subst h2
        have f2 := toList_same xt
        have f2b : (xt.toList != xt.toList) = false := by rw [bne, f2]; rfl
        by_cases h3 : n = n'
        · subst h3
          have f3 : ((n : Int) != n) = false := by simp
          by_cases h4 : m = m'
          · subst h4
            have f4 : ((m : Int) != m) = false := by simp
            by_cases h5 : 0 < m
            · have p5 : (0 : Int) < (m : Int) := by omega
              by_cases h6 : m = n
              · subst h6
                have f6 : ((m : Int) != m) = false := by simp
                by_cases h7 : xk = 6
                · subst h7
                  have f7 : ((6 : Int) == 6) = true := by simp
                  have HE : Hid (R = bs) := hide (by rw [hR.out]; simp)
                  clear hR hB4 hB5 hB6
                  go_wp2_with fail
                  refine (HF.out _ hM4.out _ lD cD).mono ?_
                  rintro e w3 ⟨rfl, m3⟩
                  have HM5 := hide (hM4.out.trans m3 (by simp))
                  clear m3 HF
                  go_wp2_with fail
                  go_ret
                  exact ⟨by rw [HE.out]; simp, HM5.out⟩
                · have f7 : (xk == 6) = false := by simp [h7]
                  have HE : Hid (R = bs) := hide (by rw [hR.out]; simp [h7])
                  clear hR hB4 hB5 hB6 h7
                  go_wp2_with fail
                  refine (HF.out _ hM4.out _ lD cD).mono ?_
                  rintro e w3 ⟨rfl, m3⟩
                  have HM5 := hide (hM4.out.trans m3 (by simp))
                  clear m3 HF
                  go_wp2_with fail
                  go_ret
                  exact ⟨by rw [HE.out]; simp, HM5.out⟩
              · have f6 : ((m : Int) != n) = true := by simp; omega
                have HE : Hid (R = false) := hide (by rw [hR.out]; simp [h6]; omega)
                clear HF hR hB4 hB5 hB6 h6
                go_wp2_with fail
                go_ret
                exact ⟨by rw [HE.out]; rfl, hM4.out⟩
            · have p5b : decide ((0 : Int) < (m : Int)) = false := decide_eq_false (by omega)
              have h5 : m = 0 := by omega
              by_cases h7 : xk = 6
              · subst h7
                have f7 : ((6 : Int) == 6) = true := by simp
                by_cases h8 : m = n
                · subst h8
                  have f8 : ((m : Int) != m) = false := by simp
                  have HE : Hid (R = bs) := hide (by rw [hR.out]; simp [h5])
                  clear hR hB4 hB5 hB6 h5
                  go_wp2_with fail
                  refine (HF.out _ hM4.out _ lD cD).mono ?_
                  rintro e w3 ⟨rfl, m3⟩
                  have HM5 := hide (hM4.out.trans m3 (by simp))
                  clear m3 HF
                  go_wp2_with fail
                  go_ret
                  exact ⟨by rw [HE.out]; simp, HM5.out⟩
                · have f8 : ((m : Int) != n) = true := by simp; omega
                  have HE : Hid (R = false) := hide (by rw [hR.out]; simp [h8])
                  clear HF hR hB4 hB5 hB6 h8 h5
                  go_wp2_with fail
                  go_ret
                  exact ⟨by rw [HE.out]; rfl, hM4.out⟩
              · have f7 : (xk == 6) = false := by simp [h7]
                have HE : Hid (R = bs) := hide (by rw [hR.out]; simp [h5, h7])
                clear hR hB4 hB5 hB6 h5 h7
                go_wp2_with fail
                refine (HF.out _ hM4.out _ lD cD).mono ?_
                rintro e w3 ⟨rfl, m3⟩
                have HM5 := hide (hM4.out.trans m3 (by simp))
                clear m3 HF
                go_wp2_with fail
                go_ret
                exact ⟨by rw [HE.out]; simp, HM5.out⟩
          · have f4 : ((m : Int) != m') = true := by simp; omega
            have HE : Hid (R = false) := hide (by rw [hR.out]; simp [h4])
            clear HF hR hB4 hB5 hB6 h4
            go_wp2_with fail
            go_ret
            exact ⟨by rw [HE.out]; rfl, hM4.out⟩
        · have f3 : ((n : Int) != n') = true := by simp; omega
          have HE : Hid (R = false) := hide (by rw [hR.out]; simp [h3])
          clear HF hR hB4 hB5 hB6 h3
          go_wp2_with fail
          go_ret
          exact ⟨by rw [HE.out]; rfl, hM4.out⟩
      · have f2 := toList_ne h2
        have f2b : (xt.toList != ot.toList) = true := by rw [bne, f2]; rfl
        have HE : Hid (R = false) := hide (by rw [hR.out]; simp [h2])
        clear HF hR hB4 hB5 hB6 h2
        go_wp2_with fail
        go_ret
        exact ⟨by rw [HE.out]; rfl, hM4.out⟩
    · have f1 : (xi != oi) = true := by simp [h1]
      have HE : Hid (R = false) := hide (by rw [hR.out]; simp [h1])
      clear HF hR hB4 hB5 hB6 h1
      go_wp2_with fail
      go_ret
      exact ⟨by rw [HE.out]; rfl, hM4.out⟩
end Go.Proofs.YtkbpndohpkcikabDoor
