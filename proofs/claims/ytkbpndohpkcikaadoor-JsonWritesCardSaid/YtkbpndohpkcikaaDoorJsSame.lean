/-
  json: Same.
-/
import Derived.Test.YtkbpndohpkcikaaDoorJsIx
import Derived.Test.YtkbpndohpkcikaaDoorLex
namespace Go.Proofs.YtkbpndohpkcikaaDoor
open Go.RowKit Js Go.Sort
set_option linter.unusedVariables false
set_option linter.unusedSimpArgs false

mutual
def JN.sz : JN → Nat
  | .mk _ _ _ _ _ l _ _ _ => 1 + JN.szs l
def JN.szs : List JN → Nat
  | [] => 0
  | x :: l => x.sz + JN.szs l
end
theorem JN.szs_mem : ∀ {l : List JN} {x : JN}, x ∈ l → x.sz ≤ JN.szs l
  | [], x, h => by cases h
  | y :: l, x, h => by
    rw [JN.szs]
    rcases List.mem_cons.1 h with rfl | h
    · omega
    · have := JN.szs_mem h; omega
theorem toList_same (a : ByteArray) : (a.toList == a.toList) = true := by simp
theorem toList_ne {a b : ByteArray} (h : a ≠ b) : (a.toList == b.toList) = false := by
  rw [beq_eq_false_iff_ne]
  intro e
  rw [Lib.toList_data, Lib.toList_data] at e
  exact h (ByteArray.ext (Array.ext' e))
theorem toList_dec (a b : ByteArray) : (a.toList == b.toList) = decide (a = b) := by
  by_cases h : a = b
  · subst h; rw [toList_same]; simp
  · rw [toList_ne h, decide_eq_false h]
theorem take_snoc {α : Type} {l : List α} {j : Nat} {x : α} (h : l[j]? = some x) : l.take (j + 1) = l.take j ++ [x] := by
  obtain ⟨h1, h2⟩ := List.getElem?_eq_some_iff.1 h
  rw [List.take_add_one, h]
  rfl

set_option maxRecDepth 100000 in
set_option maxHeartbeats 8000000 in
theorem equal_any (w : World) (A B : Option Addr) (c d : Nat) (l m : List ByteArray) (hl : KeysAt w A l) (hm : KeysAt w B m) (hn : l.length ≤ jmax) (hk : m.length ≤ jmax) :
    Calls Tryd.prog 28 #[.slice A l.length c, .slice B m.length d] w fun e w' => e = .returned (.bool (decide (l = m))) ∧ Mod [] w w' := by
  unfold jmax at hn hk
  by_cases hne : l.length = m.length
  · obtain ⟨n, hln⟩ : ∃ n, l.length = n := ⟨_, rfl⟩
    have hmn : m.length = n := by omega
    have HLn := hide hln
    have HMn := hide hmn
    have HL := hide hl
    have HM := hide hm
    rw [hln, hmn]
    rw [hln] at hn
    clear hne hln hmn hl hm hk
    have t1 : ((n : Int) != n) = false := by simp
    go_enter Tryd.func28, Tryd.ntmps28
    go_wp2_with fail
    go_loopw [13] (fun iv wr => ∃ (i : Nat), i ≤ n ∧ iv = .int .i64 (i : Int) ∧ Hid (l.take i = m.take i) ∧ Hid (Mod [] w wr)) (fun iv _ => n - (intOf iv).toNat)
    case atStart => exact ⟨0, by omega, rfl, hide rfl, hide (Mod.refl _ _)⟩
    case round =>
      obtain ⟨i, hi, rfl, htk, hmi⟩ := hrel
      by_cases h2 : i < n
      · obtain ⟨u, hu⟩ : ∃ u, l[i]? = some u := ⟨_, List.getElem?_eq_getElem (by have := HLn.out; omega)⟩
        obtain ⟨v, hv⟩ : ∃ v, m[i]? = some v := ⟨_, List.getElem?_eq_getElem (by have := HMn.out; omega)⟩
        obtain ⟨g, o, rfl, hg, hc⟩ := (HL.out.new hmi.out).at_ hu
        obtain ⟨g', o', rfl, hg', hc'⟩ := (HM.out.new hmi.out).at_ hv
        have hii : (i : Int) < n := by omega
        have a1 : IntKind.i64.wrap ((i : Int) + 1) = (i : Int) + 1 := IntWalk.i64_in _ (by omega)
        by_cases huv : u = v
        · subst huv
          have g3 := toList_same u
          have HT : Hid (l.take (i + 1) = m.take (i + 1)) := hide (by rw [take_snoc hu, take_snoc hv, htk.out])
          clear hu hv htk
          go_wp2_with fail
          go_quiet (fail)
          go_wp2_with fail
          refine ⟨?rel, ?measure⟩
          case rel => exact ⟨i + 1, by omega, by go_num, HT, hide (hmi.out.drewN nq)⟩
          case measure => simp [intOf]; omega
        · have g3 := toList_ne huv
          have HE : Hid (decide (l = m) = false) := hide (decide_eq_false (fun e => huv (by rw [e, hv] at hu; exact (Option.some.inj hu).symm)))
          clear hu hv htk
          go_wp2_with fail
          go_quiet (fail)
          go_wp2_with fail
          go_ret
          exact ⟨by rw [HE.out]; rfl, hmi.out.drewN nq⟩
      · have hin : i = n := by omega
        subst hin
        have HE : Hid (decide (l = m) = true) := hide (decide_eq_true (by
          have := htk.out
          rw [List.take_of_length_le (by rw [HLn.out]; exact Nat.le_refl _), List.take_of_length_le (by rw [HMn.out]; exact Nat.le_refl _)] at this
          exact this))
        clear htk
        go_wp2_with fail
        go_ret
        exact ⟨by rw [HE.out]; rfl, hmi.out⟩
  · have HE : Hid (decide (l = m) = false) := hide (decide_eq_false (fun e => hne (by rw [e])))
    have t1 : ((l.length : Int) != m.length) = true := by rw [bne_iff_ne]; omega
    clear hl hm hne
    go_enter Tryd.func28, Tryd.ntmps28
    go_wp2_with fail
    go_ret
    exact ⟨by rw [HE.out]; rfl, Mod.refl _ _⟩

/-- Same does what it shall, of values of at most that size -/
def SameOk (n : Nat) : Prop := ∀ (w : World) (x y : JN), x.sz ≤ n → JIn w x → JIn w y →
  Calls Tryd.prog 18 #[.agg x.cells, .agg y.cells] w fun e w' => e = .returned (.bool (jsame x.v y.v)) ∧ Mod [] w w'
theorem jsames_take : ∀ (l m : List JV) (i : Nat) (x y : JV), l.length = m.length → l[i]? = some x → m[i]? = some y → jsame x y = false → jsames l m = false := by
  intro l m i x y hl hx hy h
  cases hb : jsames l m with
  | false => rfl
  | true =>
    have := (jsames_iff l m).1 hb
    subst this
    rw [hx] at hy
    cases hy
    rw [(jsame_iff x x).2 rfl] at h
    cases h

set_option maxRecDepth 100000 in
set_option maxHeartbeats 8000000 in
theorem equalF_any (n : Nat) (hS : SameOk n) (w : World) (A B : Option Addr) (c d : Nat) (l m : List JN) (hsz : JN.szs l ≤ n) (hl : RowAt w A l) (hm : RowAt w B m) (hli : JIns w l) (hmi : JIns w m) (hn : l.length ≤ jmax) (hk : m.length ≤ jmax) :
    Calls Tryd.prog 29 #[.slice A l.length c, .slice B m.length d, .func (Fn.func 18) #[] #[]] w fun e w' => e = .returned (.bool (jsames (JN.vs l) (JN.vs m))) ∧ Mod [] w w' := by
  unfold jmax at hn hk
  by_cases hne : l.length = m.length
  · obtain ⟨q, hlq⟩ : ∃ q, l.length = q := ⟨_, rfl⟩
    have hmq : m.length = q := by omega
    have HLn := hide hlq
    have HMn := hide hmq
    have HL := hide hl
    have HM := hide hm
    have HLi := hide hli
    have HMi := hide hmi
    have HSm := hide hS
    have HSz := hide hsz
    rw [hlq, hmq]
    rw [hlq] at hn
    clear hne hlq hmq hl hm hk hS hli hmi hsz
    have t1 : ((q : Int) != q) = false := by simp
    go_enter Tryd.func29, Tryd.ntmps29
    go_wp2_with fail
    go_loopw [17] (fun iv wr => ∃ (i : Nat), i ≤ q ∧ iv = .int .i64 (i : Int) ∧ Hid (JN.vs (l.take i) = JN.vs (m.take i)) ∧ Hid (Mod [] w wr)) (fun iv _ => q - (intOf iv).toNat)
    case atStart => exact ⟨0, by omega, rfl, hide rfl, hide (Mod.refl _ _)⟩
    case round =>
      obtain ⟨i, hi, rfl, htk, hmi⟩ := hrel
      by_cases h2 : i < q
      · obtain ⟨u, hu⟩ : ∃ u, l[i]? = some u := ⟨_, List.getElem?_eq_getElem (by have := HLn.out; omega)⟩
        obtain ⟨v, hv⟩ : ∃ v, m[i]? = some v := ⟨_, List.getElem?_eq_getElem (by have := HMn.out; omega)⟩
        obtain ⟨g, o, rfl, hg, hc⟩ := (HL.out.new hmi.out).at_ hu
        obtain ⟨g', o', rfl, hg', hc'⟩ := (HM.out.new hmi.out).at_ hv
        have hii : (i : Int) < q := by omega
        have a1 : IntKind.i64.wrap ((i : Int) + 1) = (i : Int) + 1 := IntWalk.i64_in _ (by omega)
        have husz : u.sz ≤ n := by
          have := JN.szs_mem (List.mem_of_getElem? hu)
          have := HSz.out
          omega
        have HS1 := hide (fun w' (mm : Mod [] wr w') => HSm.out w' u v husz (((HLi.out.at_ hu).new hmi.out).new mm) (((HMi.out.at_ hv).new hmi.out).new mm))
        obtain ⟨b, hb⟩ : ∃ b, jsame u.v v.v = b := ⟨_, rfl⟩
        rw [hb] at HS1
        have HT : Hid (b = true → JN.vs (l.take (i + 1)) = JN.vs (m.take (i + 1))) := hide (fun hbt => by
          rw [take_snoc hu, take_snoc hv, JN.vs_app, JN.vs_app, htk.out]
          rw [hbt] at hb
          have := (jsame_iff _ _).1 hb
          rw [JN.vs, JN.vs, this]; rfl)
        have HE : Hid (b = false → jsames (JN.vs l) (JN.vs m) = false) := hide (fun hbf => jsames_take _ _ i u.v v.v (by rw [JN.vs_len, JN.vs_len, HLn.out, HMn.out]) (by rw [JN.vs_at, hu]; rfl) (by rw [JN.vs_at, hv]; rfl) (by rw [hb, hbf]))
        obtain ⟨xk, xi, xt, xA, xc, xl, xB, xd, xs⟩ := u
        obtain ⟨yk, yi, yt, yA, yc, yl, yB, yd, ys⟩ := v
        have y0 : wr.cell? ⟨g, o + i * 5, none⟩ = some (.int .i64 xk) := hc 0 _ rfl
        have y1 : wr.cell? ⟨g, o + i * 5 + 1, none⟩ = some (.int .i64 xi) := hc 1 _ rfl
        have y2 : wr.cell? ⟨g, o + i * 5 + 2, none⟩ = some (.string xt) := hc 2 _ rfl
        have y3 : wr.cell? ⟨g, o + i * 5 + 3, none⟩ = some (.slice xA xl.length xc) := hc 3 _ rfl
        have y4 : wr.cell? ⟨g, o + i * 5 + 4, none⟩ = some (.slice xB xs.length xd) := hc 4 _ rfl
        have z0 : wr.cell? ⟨g', o' + i * 5, none⟩ = some (.int .i64 yk) := hc' 0 _ rfl
        have z1 : wr.cell? ⟨g', o' + i * 5 + 1, none⟩ = some (.int .i64 yi) := hc' 1 _ rfl
        have z2 : wr.cell? ⟨g', o' + i * 5 + 2, none⟩ = some (.string yt) := hc' 2 _ rfl
        have z3 : wr.cell? ⟨g', o' + i * 5 + 3, none⟩ = some (.slice yA yl.length yc) := hc' 3 _ rfl
        have z4 : wr.cell? ⟨g', o' + i * 5 + 4, none⟩ = some (.slice yB ys.length yd) := hc' 4 _ rfl
        unfold JN.cells at HS1
        clear hu hv hc hc' htk husz hb
        go_wp2_with fail
        refine (HS1.out _ ?_).mono ?_
        · exact ((Mod.refl [] wr).alloc _).alloc _
        rintro e w2 ⟨rfl, m2⟩
        have HM2 := hide (hmi.out.trans ((((Mod.refl [] wr).alloc (.cells #[.int .i64 xk, .int .i64 xi, .string xt, .slice xA xl.length xc, .slice xB xs.length xd] 25)).alloc (.cells #[.int .i64 yk, .int .i64 yi, .string yt, .slice yA yl.length yc, .slice yB ys.length yd] 25)).trans m2 (by simp)) (by simp))
        clear m2
        cases b with
        | true =>
          have HT2 := hide (HT.out rfl)
          go_wp2_with fail
          refine ⟨?rel, ?measure⟩
          case rel => exact ⟨i + 1, by omega, by go_num, HT2, HM2⟩
          case measure => simp [intOf]; omega
        | false =>
          have HE2 := hide (HE.out rfl)
          go_wp2_with fail
          go_ret
          exact ⟨by rw [HE2.out]; rfl, HM2.out⟩
      · have hin : i = q := by omega
        subst hin
        have HE : Hid (jsames (JN.vs l) (JN.vs m) = true) := hide ((jsames_iff _ _).2 (by
          have := htk.out
          rw [List.take_of_length_le (by rw [HLn.out]; exact Nat.le_refl _), List.take_of_length_le (by rw [HMn.out]; exact Nat.le_refl _)] at this
          exact this))
        clear htk
        go_wp2_with fail
        go_ret
        exact ⟨by rw [HE.out]; rfl, hmi.out⟩
  · have HE : Hid (jsames (JN.vs l) (JN.vs m) = false) := hide (by
      cases hb : jsames (JN.vs l) (JN.vs m) with
      | false => rfl
      | true =>
        have := congrArg List.length ((jsames_iff _ _).1 hb)
        rw [JN.vs_len, JN.vs_len] at this
        exact absurd this hne)
    have t1 : ((l.length : Int) != m.length) = true := by rw [bne_iff_ne]; omega
    clear hl hm hne hli hmi hS hsz
    go_enter Tryd.func29, Tryd.ntmps29
    go_wp2_with fail
    go_ret
    exact ⟨by rw [HE.out]; rfl, Mod.refl _ _⟩

set_option maxRecDepth 100000 in
set_option maxHeartbeats 8000000 in
theorem same_step (n : Nat) (hS : SameOk n) : SameOk (n + 1) := by
  intro w x y hsz hx hy
  obtain ⟨xk, xi, xt, xA, xc, xl, xB, xd, xs⟩ := x
  obtain ⟨yk, yi, yt, yA, yc, yl, yB, yd, ys⟩ := y
  rw [JIn] at hx hy
  rw [JN.sz] at hsz
  obtain ⟨⟨hx1, hx2⟩, hx3, hx4, hx5⟩ := hx
  obtain ⟨⟨hy1, hy2⟩, hy3, hy4, hy5⟩ := hy
  have HQ := hide (fun w' (m : Mod [] w w') => equal_any w' xB yB xd yd xs ys (hx3.new m) (hy3.new m) hx2 hy2)
  have HF := hide (fun w' (m : Mod [] w w') => equalF_any n hS w' xA yA xc yc xl yl (by omega) (hx4.new m) (hy4.new m) (hx5.new m) (hy5.new m) hx1 hy1)
  have hres : jsame (JN.mk xk xi xt xA xc xl xB xd xs).v (JN.mk yk yi yt yA yc yl yB yd ys).v = (decide (xk = yk) && decide (xi = yi) && decide (xt = yt) && decide (xs = ys) && jsames (JN.vs xl) (JN.vs yl)) := by
    rw [JN.v, JN.v, jsame]
  have HRes := hide hres
  have e1 : (xk == yk) = decide (xk = yk) := by rw [Bool.eq_iff_iff]; simp
  have e2 : (xi == yi) = decide (xi = yi) := by rw [Bool.eq_iff_iff]; simp
  have e3 := toList_dec xt yt
  obtain ⟨b1, hb1⟩ : ∃ b, decide (xk = yk) = b := ⟨_, rfl⟩
  obtain ⟨b2, hb2⟩ : ∃ b, decide (xi = yi) = b := ⟨_, rfl⟩
  obtain ⟨b3, hb3⟩ : ∃ b, decide (xt = yt) = b := ⟨_, rfl⟩
  obtain ⟨b4, hb4⟩ : ∃ b, decide (xs = ys) = b := ⟨_, rfl⟩
  obtain ⟨b5, hb5⟩ : ∃ b, jsames (JN.vs xl) (JN.vs yl) = b := ⟨_, rfl⟩
  rw [hb1, hb2, hb3, hb4, hb5] at HRes
  rw [hb1] at e1
  rw [hb2] at e2
  rw [hb3] at e3
  rw [hb4] at HQ
  rw [hb5] at HF
  rw [HRes.out]
  clear hres HRes hb1 hb2 hb3 hb4 hb5 hx1 hx2 hx3 hx4 hx5 hy1 hy2 hy3 hy4 hy5 hsz hS
  unfold JN.cells
  have HMx := hide ((((Mod.refl [] w).alloc (.cells #[.int .i64 xk, .int .i64 xi, .string xt, .slice xA xl.length xc, .slice xB xs.length xd] 25)).alloc (.cells #[.int .i64 yk, .int .i64 yi, .string yt, .slice yA yl.length yc, .slice yB ys.length yd] 25)))
  have HB1 := hide ((Blk.new w 25 #[.int .i64 xk, .int .i64 xi, .string xt, .slice xA xl.length xc, .slice xB xs.length xd]).alloc (.cells #[.int .i64 yk, .int .i64 yi, .string yt, .slice yA yl.length yc, .slice yB ys.length yd] 25))
  have hB2 := Blk.new (w.alloc (.cells #[.int .i64 xk, .int .i64 xi, .string xt, .slice xA xl.length xc, .slice xB xs.length xd] 25)) 25 #[.int .i64 yk, .int .i64 yi, .string yt, .slice yA yl.length yc, .slice yB ys.length yd]
  rw [World.size_alloc] at hB2
  have HB2 := hide hB2
  clear hB2
  go_enter Tryd.func18, Tryd.ntmps18
  cases b1 with
  | false =>
    go_wp2_with fail
    go_ret
    exact ⟨rfl, HMx.out⟩
  | true =>
    cases b2 with
    | false =>
      go_wp2_with fail
      go_ret
      exact ⟨rfl, HMx.out⟩
    | true =>
      cases b3 with
      | false =>
        go_wp2_with fail
        go_ret
        exact ⟨rfl, HMx.out⟩
      | true =>
        go_wp2_with fail
        refine (HQ.out _ HMx.out).mono ?_
        rintro e w3 ⟨rfl, m3⟩
        have HM3 := hide (HMx.out.trans m3 (by simp))
        have hc1 := m3.blk HB1.out (by simp)
        have hc2 := m3.blk HB2.out (by simp)
        have c3 : w3.cell? ⟨w.heap.size, 3, none⟩ = some (.slice xA xl.length xc) := hc1.cell 3
        have d3 : w3.cell? ⟨w.heap.size + 1, 3, none⟩ = some (.slice yA yl.length yc) := hc2.cell 3
        clear m3 hc1 hc2
        cases b4 with
        | false =>
          go_wp2_with fail
          go_ret
          exact ⟨rfl, HM3.out⟩
        | true =>
          go_wp2_with fail
          refine (HF.out _ HM3.out).mono ?_
          rintro e w4 ⟨rfl, m4⟩
          have HM4 := hide (HM3.out.trans m4 (by simp))
          clear m4
          go_wp2_with fail
          go_ret
          exact ⟨rfl, HM4.out⟩
theorem same_all : ∀ n, SameOk n
  | 0 => fun w x y h => by cases x; rw [JN.sz] at h; omega
  | n + 1 => same_step n (same_all n)
theorem same_any (w : World) (x y : JN) (hx : JIn w x) (hy : JIn w y) (b : Bool) (hb : jsame x.v y.v = b) : Calls Tryd.prog 18 #[.agg x.cells, .agg y.cells] w fun e w' => e = .returned (.bool b) ∧ Mod [] w w' := by
  subst hb
  exact same_all x.sz w x y (Nat.le_refl _) hx hy
end Go.Proofs.YtkbpndohpkcikaaDoor
