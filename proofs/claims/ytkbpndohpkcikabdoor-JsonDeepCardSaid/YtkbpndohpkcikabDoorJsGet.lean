/-
  json: May for every value, Get.
-/
import Derived.Test.YtkbpndohpkcikabDoorJsMay
import Derived.Test.YtkbpndohpkcikabDoorJsRd4
namespace Go.Proofs.YtkbpndohpkcikabDoor
open Go.RowKit Js Go.Sort
set_option linter.unusedVariables false
set_option linter.unusedSimpArgs false
theorem may_all : ∀ d, d ≤ 8 → MayOk d
  | 0, _ => may_zero
  | d + 1, h => may_step d h (may_all d (by omega))
set_option maxHeartbeats 8000000 in
theorem may_any (w : World) (x : JN) (hx : JIn w x) (b : Bool) (hb : jmay 8 x.v = b) :
    Calls Tryd.prog 6 #[.agg x.cells] w fun e w' => e = .returned (.bool b) ∧ Mod [] w w' := by
  subst hb
  have H := hide (fun w' (m : Mod [] w w') => may_all 8 (Nat.le_refl _) w' x (hx.new m))
  obtain ⟨xk, xi, xt, xA, xc, xl, xB, xd, xs⟩ := x
  have HM := hide ((Mod.refl [] w).alloc (.cells #[.int .i64 xk, .int .i64 xi, .string xt, .slice xA xl.length xc, .slice xB xs.length xd] 25))
  unfold JN.cells at H ⊢
  clear hx
  go_enter Tryd.func6, Tryd.ntmps6
  go_wp2_with fail
  refine (H.out _ HM.out).mono ?_
  rintro e w3 ⟨rfl, m3⟩
  have HM3 := hide (HM.out.trans m3 (by simp))
  clear m3
  go_wp2_with fail
  go_ret
  exact ⟨rfl, HM3.out⟩
/-- where a key stands first -/
def FirstAt (ks : List ByteArray) (key : ByteArray) (i : Int) : Prop :=
  (i = -1 ∧ key ∉ ks) ∨ ∃ j : Nat, i = j ∧ ks[j]? = some key ∧ ∀ j', j' < j → ks[j']? ≠ some key
set_option maxRecDepth 100000 in
set_option maxHeartbeats 8000000 in
theorem index_any (w : World) (A : Option Addr) (c : Nat) (l : List ByteArray) (key : ByteArray) (hl : KeysAt w A l) (hn : l.length ≤ jmax) :
    Calls Tryd.prog 20 #[.slice A l.length c, .string key] w fun e w' => ∃ i : Int, e = .returned (.int .i64 i) ∧ FirstAt l key i ∧ w' = w := by
  unfold jmax at hn
  obtain ⟨q, hlq⟩ : ∃ q, l.length = q := ⟨_, rfl⟩
  have HLn := hide hlq
  have HL := hide hl
  rw [hlq]
  rw [hlq] at hn
  clear hlq hl
  go_enter Tryd.func20, Tryd.ntmps20
  go_wp2_with fail
  go_loopw [5, 8] (fun s5 iv wr => ∃ (i : Nat), i ≤ q ∧ iv = .int .i64 (i : Int) ∧ Hid (∀ j : Nat, j < i → l[j]? ≠ some key) ∧ Hid (wr = w)) (fun _ iv _ => q - (intOf iv).toNat)
  case atStart => exact ⟨0, by omega, rfl, hide (fun j h => absurd h (Nat.not_lt_zero _)), hide rfl⟩
  case round =>
    obtain ⟨i, hi, rfl, htk, hmi⟩ := hrel
    by_cases h2 : i < q
    · obtain ⟨u, hu⟩ : ∃ u, l[i]? = some u := ⟨_, List.getElem?_eq_getElem (by have := HLn.out; omega)⟩
      obtain ⟨g, o, rfl, hg, hc0⟩ := HL.out.at_ hu
      have hc : wr.cell? ⟨g, o + i, none⟩ = some (.string u) := by rw [hmi.out]; exact hc0
      have hii : (i : Int) < q := by omega
      have a1 : IntKind.i64.wrap ((i : Int) + 1) = (i : Int) + 1 := IntWalk.i64_in _ (by omega)
      by_cases huk : key = u
      · subst huk
        have g3 := toList_same key
        have HE : Hid (FirstAt l key i) := hide (.inr ⟨i, rfl, hu, htk.out⟩)
        clear hu htk hc0
        go_wp2_with fail
        go_ret
        exact ⟨_, rfl, HE.out, hmi.out⟩
      · have g3 := toList_ne huk
        have HT : Hid (∀ j : Nat, j < i + 1 → l[j]? ≠ some key) := hide (fun j hj => by
          by_cases e : j = i
          · subst e; rw [hu]; intro h; exact huk (Option.some.inj h).symm
          · exact htk.out j (by omega))
        clear hu htk hc0 huk
        go_wp2_with fail
        refine ⟨?rel, ?measure⟩
        case rel => exact ⟨i + 1, by omega, by go_num, HT, hmi⟩
        case measure => simp [intOf]; omega
    · have hin : i = q := by omega
      subst hin
      have HE : Hid (FirstAt l key (-1)) := hide (.inl ⟨rfl, fun hm => by
        obtain ⟨j, hj⟩ := List.mem_iff_getElem?.1 hm
        exact htk.out j (by have := (List.getElem?_eq_some_iff.1 hj).1; have := HLn.out; omega) hj⟩)
      clear htk
      go_wp2_with fail
      go_ret
      exact ⟨_, rfl, HE.out, hmi.out⟩
/-- what Get tells -/
def GetP (v : JV) (key : ByteArray) (x : JV) (b : Bool) : Prop :=
  (b = true ∧ v.k = 6 ∧ jmay 8 v = true ∧ ∃ j : Nat, v.ks[j]? = some key ∧ (∀ j', j' < j → v.ks[j']? ≠ some key) ∧ v.l[j]? = some x) ∨
  (b = false ∧ x = jv0 ∧ (v.k ≠ 6 ∨ jmay 8 v = false ∨ key ∉ v.ks))
theorem results_cell_tmp_row_ {P : Program} {fn : Func} {p u : Tmp} {ty : TypeId} (h : fn.results = #[.cell p ty, .tmp u]) (tmps : Array Value) (w : World) (g : Nat) (t : TypeId) (cs : Array Value) (d : TypeDesc)
    (hp : tmps.getD p undef = .pointer (some ⟨g, 0, none⟩)) (hg : Blk w g t cs) (hu : P.underlying ty = some d) (hd : (match d with | .struct _ | .array _ _ => true | _ => false) = true) (hi : (P.info? ty).map (·.size) = some cs.size) :
    (results fn tmps).run P w = .ok (.tuple #[.agg cs, tmps.getD u undef]) w := by
  rw [results_cell_tmp h, hp]
  show ((loadVar ty ⟨g, 0, none⟩).run P w).andThen _ = _
  rw [run_loadVar_row w g t ty cs (0, 0) d hg hu hd hi]
  rfl
theorem jmay_len {d : Nat} {k i : Int} {t : ByteArray} {l : List JV} {ks : List ByteArray} (h : jmay d (.mk k i t l ks) = true) (hk : k = 6) : ks.length = l.length := by
  subst hk
  rw [jmay] at h
  simp at h
  exact h.1.2
set_option maxRecDepth 100000 in
set_option maxHeartbeats 8000000 in
theorem get_any (w : World) (x : JN) (key : ByteArray) (hx : JIn w x) :
    Calls Tryd.prog 10 #[.agg x.cells, .string key] w fun e w' => ∃ (y : JN) (b : Bool), e = .returned (.tuple #[.agg y.cells, .bool b]) ∧ GetP x.v key y.v b ∧ JIn w' y ∧ Mod [] w w' := by
  have HMay := hide (fun w' (m : Mod [] w w') b hb => may_any w' x (hx.new m) b hb)
  have HX := hide hx
  obtain ⟨xk, xi, xt, xA, xc, xl, xB, xd, xs⟩ := x
  rw [JIn] at hx
  obtain ⟨⟨hx1, hx2⟩, hx3, hx4, hx5⟩ := hx
  have HIx := hide (fun w' (m : Mod [] w w') => index_any w' xB xd xs key (hx3.new m) hx2)
  have HRow := hide hx4
  have HIns := hide hx5
  have HXv : Hid ((JN.mk xk xi xt xA xc xl xB xd xs).v = .mk xk xi xt (JN.vs xl) xs) := hide (by rw [JN.v])
  rw [HXv.out]
  rw [HXv.out] at HMay
  have HL1 := hide hx1
  unfold jmax at hx1 hx2
  obtain ⟨n, hn⟩ : ∃ n, xl.length = n := ⟨_, rfl⟩
  obtain ⟨m, hm⟩ : ∃ m, xs.length = m := ⟨_, rfl⟩
  have HNn := hide hn
  have HMn := hide hm
  simp only [JN.cells] at HMay ⊢
  rw [hn, hm] at HMay
  rw [hn, hm]
  rw [hm] at HIx
  rw [hn] at hx1
  rw [hm] at hx2
  clear hx3 hx4 hx5 hn hm
  have HM0 := hide (((Mod.refl [] w).alloc (.cells #[.int .i64 xk, .int .i64 xi, .string xt, .slice xA n xc, .slice xB m xd] 25)).alloc (.cells #[.int .i64 0, .int .i64 0, .string ⟨#[]⟩, .slice none 0 0, .slice none 0 0] 25))
  have HB1 := hide ((Blk.new w 25 #[.int .i64 xk, .int .i64 xi, .string xt, .slice xA n xc, .slice xB m xd]).alloc (.cells #[.int .i64 0, .int .i64 0, .string ⟨#[]⟩, .slice none 0 0, .slice none 0 0] 25))
  have hB2 := Blk.new (w.alloc (.cells #[.int .i64 xk, .int .i64 xi, .string xt, .slice xA n xc, .slice xB m xd] 25)) 25 #[.int .i64 0, .int .i64 0, .string ⟨#[]⟩, .slice none 0 0, .slice none 0 0]
  rw [World.size_alloc] at hB2
  have HB2 := hide hB2
  have hlt1 := HB1.out.lt
  have hlt2 := hB2.lt
  clear hB2
  go_enter Tryd.func10, Tryd.ntmps10
  go_wp2_with fail
  refine (HIx.out _ HM0.out).mono ?_
  rintro e w2 ⟨i, rfl, hi, rfl⟩
  have HI := hide hi
  clear hi HIx
  by_cases h6 : xk = 6
  · subst h6
    have f6 : ((6 : Int) != 6) = false := by simp
    by_cases hneg : i < 0
    · have HE : Hid (GetP (.mk 6 xi xt (JN.vs xl) xs) key (JN.mk 0 0 ⟨#[]⟩ none 0 [] none 0 []).v false) := hide (.inr ⟨rfl, rfl, .inr (.inr (by
        rcases HI.out with ⟨_, h⟩ | ⟨j, h, _⟩
        · exact h
        · omega))⟩)
      clear HMay HI
      go_wp2_with fail
      refine bodyPost_ret (results_cell_tmp_row_ rfl _ _ (w.heap.size + 1) 25 (#[.int .i64 0, .int .i64 0, .string ⟨#[]⟩, .slice none 0 0, .slice none 0 0]) _ rfl ?_ Tryd.underlying25 rfl (by kernel_rfl)) rfl ?_
      · exact HB2.out
      · exact ⟨JN.mk 0 0 ⟨#[]⟩ none 0 [] none 0 [], false, rfl, HE.out, JIn.plain _ _ _ _, HM0.out⟩
    · have hneg2 : decide (i < 0) = false := decide_eq_false hneg
      obtain ⟨b, hb⟩ : ∃ b, jmay 8 (.mk 6 xi xt (JN.vs xl) xs) = b := ⟨_, rfl⟩
      have HM8 := hide (fun w' (m : Mod [] w w') => HMay.out w' m b hb)
      have HBm := hide hb
      clear hb HMay
      go_wp2_with fail
      refine (HM8.out _ HM0.out).mono ?_
      rintro e w3 ⟨rfl, m3⟩
      have HM3 := hide (HM0.out.trans m3 (by simp))
      have HB13 := hide (m3.blk HB1.out (by simp))
      have HB23 := hide (m3.blk HB2.out (by simp))
      have lt3 := HB23.out.lt
      have r0 : w3.cell? ⟨w.heap.size + 1, 0, none⟩ = some (.int .i64 0) := HB23.out.cell 0
      have rf0 : w3.frozen? ⟨w.heap.size + 1, 0, none⟩ = false := HB23.out.frozen 0
      have r1 : w3.cell? ⟨w.heap.size + 1, 1, none⟩ = some (.int .i64 0) := HB23.out.cell 1
      have rf1 : w3.frozen? ⟨w.heap.size + 1, 1, none⟩ = false := HB23.out.frozen 1
      have r2 : w3.cell? ⟨w.heap.size + 1, 2, none⟩ = some (.string ⟨#[]⟩) := HB23.out.cell 2
      have rf2 : w3.frozen? ⟨w.heap.size + 1, 2, none⟩ = false := HB23.out.frozen 2
      have r3 : w3.cell? ⟨w.heap.size + 1, 3, none⟩ = some (.slice none 0 0) := HB23.out.cell 3
      have rf3 : w3.frozen? ⟨w.heap.size + 1, 3, none⟩ = false := HB23.out.frozen 3
      have r4 : w3.cell? ⟨w.heap.size + 1, 4, none⟩ = some (.slice none 0 0) := HB23.out.cell 4
      have rf4 : w3.frozen? ⟨w.heap.size + 1, 4, none⟩ = false := HB23.out.frozen 4
      clear m3
      cases b with
      | false =>
        have HE : Hid (GetP (.mk 6 xi xt (JN.vs xl) xs) key (JN.mk 0 0 ⟨#[]⟩ none 0 [] none 0 []).v false) := hide (.inr ⟨rfl, rfl, .inr (.inl HBm.out)⟩)
        have HW := hide (jsets_blk (JN.mk 0 0 ⟨#[]⟩ none 0 [] none 0 []).cells HB23.out rfl (JN.mk 0 0 ⟨#[]⟩ none 0 [] none 0 []).cells_size)
        have HWm := hide ((HM3.out.sets (.inr (Nat.le_succ _)) (fun i => (JN.mk 0 0 ⟨#[]⟩ none 0 [] none 0 []).cells.getD i undef) (List.range 5)))
        unfold JN.cells at HW HWm
        go_wp2_with fail
        refine bodyPost_ret (results_cell_tmp_row_ rfl _ _ (w.heap.size + 1) 25 (#[.int .i64 0, .int .i64 0, .string ⟨#[]⟩, .slice none 0 0, .slice none 0 0]) _ rfl ?_ Tryd.underlying25 rfl (by kernel_rfl)) rfl ?_
        · exact HW.out
        · exact ⟨JN.mk 0 0 ⟨#[]⟩ none 0 [] none 0 [], false, rfl, HE.out, JIn.plain _ _ _ _, HWm.out⟩
      | true =>
        obtain ⟨j, rfl, hj, hjn⟩ : ∃ j : Nat, i = j ∧ xs[j]? = some key ∧ ∀ j', j' < j → xs[j']? ≠ some key := by
          rcases HI.out with ⟨h, _⟩ | h
          · omega
          · exact h
        have hjl : j < n := by
          have h1 := jmay_len HBm.out rfl
          rw [JN.vs_len] at h1
          have h2 := (List.getElem?_eq_some_iff.1 hj).1
          have := HNn.out
          omega
        obtain ⟨u, hu⟩ : ∃ u, xl[j]? = some u := ⟨_, List.getElem?_eq_getElem (by have := HNn.out; omega)⟩
        obtain ⟨g, o, rfl, hg, hc⟩ := (HRow.out.new HM3.out).at_ hu
        have HU := hide (HIns.out.at_ hu)
        have HE : Hid (GetP (.mk 6 xi xt (JN.vs xl) xs) key u.v true) := hide (.inl ⟨rfl, rfl, HBm.out, j, hj, hjn, by show (JN.vs xl)[j]? = _; rw [JN.vs_at, hu]; rfl⟩)
        have hii : (j : Int) < n := by omega
        have hi0 : (0 : Int) ≤ (j : Int) := by omega
        have hj2 : decide ((j : Int) < 0) = false := decide_eq_false (by omega)
        have hgne : g < w.heap.size := by
          obtain ⟨g', o', h1, h2, _⟩ := HRow.out.at_ hu
          have h3 : g = g' := congrArg Addr.block (Option.some.inj h1)
          rw [h3]; exact h2
        have hgn : g ≠ w.heap.size + 1 := by omega
        obtain ⟨uk, ui, ut, uA, uc, ul, uB, ud, us⟩ := u
        have y0 : w3.cell? ⟨g, o + j * 5, none⟩ = some (.int .i64 uk) := hc 0 _ rfl
        have y1 : w3.cell? ⟨g, o + j * 5 + 1, none⟩ = some (.int .i64 ui) := hc 1 _ rfl
        have y2 : w3.cell? ⟨g, o + j * 5 + 2, none⟩ = some (.string ut) := hc 2 _ rfl
        have y3 : w3.cell? ⟨g, o + j * 5 + 3, none⟩ = some (.slice uA ul.length uc) := hc 3 _ rfl
        have y4 : w3.cell? ⟨g, o + j * 5 + 4, none⟩ = some (.slice uB us.length ud) := hc 4 _ rfl
        have x3 : w3.cell? ⟨w.heap.size, 3, none⟩ = some (.slice (some ⟨g, o, none⟩) n xc) := HB13.out.cell 3
        have HW := hide (jsets_blk (JN.mk uk ui ut uA uc ul uB ud us).cells HB23.out rfl (JN.mk uk ui ut uA uc ul uB ud us).cells_size)
        have HWm := hide ((HM3.out.sets (.inr (Nat.le_succ _)) (fun i => (JN.mk uk ui ut uA uc ul uB ud us).cells.getD i undef) (List.range 5)))
        unfold JN.cells at HW HWm
        clear hc hu hj hjn hneg hneg2 HI
        go_wp2_with fail
        refine bodyPost_ret (results_cell_tmp_row_ rfl _ _ (w.heap.size + 1) 25 (#[.int .i64 uk, .int .i64 ui, .string ut, .slice uA ul.length uc, .slice uB us.length ud]) _ rfl ?_ Tryd.underlying25 rfl (by kernel_rfl)) rfl ?_
        · exact HW.out
        · exact ⟨JN.mk uk ui ut uA uc ul uB ud us, true, rfl, HE.out, HU.out.new HWm.out, HWm.out⟩
  · have f6 : (xk != 6) = true := by simp [h6]
    have HE : Hid (GetP (.mk xk xi xt (JN.vs xl) xs) key (JN.mk 0 0 ⟨#[]⟩ none 0 [] none 0 []).v false) := hide (.inr ⟨rfl, rfl, .inl h6⟩)
    clear HMay HI h6
    go_wp2_with fail
    refine bodyPost_ret (results_cell_tmp_row_ rfl _ _ (w.heap.size + 1) 25 (#[.int .i64 0, .int .i64 0, .string ⟨#[]⟩, .slice none 0 0, .slice none 0 0]) _ rfl ?_ Tryd.underlying25 rfl (by kernel_rfl)) rfl ?_
    · exact HB2.out
    · exact ⟨JN.mk 0 0 ⟨#[]⟩ none 0 [] none 0 [], false, rfl, HE.out, JIn.plain _ _ _ _, HM0.out⟩
end Go.Proofs.YtkbpndohpkcikabDoor
