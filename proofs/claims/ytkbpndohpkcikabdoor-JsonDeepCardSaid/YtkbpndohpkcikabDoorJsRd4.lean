/-
  json: the reader: number.
-/
import Derived.Test.YtkbpndohpkcikabDoorJsNum
import Derived.Test.YtkbpndohpkcikabDoorCells
import Derived.Deep.RegionHeld3
namespace Go.Proofs.YtkbpndohpkcikabDoor
open Go.RowKit Js Go.Sort
set_option linter.unusedVariables false
set_option linter.unusedSimpArgs false

def d0S : ByteArray := ⟨#[48, 49, 50, 51, 52, 53, 54, 55, 56, 57]⟩
def d1S : ByteArray := ⟨#[49, 50, 51, 52, 53, 54, 55, 56, 57]⟩
set_option maxRecDepth 100000 in
theorem d0S_in : inB d0S = fun c => isDi c && (!false || c != 48) := by
  funext c
  have key : ∀ n : Nat, n < 256 → inB d0S (UInt8.ofNat n) = (isDi (UInt8.ofNat n) && (!false || UInt8.ofNat n != 48)) := by decide
  have := key c.toNat (UInt8.toNat_lt c)
  simpa using this
set_option maxRecDepth 100000 in
theorem d1S_in : inB d1S = fun c => isDi c && (!true || c != 48) := by
  funext c
  have key : ∀ n : Nat, n < 256 → inB d1S (UInt8.ofNat n) = (isDi (UInt8.ofNat n) && (!true || UInt8.ofNat n != 48)) := by decide
  have := key c.toNat (UInt8.toNat_lt c)
  simpa using this
theorem ext_size (s : ByteArray) (i j : Nat) : (s.extract i j).size ≤ s.size := by
  rw [← bytes_len, ← bytes_len, Lib.extract_data, List.length_take, List.length_drop]
  omega
theorem ext_rst (s : ByteArray) {k j : Nat} {l : List UInt8} (h : rst s k = l ++ rst s j) (hj : j ≤ s.size) : (s.extract k j).data.toList = l := by
  have hl : l.length = j - k := by
    have h1 := congrArg List.length h
    rw [List.length_append, rst_len s hj] at h1
    unfold rst at h1
    rw [List.length_drop, bytes_len] at h1
    omega
  rw [Lib.extract_data]
  show (rst s k).take (j - k) = l
  rw [h, ← hl, List.take_left]
theorem Rd.keep {X w' w'' : World} {p k : Nat} {s : ByteArray} (h : Rd X p s k) (m : Mod [] X w') (m2 : Mod [] w' w'') : (w''.cell? ⟨p, 0, none⟩ = some (.string s) ∧ w''.cell? ⟨p, 1, none⟩ = some (.int .i64 (k : Nat))) ∧ Mod [] X w'' := by
  have m3 := m.trans m2 (by simp)
  have hb := m3.blk h.blk (by simp)
  exact ⟨⟨hb.cell 0, hb.cell 1⟩, m3⟩
abbrev jsets (X : World) (RB : Nat) (V : Array Value) : World := (List.range 5).foldl (fun w i => w.setCell ⟨RB, i, none⟩ (V.getD i undef)) X
theorem jsets_mod (X : World) (RB : Nat) (V : Array Value) : Mod [RB] X (jsets X RB V) := (Mod.refl [RB] X).sets (g := RB) (.inl (by simp)) (fun i => V.getD i undef) (List.range 5)
theorem jsets_blk {X : World} {RB : Nat} {t : TypeId} {cs : Array Value} (V : Array Value) (h : Blk X RB t cs) (hc : cs.size = 5) (hV : V.size = 5) : Blk (jsets X RB V) RB t V := by
  have hb2 := h.sets (fun i => V.getD i undef) (List.range 5)
  rw [sets_eq _ _ 5 hc hV] at hb2
  exact hb2

set_option maxRecDepth 100000 in
set_option maxHeartbeats 16000000 in
theorem number_any (w : World) (p k : Nat) (s : ByteArray) (h : Rd w p s k) (hv : JVars p w) :
    Calls Tryd.prog 32 #[.pointer (some ⟨p, 0, none⟩)] w (RP w p s (jnumber (rst s k)) fun v _ u => u = .agg (JN.mk 3 v ⟨#[]⟩ none 0 [] none 0 []).cells) := by
  have hs := h.small
  have hpw := h.blk.lt
  have H0 := hide (h.mod ((Mod.refl [] w).alloc (.cells #[.int .i64 0, .int .i64 0, .string ⟨#[]⟩, .slice none 0 0, .slice none 0 0] 25)) (by simp))
  have HM0 := hide ((Mod.refl [p] w).alloc (.cells #[.int .i64 0, .int .i64 0, .string ⟨#[]⟩, .slice none 0 0, .slice none 0 0] 25))
  have HJ0 := hide (hv.mod ((Mod.refl [] w).alloc (.cells #[.int .i64 0, .int .i64 0, .string ⟨#[]⟩, .slice none 0 0, .slice none 0 0] 25)) (by omega) (by simp))
  have HRB0 := hide (Blk.new w 25 #[.int .i64 0, .int .i64 0, .string ⟨#[]⟩, .slice none 0 0, .slice none 0 0])
  have HNx := hide (next_mod _ p k s H0.out)
  have HD0 := hide (fun w' k' (h' : Rd w' p s k') => by
    have := take_any w' p k' s d0S h'
    rw [d0S_in] at this
    exact this)
  have HD1 := hide (fun w' k' (h' : Rd w' p s k') => by
    have := take_any w' p k' s d1S h'
    rw [d1S_in] at this
    exact this)
  unfold d0S at HD0
  unfold d1S at HD1
  have hle := h.le
  have a1 : IntKind.i64.wrap ((k : Int) + 1) = (k : Int) + 1 := IntWalk.i64_in _ (by omega)
  obtain ⟨RB, hRB⟩ : ∃ RB, w.heap.size = RB := ⟨_, rfl⟩
  have HRp : Hid (RB ∉ [p]) := hide (by simp; omega)
  have HRw : Hid (w.heap.size ≤ RB) := hide (by omega)
  rw [hRB] at HRB0
  have hpr : ¬ p = RB := by omega
  have hrp : ¬ RB = p := by omega
  have y0 : (w.alloc (.cells #[.int .i64 0, .int .i64 0, .string ⟨#[]⟩, .slice none 0 0, .slice none 0 0] 25)).cell? ⟨p, 0, none⟩ = some (.string s) := H0.out.blk.cell 0
  have y1 : (w.alloc (.cells #[.int .i64 0, .int .i64 0, .string ⟨#[]⟩, .slice none 0 0, .slice none 0 0] 25)).cell? ⟨p, 1, none⟩ = some (.int .i64 (k : Nat)) := H0.out.blk.cell 1
  have u1 : (w.alloc (.cells #[.int .i64 0, .int .i64 0, .string ⟨#[]⟩, .slice none 0 0, .slice none 0 0] 25)).frozen? ⟨p, 1, none⟩ = false := H0.out.blk.frozen 1
  have lp := H0.out.blk.lt
  clear h hv
  go_enter Tryd.func32, Tryd.ntmps32
  go_wp2_with fail
  refine HNx.out.mono ?_
  rintro e w1 ⟨rfl, m1, hr1⟩
  have HMa := hide (HM0.out.trans m1 (by simp))
  have HRBa := hide (m1.blk HRB0.out (by simp))
  have HJa := hide (HJ0.out.mod m1 (by have := H0.out.blk.lt; omega) (by simp))
  have Ha := hide hr1
  clear m1 hr1 y0 y1 u1 lp hRB
  have y0 : w1.cell? ⟨p, 0, none⟩ = some (.string s) := Ha.out.blk.cell 0
  have y1 : w1.cell? ⟨p, 1, none⟩ = some (.int .i64 (k : Nat)) := Ha.out.blk.cell 1
  have u1 : w1.frozen? ⟨p, 1, none⟩ = false := Ha.out.blk.frozen 1
  have lp := Ha.out.blk.lt
  by_cases hneg : (rst s k).head? = some 45
  · obtain ⟨t, ht⟩ : ∃ t, rst s k = 45 :: t := by
      cases hq : rst s k with
      | nil => rw [hq] at hneg; cases hneg
      | cons c t => rw [hq] at hneg; cases hneg; exact ⟨t, rfl⟩
    obtain ⟨hk, hkc, hkt⟩ := rst_cons ht
    have HSg : Hid (jsig (rst s k) = (jdig true (rst s (k + 1))).bind fun d r => .ok (true, d) r) := hide (by rw [ht, hkt]; rfl)
    have HPre : Hid (rst s k = [45] ++ rst s (k + 1)) := hide (by rw [ht, hkt]; rfl)
    have HK := hide hk
    have HTk := HD1
    rw [hneg]
    have e0 : (((some (45 : UInt8)).getD 0).toNat : Int) = 45 := rfl
    rw [e0]
    clear hneg ht hkc hkt hk
    go_wp2_with fail
    have H1 := hide (Ha.out.step HK.out)
    have m2 : Mod [p] w1 (w1.setCell ⟨p, 1, none⟩ (.int .i64 ((k : Int) + 1))) := (Mod.refl [p] w1).setCell (.inl (by simp)) _
    have HM1 := hide (HMa.out.trans m2 (by simp))
    have HRB1 := hide (m2.blk HRBa.out HRp.out)
    have HJ1 := hide (HJa.out.mod m2 (by omega) (by simp))
    clear m2 y0 y1 u1 lp HMa HRBa HJa Ha HM0 HRB0 HJ0 H0 HNx
    refine (HTk.out _ _ H1.out).mono ?_
    rintro e w3 ⟨m3, hp⟩
    have HM3 := hide (HM1.out.trans m3 (by simp))
    have HRB3 := hide (m3.blk HRB1.out HRp.out)
    have HJ3 := hide (HJ1.out.mod m3 (by have := H1.out.blk.lt; omega) (by simp))
    cases hx : jtake (fun c => isDi c && (!true || c != 48)) (rst s (k + 1)) with
    | er r =>
      rw [hx] at hp
      obtain ⟨k2, rfl, h1, h2⟩ := hp
      have HE : Hid (jnumber (rst s k) = .er r) := hide (by unfold jnumber; rw [HSg.out]; unfold jdig; rw [hx]; rfl)
      clear m3 hx
      go_wp2_with fail
      rename_i heq
      cases heq
      exact ⟨rfl, RP.er HE.out HM3.out h1 h2⟩
    | ok c r =>
      rw [hx] at hp
      obtain ⟨k2, u, rfl, rfl, h1, h2⟩ := hp
      obtain ⟨hrc, hcp⟩ := take_ok hx
      obtain ⟨hk1, hk1c, hk1r⟩ := rst_cons hrc
      have hk2 : k2 = (k + 1) + 1 := by
        have e1 := rst_len s h1.le
        have e2 := rst_len s (show (k + 1) + 1 ≤ s.size by omega)
        rw [h2] at e1
        rw [hk1r] at e2
        have := h1.le
        omega
      subst hk2
      have HPre2 : Hid (rst s k = ([45] ++ [c]) ++ rst s ((k + 1) + 1)) := hide (by rw [HPre.out, hrc, h2]; simp)
      have hdc : isDi c = true := by simp only [Bool.and_eq_true] at hcp; exact hcp.1
      have HDc := hide hdc
      have H3 := hide h1
      have HX3 := hide hx
      have HR3 := hide h2
      clear m3 hx h1 h2 hrc hcp hk1c hk1r hdc
      by_cases h48 : c = 48
      · have g1 : ((c.toNat : Int) != 48) = false := by rw [h48]; rfl
        have g2 : (c.toNat != 48) = false := by rw [h48]; rfl
        obtain ⟨ds, hds⟩ : ∃ ds, [c] = ds := ⟨_, rfl⟩
        have HSig : Hid (jsig (rst s k) = .ok (true, ds) (rst s ((k + 1) + 1))) := hide (by rw [HSg.out]; unfold jdig; rw [HX3.out]; simp only [PR.bind, if_pos h48, hds, HR3.out])
        have HEx : Hid ((s.extract k ((k + 1) + 1)).data.toList = 45 :: ds) := hide (by rw [ext_rst s HPre2.out H3.out.le, ← hds]; rfl)
        have HDs : Hid (ds.all isDi = true ∧ ds ≠ []) := hide (by rw [← hds]; exact ⟨by simp [HDc.out], by simp⟩)
        have HK3 : Hid (k ≤ (k + 1) + 1) := hide (by omega)
        clear hds h48
        obtain ⟨k3, hk3⟩ : ∃ k3, (k + 1) + 1 = k3 := ⟨_, rfl⟩
        rw [hk3] at H3 HSig HEx HK3
        go_wp2_with fail
        have HX := H3
        have HM := HM3
        have HRB := HRB3
        have HJv := HJ3
        clear HM3 HRB3 HJ3 HM1 HRB1 HJ1 H1 HPre HPre2 HX3 HR3 HSg HTk H3 hk3 hk1 g1 g2 HDc
        have HPd : Hid (Lib.parseIntB 64 (45 :: ds) = if -9223372036854775808 ≤ jnumv (true, ds) ∧ jnumv (true, ds) < 9223372036854775808 then .ok (jnumv (true, ds)) else .range) := hide (parse_digits (neg := true) HDs.out.1 HDs.out.2)
        obtain ⟨E, hEx⟩ : ∃ E, s.extract k k3 = E := ⟨_, rfl⟩
        have hEl := HEx.out
        rw [hEx] at hEl
        have HEl := hide hEl
        have hE1 : E.size ≤ 1000000 := by rw [← hEx]; exact Nat.le_trans (ext_size s k k3) hs
        have HE1 := hide hE1
        obtain ⟨iv, hiv⟩ : ∃ iv, jnumv (true, ds) = iv := ⟨_, rfl⟩
        have HIv := hide hiv
        have e3 : (k : Int) ≤ (k3 : Nat) := by have := HK3.out; omega
        have e4 : ((k3 : Nat) : Int) ≤ s.size := by have := HX.out.le; omega
        have HS : Hid ((w3.drew.cell? ⟨p, 0, none⟩ = some (.string s) ∧ w3.drew.cell? ⟨p, 1, none⟩ = some (.int .i64 (k3 : Nat))) ∧ Mod [] w3 w3.drew) := hide ⟨⟨HX.out.blk.cell 0, HX.out.blk.cell 1⟩, (Mod.refl [] w3).drew⟩
        have y0 : w3.cell? ⟨p, 0, none⟩ = some (.string s) := HX.out.blk.cell 0
        have y1 : w3.cell? ⟨p, 1, none⟩ = some (.int .i64 (k3 : Nat)) := HX.out.blk.cell 1
        have u1 : w3.frozen? ⟨p, 1, none⟩ = false := HX.out.blk.frozen 1
        have lp := HX.out.blk.lt
        by_cases hin : -9223372036854775808 ≤ iv ∧ iv < 9223372036854775808
        · have HPk : Hid (∀ w', ((w'.cell? ⟨p, 0, none⟩ = some (.string s) ∧ w'.cell? ⟨p, 1, none⟩ = some (.int .i64 (k3 : Nat))) ∧ Mod [] w3 w') → Calls Tryd.prog 40 #[.string E, .int .i64 10, .int .i64 64] w' fun e w'' => e = .returned (.tuple #[.int .i64 iv, .nilIface]) ∧ ((w''.cell? ⟨p, 0, none⟩ = some (.string s) ∧ w''.cell? ⟨p, 1, none⟩ = some (.int .i64 (k3 : Nat))) ∧ Mod [] w3 w'')) := hide (fun w' hS' =>
            (parse_ok w' E HE1.out iv (by rw [HEl.out, HPd.out, HIv.out, if_pos hin])).mono fun e w'' h => ⟨h.1, (HX.out.keep hS'.2 h.2)⟩)
          have HE : Hid (jnumber (rst s k) = .ok iv (rst s k3)) := hide (by
            unfold jnumber
            rw [HSig.out]
            simp only
            rw [HIv.out, if_pos hin])
          clear hEl hE1 hin hiv
          go_wp2_with fail
          go_region_held3 (fun w' => (w'.cell? ⟨p, 0, none⟩ = some (.string s) ∧ w'.cell? ⟨p, 1, none⟩ = some (.int .i64 (k3 : Nat))) ∧ Mod [] w3 w')
            (first | exact HS.out | assumption)
            (first | (go_at_call 40; refine (HPk.out _ (by assumption)).mono ?_; rintro e w' ⟨rfl, hS'⟩))
          all_goals
            have m4 := hS'.2
            have HM4 := hide (HM.out.trans m4 (by simp))
            have H4 := hide (HX.out.mod m4 (by simp))
            have HRB4 := hide (m4.blk HRB.out (by simp))
            have HV := hide (jsets_blk (JN.mk 3 iv ⟨#[]⟩ none 0 [] none 0 []).cells HRB4.out rfl rfl)
            clear m4 hS' y0 y1 u1 lp
            have z0 : w'.cell? ⟨RB, 0, none⟩ = some (.int .i64 0) := HRB4.out.cell 0
            have r0 : w'.frozen? ⟨RB, 0, none⟩ = false := HRB4.out.frozen 0
            have z1 : w'.cell? ⟨RB, 1, none⟩ = some (.int .i64 0) := HRB4.out.cell 1
            have r1 : w'.frozen? ⟨RB, 1, none⟩ = false := HRB4.out.frozen 1
            have z2 : w'.cell? ⟨RB, 2, none⟩ = some (.string ⟨#[]⟩) := HRB4.out.cell 2
            have r2 : w'.frozen? ⟨RB, 2, none⟩ = false := HRB4.out.frozen 2
            have z3 : w'.cell? ⟨RB, 3, none⟩ = some (.slice none 0 0) := HRB4.out.cell 3
            have r3 : w'.frozen? ⟨RB, 3, none⟩ = false := HRB4.out.frozen 3
            have z4 : w'.cell? ⟨RB, 4, none⟩ = some (.slice none 0 0) := HRB4.out.cell 4
            have r4 : w'.frozen? ⟨RB, 4, none⟩ = false := HRB4.out.frozen 4
            have lR := HRB4.out.lt
            go_wp2_with fail
            have m5 := jsets_mod w' RB (JN.mk 3 iv ⟨#[]⟩ none 0 [] none 0 []).cells
            refine bodyPost_ret (results_cell_row rfl _ _ RB 25 (JN.mk 3 iv ⟨#[]⟩ none 0 [] none 0 []).cells (0, 0) _ rfl ?_ Tryd.underlying25 rfl (by kernel_rfl)) rfl ?_
            · exact HV.out
            exact RP.ok HE.out (HM4.out.trans m5 (by simp only [List.mem_singleton]; rintro _ rfl; exact .inr HRw.out)) rfl (H4.out.mod m5 (by simp only [List.mem_singleton]; exact hpr)) rfl
        · have HPk : Hid (∀ w', ((w'.cell? ⟨p, 0, none⟩ = some (.string s) ∧ w'.cell? ⟨p, 1, none⟩ = some (.int .i64 (k3 : Nat))) ∧ Mod [] w3 w') → Calls Tryd.prog 40 #[.string E, .int .i64 10, .int .i64 64] w' fun e w'' => ∃ N, e = .returned (.tuple #[.int .i64 (Lib.intSat 64 E.data.toList), .iface 96 (.pointer (some ⟨N, 0, none⟩))]) ∧ ((w''.cell? ⟨p, 0, none⟩ = some (.string s) ∧ w''.cell? ⟨p, 1, none⟩ = some (.int .i64 (k3 : Nat))) ∧ Mod [] w3 w'')) := hide (fun w' hS' =>
            (parse_range w' E HE1.out (by rw [HEl.out, HPd.out, HIv.out, if_neg hin]) (HJv.out w' (hS'.2.below (by have := HX.out.blk.lt; omega) (by simp))).2).mono fun e w'' h => by
              obtain ⟨N, h1, h2⟩ := h
              exact ⟨N, h1, HX.out.keep hS'.2 h2⟩)
          have HE : Hid (jnumber (rst s k) = .er (rst s k)) := hide (by
            unfold jnumber
            rw [HSig.out]
            simp only
            rw [HIv.out, if_neg hin])
          clear hEl hE1 hin hiv
          go_wp2_with fail
          obtain ⟨sat, hsat⟩ : ∃ v, Lib.intSat 64 E.data.toList = v := ⟨_, rfl⟩
          rw [hsat] at HPk
          clear hsat
          go_region_held3 (fun w' => (w'.cell? ⟨p, 0, none⟩ = some (.string s) ∧ w'.cell? ⟨p, 1, none⟩ = some (.int .i64 (k3 : Nat))) ∧ Mod [] w3 w')
            (first | exact HS.out | assumption)
            (first | (go_at_call 40; refine (HPk.out _ (by assumption)).mono ?_; rintro e w' ⟨N, rfl, hS'⟩))
          all_goals
            have m4 := hS'.2
            have HM4 := hide (HM.out.trans m4 (by simp))
            have H4 := hide (HX.out.mod m4 (by simp))
            clear m4 hS' y0 y1 u1 lp
            have y0 : w'.cell? ⟨p, 0, none⟩ = some (.string s) := H4.out.blk.cell 0
            have y1 : w'.cell? ⟨p, 1, none⟩ = some (.int .i64 (k3 : Nat)) := H4.out.blk.cell 1
            have u1 : w'.frozen? ⟨p, 1, none⟩ = false := H4.out.blk.frozen 1
            have lp := H4.out.blk.lt
            go_wp2_with fail
            have hf : Rd (w'.setCell ⟨p, 1, none⟩ (.int .i64 (k : Nat))) p s k := ⟨H4.out.blk.set_ 1 (.int .i64 (k : Nat)), hle, hs⟩
            refine (fail_any _ p k s hf).mono ?_
            rintro e w5 ⟨rfl, rfl⟩
            go_wp2_with fail
            rename_i heq
            cases heq
            exact ⟨rfl, RP.er HE.out (HM4.out.setCell (p := ⟨p, 1, none⟩) (.inl (by simp)) _) hle rfl⟩
      · have g1 : ((c.toNat : Int) != 48) = true := by
          rw [bne_iff_ne]
          intro e
          exact h48 (UInt8.toNat_inj.1 (by show c.toNat = 48; omega))
        have g2 : (c.toNat != 48) = true := by
          rw [bne_iff_ne]
          intro e
          exact h48 (UInt8.toNat_inj.1 (by show c.toNat = 48; omega))
        have HSg2 : Hid (jsig (rst s k) = .ok (true, c :: (rst s ((k + 1) + 1)).takeWhile isDi) ((rst s ((k + 1) + 1)).dropWhile isDi)) := hide (by rw [HSg.out]; unfold jdig; rw [HX3.out]; simp only [PR.bind, if_neg h48, HR3.out])
        have HKq : Hid (k ≤ (k + 1) + 1) := hide (by omega)
        obtain ⟨kq, hkq⟩ : ∃ kq, (k + 1) + 1 = kq := ⟨_, rfl⟩
        rw [hkq] at H3 HSg2 HPre2 HKq
        clear h48 HX3 HR3 HSg HPre hkq hk1
        go_wp2_with fail
        clear g1 g2 HTk HM1 HRB1 HJ1 H1
        go_loopw [] (fun wr => ∃ j : Nat, kq ≤ j ∧ j ≤ s.size ∧ Hid (Mod [p] w wr) ∧ Hid (Rd wr p s j) ∧ Hid (Blk wr RB 25 #[.int .i64 0, .int .i64 0, .string ⟨#[]⟩, .slice none 0 0, .slice none 0 0]) ∧ Hid (JVars p wr) ∧ Hid (∃ l : List UInt8, l.all isDi = true ∧ rst s kq = l ++ rst s j)) (fun wr => s.size - atOf p wr)
        case atStart => exact ⟨kq, Nat.le_refl _, H3.out.le, HM3, H3, HRB3, HJ3, hide ⟨[], rfl, rfl⟩⟩
        case round =>
          obtain ⟨j, hjq, hj, hm, hr, hrb, hjv, hdl⟩ := hrel
          have y0 : wr.cell? ⟨p, 0, none⟩ = some (.string s) := hr.out.blk.cell 0
          have y1 : wr.cell? ⟨p, 1, none⟩ = some (.int .i64 (j : Nat)) := hr.out.blk.cell 1
          have u1 : wr.frozen? ⟨p, 1, none⟩ = false := hr.out.blk.frozen 1
          have lp := hr.out.blk.lt
          have HA : Hid (atOf p wr = j) := hide (by unfold atOf; rw [y1]; rfl)
          cases hq : rst s j with
          | nil =>
            have hk := rst_nil hq hj
            have g1 : decide ((j : Int) < s.size) = false := decide_eq_false (by omega)
            have g2 : decide (j < s.size) = false := decide_eq_false (by omega)
            have hnd : (rst s j).head?.any isDi = false := by rw [hq]; rfl
            clear hq hk
            have HNd := hide hnd
            go_wp2_with fail
            go_quiet (fail)
            clear hnd y0 y1 u1 lp
            have m4 := (Mod.refl [] wr).drewN nq
            obtain ⟨X, hX⟩ : ∃ X, wr.drewN nq = X := ⟨_, rfl⟩
            rw [hX] at m4
            rw [hX]
            have HX := hide (hr.out.mod m4 (by simp))
            have HM := hide (hm.out.trans m4 (by simp))
            have HRB := hide (m4.blk hrb.out (by simp))
            have HJv := hide (hjv.out.mod m4 (by have := hr.out.blk.lt; omega) (by simp))
            obtain ⟨l, l1, l2⟩ := hdl.out
            obtain ⟨q1, q2⟩ := dw_app isDi l (rst s j) l1 HNd.out
            obtain ⟨ds, hds⟩ : ∃ ds, c :: l = ds := ⟨_, rfl⟩
            have HSig : Hid (jsig (rst s k) = .ok (true, ds) (rst s j)) := hide (by rw [HSg2.out, l2, q1, q2, hds])
            have HEx : Hid ((s.extract k j).data.toList = 45 :: ds) := hide (by rw [ext_rst s (j := j) (l := [45] ++ [c] ++ l) (by rw [HPre2.out, l2]; simp) hj, ← hds]; rfl)
            have HDs : Hid (ds.all isDi = true ∧ ds ≠ []) := hide (by rw [← hds]; exact ⟨by simp only [List.all_cons, HDc.out, l1, Bool.and_self], by simp⟩)
            have HK3 : Hid (k ≤ j) := hide (by have := HKq.out; omega)
            clear m4 hX l1 l2 q1 q2 hds HA hdl hm hr hrb hjv g1 g2
            have HPd : Hid (Lib.parseIntB 64 (45 :: ds) = if -9223372036854775808 ≤ jnumv (true, ds) ∧ jnumv (true, ds) < 9223372036854775808 then .ok (jnumv (true, ds)) else .range) := hide (parse_digits (neg := true) HDs.out.1 HDs.out.2)
            obtain ⟨E, hEx⟩ : ∃ E, s.extract k j = E := ⟨_, rfl⟩
            have hEl := HEx.out
            rw [hEx] at hEl
            have HEl := hide hEl
            have hE1 : E.size ≤ 1000000 := by rw [← hEx]; exact Nat.le_trans (ext_size s k j) hs
            have HE1 := hide hE1
            obtain ⟨iv, hiv⟩ : ∃ iv, jnumv (true, ds) = iv := ⟨_, rfl⟩
            have HIv := hide hiv
            have e3 : (k : Int) ≤ (j : Nat) := by have := HK3.out; omega
            have e4 : ((j : Nat) : Int) ≤ s.size := by have := HX.out.le; omega
            have HS : Hid ((X.drew.cell? ⟨p, 0, none⟩ = some (.string s) ∧ X.drew.cell? ⟨p, 1, none⟩ = some (.int .i64 (j : Nat))) ∧ Mod [] X X.drew) := hide ⟨⟨HX.out.blk.cell 0, HX.out.blk.cell 1⟩, (Mod.refl [] X).drew⟩
            have y0 : X.cell? ⟨p, 0, none⟩ = some (.string s) := HX.out.blk.cell 0
            have y1 : X.cell? ⟨p, 1, none⟩ = some (.int .i64 (j : Nat)) := HX.out.blk.cell 1
            have u1 : X.frozen? ⟨p, 1, none⟩ = false := HX.out.blk.frozen 1
            have lp := HX.out.blk.lt
            by_cases hin : -9223372036854775808 ≤ iv ∧ iv < 9223372036854775808
            · have HPk : Hid (∀ w', ((w'.cell? ⟨p, 0, none⟩ = some (.string s) ∧ w'.cell? ⟨p, 1, none⟩ = some (.int .i64 (j : Nat))) ∧ Mod [] X w') → Calls Tryd.prog 40 #[.string E, .int .i64 10, .int .i64 64] w' fun e w'' => e = .returned (.tuple #[.int .i64 iv, .nilIface]) ∧ ((w''.cell? ⟨p, 0, none⟩ = some (.string s) ∧ w''.cell? ⟨p, 1, none⟩ = some (.int .i64 (j : Nat))) ∧ Mod [] X w'')) := hide (fun w' hS' =>
                (parse_ok w' E HE1.out iv (by rw [HEl.out, HPd.out, HIv.out, if_pos hin])).mono fun e w'' h => ⟨h.1, (HX.out.keep hS'.2 h.2)⟩)
              have HE : Hid (jnumber (rst s k) = .ok iv (rst s j)) := hide (by
                unfold jnumber
                rw [HSig.out]
                simp only
                rw [HIv.out, if_pos hin])
              clear hEl hE1 hin hiv
              go_wp2_with fail
              go_region_held3 (fun w' => (w'.cell? ⟨p, 0, none⟩ = some (.string s) ∧ w'.cell? ⟨p, 1, none⟩ = some (.int .i64 (j : Nat))) ∧ Mod [] X w')
                (first | exact HS.out | assumption)
                (first | (go_at_call 40; refine (HPk.out _ (by assumption)).mono ?_; rintro e w' ⟨rfl, hS'⟩))
              all_goals
                have m4 := hS'.2
                have HM4 := hide (HM.out.trans m4 (by simp))
                have H4 := hide (HX.out.mod m4 (by simp))
                have HRB4 := hide (m4.blk HRB.out (by simp))
                have HV := hide (jsets_blk (JN.mk 3 iv ⟨#[]⟩ none 0 [] none 0 []).cells HRB4.out rfl rfl)
                clear m4 hS' y0 y1 u1 lp
                have z0 : w'.cell? ⟨RB, 0, none⟩ = some (.int .i64 0) := HRB4.out.cell 0
                have r0 : w'.frozen? ⟨RB, 0, none⟩ = false := HRB4.out.frozen 0
                have z1 : w'.cell? ⟨RB, 1, none⟩ = some (.int .i64 0) := HRB4.out.cell 1
                have r1 : w'.frozen? ⟨RB, 1, none⟩ = false := HRB4.out.frozen 1
                have z2 : w'.cell? ⟨RB, 2, none⟩ = some (.string ⟨#[]⟩) := HRB4.out.cell 2
                have r2 : w'.frozen? ⟨RB, 2, none⟩ = false := HRB4.out.frozen 2
                have z3 : w'.cell? ⟨RB, 3, none⟩ = some (.slice none 0 0) := HRB4.out.cell 3
                have r3 : w'.frozen? ⟨RB, 3, none⟩ = false := HRB4.out.frozen 3
                have z4 : w'.cell? ⟨RB, 4, none⟩ = some (.slice none 0 0) := HRB4.out.cell 4
                have r4 : w'.frozen? ⟨RB, 4, none⟩ = false := HRB4.out.frozen 4
                have lR := HRB4.out.lt
                go_wp2_with fail
                have m5 := jsets_mod w' RB (JN.mk 3 iv ⟨#[]⟩ none 0 [] none 0 []).cells
                refine bodyPost_ret (results_cell_row rfl _ _ RB 25 (JN.mk 3 iv ⟨#[]⟩ none 0 [] none 0 []).cells (0, 0) _ rfl ?_ Tryd.underlying25 rfl (by kernel_rfl)) rfl ?_
                · exact HV.out
                exact RP.ok HE.out (HM4.out.trans m5 (by simp only [List.mem_singleton]; rintro _ rfl; exact .inr HRw.out)) rfl (H4.out.mod m5 (by simp only [List.mem_singleton]; exact hpr)) rfl
            · have HPk : Hid (∀ w', ((w'.cell? ⟨p, 0, none⟩ = some (.string s) ∧ w'.cell? ⟨p, 1, none⟩ = some (.int .i64 (j : Nat))) ∧ Mod [] X w') → Calls Tryd.prog 40 #[.string E, .int .i64 10, .int .i64 64] w' fun e w'' => ∃ N, e = .returned (.tuple #[.int .i64 (Lib.intSat 64 E.data.toList), .iface 96 (.pointer (some ⟨N, 0, none⟩))]) ∧ ((w''.cell? ⟨p, 0, none⟩ = some (.string s) ∧ w''.cell? ⟨p, 1, none⟩ = some (.int .i64 (j : Nat))) ∧ Mod [] X w'')) := hide (fun w' hS' =>
                (parse_range w' E HE1.out (by rw [HEl.out, HPd.out, HIv.out, if_neg hin]) (HJv.out w' (hS'.2.below (by have := HX.out.blk.lt; omega) (by simp))).2).mono fun e w'' h => by
                  obtain ⟨N, h1, h2⟩ := h
                  exact ⟨N, h1, HX.out.keep hS'.2 h2⟩)
              have HE : Hid (jnumber (rst s k) = .er (rst s k)) := hide (by
                unfold jnumber
                rw [HSig.out]
                simp only
                rw [HIv.out, if_neg hin])
              clear hEl hE1 hin hiv
              go_wp2_with fail
              obtain ⟨sat, hsat⟩ : ∃ v, Lib.intSat 64 E.data.toList = v := ⟨_, rfl⟩
              rw [hsat] at HPk
              clear hsat
              go_region_held3 (fun w' => (w'.cell? ⟨p, 0, none⟩ = some (.string s) ∧ w'.cell? ⟨p, 1, none⟩ = some (.int .i64 (j : Nat))) ∧ Mod [] X w')
                (first | exact HS.out | assumption)
                (first | (go_at_call 40; refine (HPk.out _ (by assumption)).mono ?_; rintro e w' ⟨N, rfl, hS'⟩))
              all_goals
                have m4 := hS'.2
                have HM4 := hide (HM.out.trans m4 (by simp))
                have H4 := hide (HX.out.mod m4 (by simp))
                clear m4 hS' y0 y1 u1 lp
                have y0 : w'.cell? ⟨p, 0, none⟩ = some (.string s) := H4.out.blk.cell 0
                have y1 : w'.cell? ⟨p, 1, none⟩ = some (.int .i64 (j : Nat)) := H4.out.blk.cell 1
                have u1 : w'.frozen? ⟨p, 1, none⟩ = false := H4.out.blk.frozen 1
                have lp := H4.out.blk.lt
                go_wp2_with fail
                have hf : Rd (w'.setCell ⟨p, 1, none⟩ (.int .i64 (k : Nat))) p s k := ⟨H4.out.blk.set_ 1 (.int .i64 (k : Nat)), hle, hs⟩
                refine (fail_any _ p k s hf).mono ?_
                rintro e w5 ⟨rfl, rfl⟩
                go_wp2_with fail
                rename_i heq
                cases heq
                exact ⟨rfl, RP.er HE.out (HM4.out.setCell (p := ⟨p, 1, none⟩) (.inl (by simp)) _) hle rfl⟩
          | cons c' t =>
            obtain ⟨h1, h2, h3⟩ := rst_cons hq
            have g1 : decide ((j : Int) < s.size) = true := decide_eq_true (by omega)
            have g2 : decide (j < s.size) = true := decide_eq_true h1
            have hji : (j : Int) < s.size := by omega
            have hxc : s[j]'h1 = c' := getElem_list s j _ c' h2
            have a2 : IntKind.i64.wrap ((j : Int) + 1) = (j : Int) + 1 := IntWalk.i64_in _ (by omega)
            have HK := hide h1
            obtain ⟨n, hn⟩ : ∃ n, c'.toNat = n := ⟨_, rfl⟩
            by_cases hd : isDi c' = true
            · obtain ⟨d1, d2⟩ := di_nat hd
              rw [hn] at d1 d2
              have g3 : decide ((48 : Int) ≤ n) = true := decide_eq_true (by omega)
              have g4 : decide (48 ≤ n) = true := decide_eq_true d1
              have g5 : decide ((n : Int) ≤ 57) = true := decide_eq_true (by omega)
              have g6 : decide (n ≤ 57) = true := decide_eq_true d2
              have HD : Hid (∃ l : List UInt8, l.all isDi = true ∧ rst s kq = l ++ rst s (j + 1)) := hide (by
                obtain ⟨l, l1, l2⟩ := hdl.out
                exact ⟨l ++ [c'], by simp only [List.all_append, l1, List.all_cons, List.all_nil, hd, Bool.and_self], by rw [l2, hq, h3]; simp⟩)
              clear hd hq h2 h3 d1 d2 hdl
              go_wp2_with fail
              go_quiet (fail)
              go_wp2_with fail
              have H4 : Rd (wr.drewN nq) p s j := hr.out.mod ((Mod.refl [] wr).drewN nq) (by simp)
              have H5 := H4.step HK.out
              have m5 : Mod [p] wr ((wr.drewN nq).setCell ⟨p, 1, none⟩ (.int .i64 ((j : Int) + 1))) := ((Mod.refl [p] wr).drewN nq).setCell (.inl (by simp)) _
              refine ⟨?rel, ?measure⟩
              case rel => exact ⟨j + 1, by omega, by omega, hide (hm.out.trans m5 (by simp)), hide H5, hide (m5.blk hrb.out HRp.out), hide (hjv.out.mod m5 (by omega) (by simp)), HD⟩
              case measure =>
                have e : atOf p ((wr.drewN nq).setCell ⟨p, 1, none⟩ (.int .i64 ((j : Int) + 1))) = j + 1 := by
                  unfold atOf
                  rw [H5.blk.cell 1]
                  rfl
                rw [HA.out, e]
                omega
            · have hnd : (rst s j).head?.any isDi = false := by rw [hq]; simpa using hd
              have hor : n < 48 ∨ 57 < n := by
                unfold isDi at hd
                simp only [Bool.and_eq_true, decide_eq_true_eq, UInt8.le_iff_toNat_le, not_and] at hd
                have h48 : (48 : UInt8).toNat = 48 := rfl
                have h57 : (57 : UInt8).toNat = 57 := rfl
                rw [h48, h57, hn] at hd
                omega
              clear hd hq h2 h3
              by_cases h48 : n < 48
              · have g3 : decide ((48 : Int) ≤ n) = false := decide_eq_false (by omega)
                have g4 : decide (48 ≤ n) = false := decide_eq_false (by omega)
                clear hor h48
                have HNd := hide hnd
                go_wp2_with fail
                go_quiet (fail)
                clear hnd y0 y1 u1 lp
                have m4 := (Mod.refl [] wr).drewN nq
                obtain ⟨X, hX⟩ : ∃ X, wr.drewN nq = X := ⟨_, rfl⟩
                rw [hX] at m4
                rw [hX]
                have HX := hide (hr.out.mod m4 (by simp))
                have HM := hide (hm.out.trans m4 (by simp))
                have HRB := hide (m4.blk hrb.out (by simp))
                have HJv := hide (hjv.out.mod m4 (by have := hr.out.blk.lt; omega) (by simp))
                obtain ⟨l, l1, l2⟩ := hdl.out
                obtain ⟨q1, q2⟩ := dw_app isDi l (rst s j) l1 HNd.out
                obtain ⟨ds, hds⟩ : ∃ ds, c :: l = ds := ⟨_, rfl⟩
                have HSig : Hid (jsig (rst s k) = .ok (true, ds) (rst s j)) := hide (by rw [HSg2.out, l2, q1, q2, hds])
                have HEx : Hid ((s.extract k j).data.toList = 45 :: ds) := hide (by rw [ext_rst s (j := j) (l := [45] ++ [c] ++ l) (by rw [HPre2.out, l2]; simp) hj, ← hds]; rfl)
                have HDs : Hid (ds.all isDi = true ∧ ds ≠ []) := hide (by rw [← hds]; exact ⟨by simp only [List.all_cons, HDc.out, l1, Bool.and_self], by simp⟩)
                have HK3 : Hid (k ≤ j) := hide (by have := HKq.out; omega)
                clear m4 hX l1 l2 q1 q2 hds HA hdl hm hr hrb hjv g1 g2
                have HPd : Hid (Lib.parseIntB 64 (45 :: ds) = if -9223372036854775808 ≤ jnumv (true, ds) ∧ jnumv (true, ds) < 9223372036854775808 then .ok (jnumv (true, ds)) else .range) := hide (parse_digits (neg := true) HDs.out.1 HDs.out.2)
                obtain ⟨E, hEx⟩ : ∃ E, s.extract k j = E := ⟨_, rfl⟩
                have hEl := HEx.out
                rw [hEx] at hEl
                have HEl := hide hEl
                have hE1 : E.size ≤ 1000000 := by rw [← hEx]; exact Nat.le_trans (ext_size s k j) hs
                have HE1 := hide hE1
                obtain ⟨iv, hiv⟩ : ∃ iv, jnumv (true, ds) = iv := ⟨_, rfl⟩
                have HIv := hide hiv
                have e3 : (k : Int) ≤ (j : Nat) := by have := HK3.out; omega
                have e4 : ((j : Nat) : Int) ≤ s.size := by have := HX.out.le; omega
                have HS : Hid ((X.drew.cell? ⟨p, 0, none⟩ = some (.string s) ∧ X.drew.cell? ⟨p, 1, none⟩ = some (.int .i64 (j : Nat))) ∧ Mod [] X X.drew) := hide ⟨⟨HX.out.blk.cell 0, HX.out.blk.cell 1⟩, (Mod.refl [] X).drew⟩
                have y0 : X.cell? ⟨p, 0, none⟩ = some (.string s) := HX.out.blk.cell 0
                have y1 : X.cell? ⟨p, 1, none⟩ = some (.int .i64 (j : Nat)) := HX.out.blk.cell 1
                have u1 : X.frozen? ⟨p, 1, none⟩ = false := HX.out.blk.frozen 1
                have lp := HX.out.blk.lt
                by_cases hin : -9223372036854775808 ≤ iv ∧ iv < 9223372036854775808
                · have HPk : Hid (∀ w', ((w'.cell? ⟨p, 0, none⟩ = some (.string s) ∧ w'.cell? ⟨p, 1, none⟩ = some (.int .i64 (j : Nat))) ∧ Mod [] X w') → Calls Tryd.prog 40 #[.string E, .int .i64 10, .int .i64 64] w' fun e w'' => e = .returned (.tuple #[.int .i64 iv, .nilIface]) ∧ ((w''.cell? ⟨p, 0, none⟩ = some (.string s) ∧ w''.cell? ⟨p, 1, none⟩ = some (.int .i64 (j : Nat))) ∧ Mod [] X w'')) := hide (fun w' hS' =>
                    (parse_ok w' E HE1.out iv (by rw [HEl.out, HPd.out, HIv.out, if_pos hin])).mono fun e w'' h => ⟨h.1, (HX.out.keep hS'.2 h.2)⟩)
                  have HE : Hid (jnumber (rst s k) = .ok iv (rst s j)) := hide (by
                    unfold jnumber
                    rw [HSig.out]
                    simp only
                    rw [HIv.out, if_pos hin])
                  clear hEl hE1 hin hiv
                  go_wp2_with fail
                  go_region_held3 (fun w' => (w'.cell? ⟨p, 0, none⟩ = some (.string s) ∧ w'.cell? ⟨p, 1, none⟩ = some (.int .i64 (j : Nat))) ∧ Mod [] X w')
                    (first | exact HS.out | assumption)
                    (first | (go_at_call 40; refine (HPk.out _ (by assumption)).mono ?_; rintro e w' ⟨rfl, hS'⟩))
                  all_goals
                    have m4 := hS'.2
                    have HM4 := hide (HM.out.trans m4 (by simp))
                    have H4 := hide (HX.out.mod m4 (by simp))
                    have HRB4 := hide (m4.blk HRB.out (by simp))
                    have HV := hide (jsets_blk (JN.mk 3 iv ⟨#[]⟩ none 0 [] none 0 []).cells HRB4.out rfl rfl)
                    clear m4 hS' y0 y1 u1 lp
                    have z0 : w'.cell? ⟨RB, 0, none⟩ = some (.int .i64 0) := HRB4.out.cell 0
                    have r0 : w'.frozen? ⟨RB, 0, none⟩ = false := HRB4.out.frozen 0
                    have z1 : w'.cell? ⟨RB, 1, none⟩ = some (.int .i64 0) := HRB4.out.cell 1
                    have r1 : w'.frozen? ⟨RB, 1, none⟩ = false := HRB4.out.frozen 1
                    have z2 : w'.cell? ⟨RB, 2, none⟩ = some (.string ⟨#[]⟩) := HRB4.out.cell 2
                    have r2 : w'.frozen? ⟨RB, 2, none⟩ = false := HRB4.out.frozen 2
                    have z3 : w'.cell? ⟨RB, 3, none⟩ = some (.slice none 0 0) := HRB4.out.cell 3
                    have r3 : w'.frozen? ⟨RB, 3, none⟩ = false := HRB4.out.frozen 3
                    have z4 : w'.cell? ⟨RB, 4, none⟩ = some (.slice none 0 0) := HRB4.out.cell 4
                    have r4 : w'.frozen? ⟨RB, 4, none⟩ = false := HRB4.out.frozen 4
                    have lR := HRB4.out.lt
                    go_wp2_with fail
                    have m5 := jsets_mod w' RB (JN.mk 3 iv ⟨#[]⟩ none 0 [] none 0 []).cells
                    refine bodyPost_ret (results_cell_row rfl _ _ RB 25 (JN.mk 3 iv ⟨#[]⟩ none 0 [] none 0 []).cells (0, 0) _ rfl ?_ Tryd.underlying25 rfl (by kernel_rfl)) rfl ?_
                    · exact HV.out
                    exact RP.ok HE.out (HM4.out.trans m5 (by simp only [List.mem_singleton]; rintro _ rfl; exact .inr HRw.out)) rfl (H4.out.mod m5 (by simp only [List.mem_singleton]; exact hpr)) rfl
                · have HPk : Hid (∀ w', ((w'.cell? ⟨p, 0, none⟩ = some (.string s) ∧ w'.cell? ⟨p, 1, none⟩ = some (.int .i64 (j : Nat))) ∧ Mod [] X w') → Calls Tryd.prog 40 #[.string E, .int .i64 10, .int .i64 64] w' fun e w'' => ∃ N, e = .returned (.tuple #[.int .i64 (Lib.intSat 64 E.data.toList), .iface 96 (.pointer (some ⟨N, 0, none⟩))]) ∧ ((w''.cell? ⟨p, 0, none⟩ = some (.string s) ∧ w''.cell? ⟨p, 1, none⟩ = some (.int .i64 (j : Nat))) ∧ Mod [] X w'')) := hide (fun w' hS' =>
                    (parse_range w' E HE1.out (by rw [HEl.out, HPd.out, HIv.out, if_neg hin]) (HJv.out w' (hS'.2.below (by have := HX.out.blk.lt; omega) (by simp))).2).mono fun e w'' h => by
                      obtain ⟨N, h1, h2⟩ := h
                      exact ⟨N, h1, HX.out.keep hS'.2 h2⟩)
                  have HE : Hid (jnumber (rst s k) = .er (rst s k)) := hide (by
                    unfold jnumber
                    rw [HSig.out]
                    simp only
                    rw [HIv.out, if_neg hin])
                  clear hEl hE1 hin hiv
                  go_wp2_with fail
                  obtain ⟨sat, hsat⟩ : ∃ v, Lib.intSat 64 E.data.toList = v := ⟨_, rfl⟩
                  rw [hsat] at HPk
                  clear hsat
                  go_region_held3 (fun w' => (w'.cell? ⟨p, 0, none⟩ = some (.string s) ∧ w'.cell? ⟨p, 1, none⟩ = some (.int .i64 (j : Nat))) ∧ Mod [] X w')
                    (first | exact HS.out | assumption)
                    (first | (go_at_call 40; refine (HPk.out _ (by assumption)).mono ?_; rintro e w' ⟨N, rfl, hS'⟩))
                  all_goals
                    have m4 := hS'.2
                    have HM4 := hide (HM.out.trans m4 (by simp))
                    have H4 := hide (HX.out.mod m4 (by simp))
                    clear m4 hS' y0 y1 u1 lp
                    have y0 : w'.cell? ⟨p, 0, none⟩ = some (.string s) := H4.out.blk.cell 0
                    have y1 : w'.cell? ⟨p, 1, none⟩ = some (.int .i64 (j : Nat)) := H4.out.blk.cell 1
                    have u1 : w'.frozen? ⟨p, 1, none⟩ = false := H4.out.blk.frozen 1
                    have lp := H4.out.blk.lt
                    go_wp2_with fail
                    have hf : Rd (w'.setCell ⟨p, 1, none⟩ (.int .i64 (k : Nat))) p s k := ⟨H4.out.blk.set_ 1 (.int .i64 (k : Nat)), hle, hs⟩
                    refine (fail_any _ p k s hf).mono ?_
                    rintro e w5 ⟨rfl, rfl⟩
                    go_wp2_with fail
                    rename_i heq
                    cases heq
                    exact ⟨rfl, RP.er HE.out (HM4.out.setCell (p := ⟨p, 1, none⟩) (.inl (by simp)) _) hle rfl⟩
              · have g3 : decide ((48 : Int) ≤ n) = true := decide_eq_true (by omega)
                have g4 : decide (48 ≤ n) = true := decide_eq_true (by omega)
                have g5 : decide ((n : Int) ≤ 57) = false := decide_eq_false (by omega)
                have g6 : decide (n ≤ 57) = false := decide_eq_false (by omega)
                clear hor h48
                have HNd := hide hnd
                go_wp2_with fail
                go_quiet (fail)
                clear hnd y0 y1 u1 lp
                have m4 := (Mod.refl [] wr).drewN nq
                obtain ⟨X, hX⟩ : ∃ X, wr.drewN nq = X := ⟨_, rfl⟩
                rw [hX] at m4
                rw [hX]
                have HX := hide (hr.out.mod m4 (by simp))
                have HM := hide (hm.out.trans m4 (by simp))
                have HRB := hide (m4.blk hrb.out (by simp))
                have HJv := hide (hjv.out.mod m4 (by have := hr.out.blk.lt; omega) (by simp))
                obtain ⟨l, l1, l2⟩ := hdl.out
                obtain ⟨q1, q2⟩ := dw_app isDi l (rst s j) l1 HNd.out
                obtain ⟨ds, hds⟩ : ∃ ds, c :: l = ds := ⟨_, rfl⟩
                have HSig : Hid (jsig (rst s k) = .ok (true, ds) (rst s j)) := hide (by rw [HSg2.out, l2, q1, q2, hds])
                have HEx : Hid ((s.extract k j).data.toList = 45 :: ds) := hide (by rw [ext_rst s (j := j) (l := [45] ++ [c] ++ l) (by rw [HPre2.out, l2]; simp) hj, ← hds]; rfl)
                have HDs : Hid (ds.all isDi = true ∧ ds ≠ []) := hide (by rw [← hds]; exact ⟨by simp only [List.all_cons, HDc.out, l1, Bool.and_self], by simp⟩)
                have HK3 : Hid (k ≤ j) := hide (by have := HKq.out; omega)
                clear m4 hX l1 l2 q1 q2 hds HA hdl hm hr hrb hjv g1 g2
                have HPd : Hid (Lib.parseIntB 64 (45 :: ds) = if -9223372036854775808 ≤ jnumv (true, ds) ∧ jnumv (true, ds) < 9223372036854775808 then .ok (jnumv (true, ds)) else .range) := hide (parse_digits (neg := true) HDs.out.1 HDs.out.2)
                obtain ⟨E, hEx⟩ : ∃ E, s.extract k j = E := ⟨_, rfl⟩
                have hEl := HEx.out
                rw [hEx] at hEl
                have HEl := hide hEl
                have hE1 : E.size ≤ 1000000 := by rw [← hEx]; exact Nat.le_trans (ext_size s k j) hs
                have HE1 := hide hE1
                obtain ⟨iv, hiv⟩ : ∃ iv, jnumv (true, ds) = iv := ⟨_, rfl⟩
                have HIv := hide hiv
                have e3 : (k : Int) ≤ (j : Nat) := by have := HK3.out; omega
                have e4 : ((j : Nat) : Int) ≤ s.size := by have := HX.out.le; omega
                have HS : Hid ((X.drew.cell? ⟨p, 0, none⟩ = some (.string s) ∧ X.drew.cell? ⟨p, 1, none⟩ = some (.int .i64 (j : Nat))) ∧ Mod [] X X.drew) := hide ⟨⟨HX.out.blk.cell 0, HX.out.blk.cell 1⟩, (Mod.refl [] X).drew⟩
                have y0 : X.cell? ⟨p, 0, none⟩ = some (.string s) := HX.out.blk.cell 0
                have y1 : X.cell? ⟨p, 1, none⟩ = some (.int .i64 (j : Nat)) := HX.out.blk.cell 1
                have u1 : X.frozen? ⟨p, 1, none⟩ = false := HX.out.blk.frozen 1
                have lp := HX.out.blk.lt
                by_cases hin : -9223372036854775808 ≤ iv ∧ iv < 9223372036854775808
                · have HPk : Hid (∀ w', ((w'.cell? ⟨p, 0, none⟩ = some (.string s) ∧ w'.cell? ⟨p, 1, none⟩ = some (.int .i64 (j : Nat))) ∧ Mod [] X w') → Calls Tryd.prog 40 #[.string E, .int .i64 10, .int .i64 64] w' fun e w'' => e = .returned (.tuple #[.int .i64 iv, .nilIface]) ∧ ((w''.cell? ⟨p, 0, none⟩ = some (.string s) ∧ w''.cell? ⟨p, 1, none⟩ = some (.int .i64 (j : Nat))) ∧ Mod [] X w'')) := hide (fun w' hS' =>
                    (parse_ok w' E HE1.out iv (by rw [HEl.out, HPd.out, HIv.out, if_pos hin])).mono fun e w'' h => ⟨h.1, (HX.out.keep hS'.2 h.2)⟩)
                  have HE : Hid (jnumber (rst s k) = .ok iv (rst s j)) := hide (by
                    unfold jnumber
                    rw [HSig.out]
                    simp only
                    rw [HIv.out, if_pos hin])
                  clear hEl hE1 hin hiv
                  go_wp2_with fail
                  go_region_held3 (fun w' => (w'.cell? ⟨p, 0, none⟩ = some (.string s) ∧ w'.cell? ⟨p, 1, none⟩ = some (.int .i64 (j : Nat))) ∧ Mod [] X w')
                    (first | exact HS.out | assumption)
                    (first | (go_at_call 40; refine (HPk.out _ (by assumption)).mono ?_; rintro e w' ⟨rfl, hS'⟩))
                  all_goals
                    have m4 := hS'.2
                    have HM4 := hide (HM.out.trans m4 (by simp))
                    have H4 := hide (HX.out.mod m4 (by simp))
                    have HRB4 := hide (m4.blk HRB.out (by simp))
                    have HV := hide (jsets_blk (JN.mk 3 iv ⟨#[]⟩ none 0 [] none 0 []).cells HRB4.out rfl rfl)
                    clear m4 hS' y0 y1 u1 lp
                    have z0 : w'.cell? ⟨RB, 0, none⟩ = some (.int .i64 0) := HRB4.out.cell 0
                    have r0 : w'.frozen? ⟨RB, 0, none⟩ = false := HRB4.out.frozen 0
                    have z1 : w'.cell? ⟨RB, 1, none⟩ = some (.int .i64 0) := HRB4.out.cell 1
                    have r1 : w'.frozen? ⟨RB, 1, none⟩ = false := HRB4.out.frozen 1
                    have z2 : w'.cell? ⟨RB, 2, none⟩ = some (.string ⟨#[]⟩) := HRB4.out.cell 2
                    have r2 : w'.frozen? ⟨RB, 2, none⟩ = false := HRB4.out.frozen 2
                    have z3 : w'.cell? ⟨RB, 3, none⟩ = some (.slice none 0 0) := HRB4.out.cell 3
                    have r3 : w'.frozen? ⟨RB, 3, none⟩ = false := HRB4.out.frozen 3
                    have z4 : w'.cell? ⟨RB, 4, none⟩ = some (.slice none 0 0) := HRB4.out.cell 4
                    have r4 : w'.frozen? ⟨RB, 4, none⟩ = false := HRB4.out.frozen 4
                    have lR := HRB4.out.lt
                    go_wp2_with fail
                    have m5 := jsets_mod w' RB (JN.mk 3 iv ⟨#[]⟩ none 0 [] none 0 []).cells
                    refine bodyPost_ret (results_cell_row rfl _ _ RB 25 (JN.mk 3 iv ⟨#[]⟩ none 0 [] none 0 []).cells (0, 0) _ rfl ?_ Tryd.underlying25 rfl (by kernel_rfl)) rfl ?_
                    · exact HV.out
                    exact RP.ok HE.out (HM4.out.trans m5 (by simp only [List.mem_singleton]; rintro _ rfl; exact .inr HRw.out)) rfl (H4.out.mod m5 (by simp only [List.mem_singleton]; exact hpr)) rfl
                · have HPk : Hid (∀ w', ((w'.cell? ⟨p, 0, none⟩ = some (.string s) ∧ w'.cell? ⟨p, 1, none⟩ = some (.int .i64 (j : Nat))) ∧ Mod [] X w') → Calls Tryd.prog 40 #[.string E, .int .i64 10, .int .i64 64] w' fun e w'' => ∃ N, e = .returned (.tuple #[.int .i64 (Lib.intSat 64 E.data.toList), .iface 96 (.pointer (some ⟨N, 0, none⟩))]) ∧ ((w''.cell? ⟨p, 0, none⟩ = some (.string s) ∧ w''.cell? ⟨p, 1, none⟩ = some (.int .i64 (j : Nat))) ∧ Mod [] X w'')) := hide (fun w' hS' =>
                    (parse_range w' E HE1.out (by rw [HEl.out, HPd.out, HIv.out, if_neg hin]) (HJv.out w' (hS'.2.below (by have := HX.out.blk.lt; omega) (by simp))).2).mono fun e w'' h => by
                      obtain ⟨N, h1, h2⟩ := h
                      exact ⟨N, h1, HX.out.keep hS'.2 h2⟩)
                  have HE : Hid (jnumber (rst s k) = .er (rst s k)) := hide (by
                    unfold jnumber
                    rw [HSig.out]
                    simp only
                    rw [HIv.out, if_neg hin])
                  clear hEl hE1 hin hiv
                  go_wp2_with fail
                  obtain ⟨sat, hsat⟩ : ∃ v, Lib.intSat 64 E.data.toList = v := ⟨_, rfl⟩
                  rw [hsat] at HPk
                  clear hsat
                  go_region_held3 (fun w' => (w'.cell? ⟨p, 0, none⟩ = some (.string s) ∧ w'.cell? ⟨p, 1, none⟩ = some (.int .i64 (j : Nat))) ∧ Mod [] X w')
                    (first | exact HS.out | assumption)
                    (first | (go_at_call 40; refine (HPk.out _ (by assumption)).mono ?_; rintro e w' ⟨N, rfl, hS'⟩))
                  all_goals
                    have m4 := hS'.2
                    have HM4 := hide (HM.out.trans m4 (by simp))
                    have H4 := hide (HX.out.mod m4 (by simp))
                    clear m4 hS' y0 y1 u1 lp
                    have y0 : w'.cell? ⟨p, 0, none⟩ = some (.string s) := H4.out.blk.cell 0
                    have y1 : w'.cell? ⟨p, 1, none⟩ = some (.int .i64 (j : Nat)) := H4.out.blk.cell 1
                    have u1 : w'.frozen? ⟨p, 1, none⟩ = false := H4.out.blk.frozen 1
                    have lp := H4.out.blk.lt
                    go_wp2_with fail
                    have hf : Rd (w'.setCell ⟨p, 1, none⟩ (.int .i64 (k : Nat))) p s k := ⟨H4.out.blk.set_ 1 (.int .i64 (k : Nat)), hle, hs⟩
                    refine (fail_any _ p k s hf).mono ?_
                    rintro e w5 ⟨rfl, rfl⟩
                    go_wp2_with fail
                    rename_i heq
                    cases heq
                    exact ⟨rfl, RP.er HE.out (HM4.out.setCell (p := ⟨p, 1, none⟩) (.inl (by simp)) _) hle rfl⟩
  · have HSg : Hid (jsig (rst s k) = (jdig false (rst s k)).bind fun d r => .ok (false, d) r) := hide (by unfold jsig; rw [if_neg hneg])
    have HPre : Hid (rst s k = [] ++ rst s k) := hide rfl
    have HTk := HD0
    have hb : ¬ ((((rst s k).head?.getD 0).toNat : Nat) : Int) = 45 := by
      intro e
      apply hneg
      cases hq : rst s k with
      | nil => rw [hq] at e; simp at e
      | cons c t =>
        rw [hq] at e
        simp only [List.head?_cons, Option.getD_some] at e
        have : c = 45 := UInt8.toNat_inj.1 (by show c.toNat = 45; omega)
        rw [this]; rfl
    obtain ⟨hb0, hhb⟩ : ∃ b : Nat, ((rst s k).head?.getD 0).toNat = b := ⟨_, rfl⟩
    rw [hhb] at hb ⊢
    have g0 : ((hb0 : Int) == 45) = false := by rw [beq_eq_false_iff_ne]; exact hb
    have g0' : (hb0 == 45) = false := by rw [beq_eq_false_iff_ne]; omega
    have H1 := Ha
    have HM1 := HMa
    have HRB1 := HRBa
    have HJ1 := HJa
    clear hneg hb hhb
    go_wp2_with fail
    clear y0 y1 u1 lp HMa HRBa HJa Ha HM0 HRB0 HJ0 H0 HNx g0 g0'
    refine (HTk.out _ _ H1.out).mono ?_
    rintro e w3 ⟨m3, hp⟩
    have HM3 := hide (HM1.out.trans m3 (by simp))
    have HRB3 := hide (m3.blk HRB1.out HRp.out)
    have HJ3 := hide (HJ1.out.mod m3 (by have := H1.out.blk.lt; omega) (by simp))
    cases hx : jtake (fun c => isDi c && (!false || c != 48)) (rst s k) with
    | er r =>
      rw [hx] at hp
      obtain ⟨k2, rfl, h1, h2⟩ := hp
      have HE : Hid (jnumber (rst s k) = .er r) := hide (by unfold jnumber; rw [HSg.out]; unfold jdig; rw [hx]; rfl)
      clear m3 hx
      go_wp2_with fail
      rename_i heq
      cases heq
      exact ⟨rfl, RP.er HE.out HM3.out h1 h2⟩
    | ok c r =>
      rw [hx] at hp
      obtain ⟨k2, u, rfl, rfl, h1, h2⟩ := hp
      obtain ⟨hrc, hcp⟩ := take_ok hx
      obtain ⟨hk1, hk1c, hk1r⟩ := rst_cons hrc
      have hk2 : k2 = k + 1 := by
        have e1 := rst_len s h1.le
        have e2 := rst_len s (show k + 1 ≤ s.size by omega)
        rw [h2] at e1
        rw [hk1r] at e2
        have := h1.le
        omega
      subst hk2
      have HPre2 : Hid (rst s k = ([] ++ [c]) ++ rst s (k + 1)) := hide (by rw [HPre.out, hrc, h2]; simp)
      have hdc : isDi c = true := by simp only [Bool.and_eq_true] at hcp; exact hcp.1
      have HDc := hide hdc
      have H3 := hide h1
      have HX3 := hide hx
      have HR3 := hide h2
      clear m3 hx h1 h2 hrc hcp hk1c hk1r hdc
      by_cases h48 : c = 48
      · have g1 : ((c.toNat : Int) != 48) = false := by rw [h48]; rfl
        have g2 : (c.toNat != 48) = false := by rw [h48]; rfl
        obtain ⟨ds, hds⟩ : ∃ ds, [c] = ds := ⟨_, rfl⟩
        have HSig : Hid (jsig (rst s k) = .ok (false, ds) (rst s (k + 1))) := hide (by rw [HSg.out]; unfold jdig; rw [HX3.out]; simp only [PR.bind, if_pos h48, hds, HR3.out])
        have HEx : Hid ((s.extract k (k + 1)).data.toList = ds) := hide (by rw [ext_rst s HPre2.out H3.out.le, ← hds]; rfl)
        have HDs : Hid (ds.all isDi = true ∧ ds ≠ []) := hide (by rw [← hds]; exact ⟨by simp [HDc.out], by simp⟩)
        have HK3 : Hid (k ≤ k + 1) := hide (by omega)
        clear hds h48
        obtain ⟨k3, hk3⟩ : ∃ k3, k + 1 = k3 := ⟨_, rfl⟩
        rw [hk3] at H3 HSig HEx HK3
        go_wp2_with fail
        have HX := H3
        have HM := HM3
        have HRB := HRB3
        have HJv := HJ3
        clear HM3 HRB3 HJ3 HM1 HRB1 HJ1 H1 HPre HPre2 HX3 HR3 HSg HTk H3 hk3 hk1 g1 g2 HDc
        have HPd : Hid (Lib.parseIntB 64 (ds) = if -9223372036854775808 ≤ jnumv (false, ds) ∧ jnumv (false, ds) < 9223372036854775808 then .ok (jnumv (false, ds)) else .range) := hide (parse_digits (neg := false) HDs.out.1 HDs.out.2)
        obtain ⟨E, hEx⟩ : ∃ E, s.extract k k3 = E := ⟨_, rfl⟩
        have hEl := HEx.out
        rw [hEx] at hEl
        have HEl := hide hEl
        have hE1 : E.size ≤ 1000000 := by rw [← hEx]; exact Nat.le_trans (ext_size s k k3) hs
        have HE1 := hide hE1
        obtain ⟨iv, hiv⟩ : ∃ iv, jnumv (false, ds) = iv := ⟨_, rfl⟩
        have HIv := hide hiv
        have e3 : (k : Int) ≤ (k3 : Nat) := by have := HK3.out; omega
        have e4 : ((k3 : Nat) : Int) ≤ s.size := by have := HX.out.le; omega
        have HS : Hid ((w3.drew.cell? ⟨p, 0, none⟩ = some (.string s) ∧ w3.drew.cell? ⟨p, 1, none⟩ = some (.int .i64 (k3 : Nat))) ∧ Mod [] w3 w3.drew) := hide ⟨⟨HX.out.blk.cell 0, HX.out.blk.cell 1⟩, (Mod.refl [] w3).drew⟩
        have y0 : w3.cell? ⟨p, 0, none⟩ = some (.string s) := HX.out.blk.cell 0
        have y1 : w3.cell? ⟨p, 1, none⟩ = some (.int .i64 (k3 : Nat)) := HX.out.blk.cell 1
        have u1 : w3.frozen? ⟨p, 1, none⟩ = false := HX.out.blk.frozen 1
        have lp := HX.out.blk.lt
        by_cases hin : -9223372036854775808 ≤ iv ∧ iv < 9223372036854775808
        · have HPk : Hid (∀ w', ((w'.cell? ⟨p, 0, none⟩ = some (.string s) ∧ w'.cell? ⟨p, 1, none⟩ = some (.int .i64 (k3 : Nat))) ∧ Mod [] w3 w') → Calls Tryd.prog 40 #[.string E, .int .i64 10, .int .i64 64] w' fun e w'' => e = .returned (.tuple #[.int .i64 iv, .nilIface]) ∧ ((w''.cell? ⟨p, 0, none⟩ = some (.string s) ∧ w''.cell? ⟨p, 1, none⟩ = some (.int .i64 (k3 : Nat))) ∧ Mod [] w3 w'')) := hide (fun w' hS' =>
            (parse_ok w' E HE1.out iv (by rw [HEl.out, HPd.out, HIv.out, if_pos hin])).mono fun e w'' h => ⟨h.1, (HX.out.keep hS'.2 h.2)⟩)
          have HE : Hid (jnumber (rst s k) = .ok iv (rst s k3)) := hide (by
            unfold jnumber
            rw [HSig.out]
            simp only
            rw [HIv.out, if_pos hin])
          clear hEl hE1 hin hiv
          go_wp2_with fail
          go_region_held3 (fun w' => (w'.cell? ⟨p, 0, none⟩ = some (.string s) ∧ w'.cell? ⟨p, 1, none⟩ = some (.int .i64 (k3 : Nat))) ∧ Mod [] w3 w')
            (first | exact HS.out | assumption)
            (first | (go_at_call 40; refine (HPk.out _ (by assumption)).mono ?_; rintro e w' ⟨rfl, hS'⟩))
          all_goals
            have m4 := hS'.2
            have HM4 := hide (HM.out.trans m4 (by simp))
            have H4 := hide (HX.out.mod m4 (by simp))
            have HRB4 := hide (m4.blk HRB.out (by simp))
            have HV := hide (jsets_blk (JN.mk 3 iv ⟨#[]⟩ none 0 [] none 0 []).cells HRB4.out rfl rfl)
            clear m4 hS' y0 y1 u1 lp
            have z0 : w'.cell? ⟨RB, 0, none⟩ = some (.int .i64 0) := HRB4.out.cell 0
            have r0 : w'.frozen? ⟨RB, 0, none⟩ = false := HRB4.out.frozen 0
            have z1 : w'.cell? ⟨RB, 1, none⟩ = some (.int .i64 0) := HRB4.out.cell 1
            have r1 : w'.frozen? ⟨RB, 1, none⟩ = false := HRB4.out.frozen 1
            have z2 : w'.cell? ⟨RB, 2, none⟩ = some (.string ⟨#[]⟩) := HRB4.out.cell 2
            have r2 : w'.frozen? ⟨RB, 2, none⟩ = false := HRB4.out.frozen 2
            have z3 : w'.cell? ⟨RB, 3, none⟩ = some (.slice none 0 0) := HRB4.out.cell 3
            have r3 : w'.frozen? ⟨RB, 3, none⟩ = false := HRB4.out.frozen 3
            have z4 : w'.cell? ⟨RB, 4, none⟩ = some (.slice none 0 0) := HRB4.out.cell 4
            have r4 : w'.frozen? ⟨RB, 4, none⟩ = false := HRB4.out.frozen 4
            have lR := HRB4.out.lt
            go_wp2_with fail
            have m5 := jsets_mod w' RB (JN.mk 3 iv ⟨#[]⟩ none 0 [] none 0 []).cells
            refine bodyPost_ret (results_cell_row rfl _ _ RB 25 (JN.mk 3 iv ⟨#[]⟩ none 0 [] none 0 []).cells (0, 0) _ rfl ?_ Tryd.underlying25 rfl (by kernel_rfl)) rfl ?_
            · exact HV.out
            exact RP.ok HE.out (HM4.out.trans m5 (by simp only [List.mem_singleton]; rintro _ rfl; exact .inr HRw.out)) rfl (H4.out.mod m5 (by simp only [List.mem_singleton]; exact hpr)) rfl
        · have HPk : Hid (∀ w', ((w'.cell? ⟨p, 0, none⟩ = some (.string s) ∧ w'.cell? ⟨p, 1, none⟩ = some (.int .i64 (k3 : Nat))) ∧ Mod [] w3 w') → Calls Tryd.prog 40 #[.string E, .int .i64 10, .int .i64 64] w' fun e w'' => ∃ N, e = .returned (.tuple #[.int .i64 (Lib.intSat 64 E.data.toList), .iface 96 (.pointer (some ⟨N, 0, none⟩))]) ∧ ((w''.cell? ⟨p, 0, none⟩ = some (.string s) ∧ w''.cell? ⟨p, 1, none⟩ = some (.int .i64 (k3 : Nat))) ∧ Mod [] w3 w'')) := hide (fun w' hS' =>
            (parse_range w' E HE1.out (by rw [HEl.out, HPd.out, HIv.out, if_neg hin]) (HJv.out w' (hS'.2.below (by have := HX.out.blk.lt; omega) (by simp))).2).mono fun e w'' h => by
              obtain ⟨N, h1, h2⟩ := h
              exact ⟨N, h1, HX.out.keep hS'.2 h2⟩)
          have HE : Hid (jnumber (rst s k) = .er (rst s k)) := hide (by
            unfold jnumber
            rw [HSig.out]
            simp only
            rw [HIv.out, if_neg hin])
          clear hEl hE1 hin hiv
          go_wp2_with fail
          obtain ⟨sat, hsat⟩ : ∃ v, Lib.intSat 64 E.data.toList = v := ⟨_, rfl⟩
          rw [hsat] at HPk
          clear hsat
          go_region_held3 (fun w' => (w'.cell? ⟨p, 0, none⟩ = some (.string s) ∧ w'.cell? ⟨p, 1, none⟩ = some (.int .i64 (k3 : Nat))) ∧ Mod [] w3 w')
            (first | exact HS.out | assumption)
            (first | (go_at_call 40; refine (HPk.out _ (by assumption)).mono ?_; rintro e w' ⟨N, rfl, hS'⟩))
          all_goals
            have m4 := hS'.2
            have HM4 := hide (HM.out.trans m4 (by simp))
            have H4 := hide (HX.out.mod m4 (by simp))
            clear m4 hS' y0 y1 u1 lp
            have y0 : w'.cell? ⟨p, 0, none⟩ = some (.string s) := H4.out.blk.cell 0
            have y1 : w'.cell? ⟨p, 1, none⟩ = some (.int .i64 (k3 : Nat)) := H4.out.blk.cell 1
            have u1 : w'.frozen? ⟨p, 1, none⟩ = false := H4.out.blk.frozen 1
            have lp := H4.out.blk.lt
            go_wp2_with fail
            have hf : Rd (w'.setCell ⟨p, 1, none⟩ (.int .i64 (k : Nat))) p s k := ⟨H4.out.blk.set_ 1 (.int .i64 (k : Nat)), hle, hs⟩
            refine (fail_any _ p k s hf).mono ?_
            rintro e w5 ⟨rfl, rfl⟩
            go_wp2_with fail
            rename_i heq
            cases heq
            exact ⟨rfl, RP.er HE.out (HM4.out.setCell (p := ⟨p, 1, none⟩) (.inl (by simp)) _) hle rfl⟩
      · have g1 : ((c.toNat : Int) != 48) = true := by
          rw [bne_iff_ne]
          intro e
          exact h48 (UInt8.toNat_inj.1 (by show c.toNat = 48; omega))
        have g2 : (c.toNat != 48) = true := by
          rw [bne_iff_ne]
          intro e
          exact h48 (UInt8.toNat_inj.1 (by show c.toNat = 48; omega))
        have HSg2 : Hid (jsig (rst s k) = .ok (false, c :: (rst s (k + 1)).takeWhile isDi) ((rst s (k + 1)).dropWhile isDi)) := hide (by rw [HSg.out]; unfold jdig; rw [HX3.out]; simp only [PR.bind, if_neg h48, HR3.out])
        have HKq : Hid (k ≤ k + 1) := hide (by omega)
        obtain ⟨kq, hkq⟩ : ∃ kq, k + 1 = kq := ⟨_, rfl⟩
        rw [hkq] at H3 HSg2 HPre2 HKq
        clear h48 HX3 HR3 HSg HPre hkq hk1
        go_wp2_with fail
        clear g1 g2 HTk HM1 HRB1 HJ1 H1
        go_loopw [] (fun wr => ∃ j : Nat, kq ≤ j ∧ j ≤ s.size ∧ Hid (Mod [p] w wr) ∧ Hid (Rd wr p s j) ∧ Hid (Blk wr RB 25 #[.int .i64 0, .int .i64 0, .string ⟨#[]⟩, .slice none 0 0, .slice none 0 0]) ∧ Hid (JVars p wr) ∧ Hid (∃ l : List UInt8, l.all isDi = true ∧ rst s kq = l ++ rst s j)) (fun wr => s.size - atOf p wr)
        case atStart => exact ⟨kq, Nat.le_refl _, H3.out.le, HM3, H3, HRB3, HJ3, hide ⟨[], rfl, rfl⟩⟩
        case round =>
          obtain ⟨j, hjq, hj, hm, hr, hrb, hjv, hdl⟩ := hrel
          have y0 : wr.cell? ⟨p, 0, none⟩ = some (.string s) := hr.out.blk.cell 0
          have y1 : wr.cell? ⟨p, 1, none⟩ = some (.int .i64 (j : Nat)) := hr.out.blk.cell 1
          have u1 : wr.frozen? ⟨p, 1, none⟩ = false := hr.out.blk.frozen 1
          have lp := hr.out.blk.lt
          have HA : Hid (atOf p wr = j) := hide (by unfold atOf; rw [y1]; rfl)
          cases hq : rst s j with
          | nil =>
            have hk := rst_nil hq hj
            have g1 : decide ((j : Int) < s.size) = false := decide_eq_false (by omega)
            have g2 : decide (j < s.size) = false := decide_eq_false (by omega)
            have hnd : (rst s j).head?.any isDi = false := by rw [hq]; rfl
            clear hq hk
            have HNd := hide hnd
            go_wp2_with fail
            go_quiet (fail)
            clear hnd y0 y1 u1 lp
            have m4 := (Mod.refl [] wr).drewN nq
            obtain ⟨X, hX⟩ : ∃ X, wr.drewN nq = X := ⟨_, rfl⟩
            rw [hX] at m4
            rw [hX]
            have HX := hide (hr.out.mod m4 (by simp))
            have HM := hide (hm.out.trans m4 (by simp))
            have HRB := hide (m4.blk hrb.out (by simp))
            have HJv := hide (hjv.out.mod m4 (by have := hr.out.blk.lt; omega) (by simp))
            obtain ⟨l, l1, l2⟩ := hdl.out
            obtain ⟨q1, q2⟩ := dw_app isDi l (rst s j) l1 HNd.out
            obtain ⟨ds, hds⟩ : ∃ ds, c :: l = ds := ⟨_, rfl⟩
            have HSig : Hid (jsig (rst s k) = .ok (false, ds) (rst s j)) := hide (by rw [HSg2.out, l2, q1, q2, hds])
            have HEx : Hid ((s.extract k j).data.toList = ds) := hide (by rw [ext_rst s (j := j) (l := [] ++ [c] ++ l) (by rw [HPre2.out, l2]; simp) hj, ← hds]; rfl)
            have HDs : Hid (ds.all isDi = true ∧ ds ≠ []) := hide (by rw [← hds]; exact ⟨by simp only [List.all_cons, HDc.out, l1, Bool.and_self], by simp⟩)
            have HK3 : Hid (k ≤ j) := hide (by have := HKq.out; omega)
            clear m4 hX l1 l2 q1 q2 hds HA hdl hm hr hrb hjv g1 g2
            have HPd : Hid (Lib.parseIntB 64 (ds) = if -9223372036854775808 ≤ jnumv (false, ds) ∧ jnumv (false, ds) < 9223372036854775808 then .ok (jnumv (false, ds)) else .range) := hide (parse_digits (neg := false) HDs.out.1 HDs.out.2)
            obtain ⟨E, hEx⟩ : ∃ E, s.extract k j = E := ⟨_, rfl⟩
            have hEl := HEx.out
            rw [hEx] at hEl
            have HEl := hide hEl
            have hE1 : E.size ≤ 1000000 := by rw [← hEx]; exact Nat.le_trans (ext_size s k j) hs
            have HE1 := hide hE1
            obtain ⟨iv, hiv⟩ : ∃ iv, jnumv (false, ds) = iv := ⟨_, rfl⟩
            have HIv := hide hiv
            have e3 : (k : Int) ≤ (j : Nat) := by have := HK3.out; omega
            have e4 : ((j : Nat) : Int) ≤ s.size := by have := HX.out.le; omega
            have HS : Hid ((X.drew.cell? ⟨p, 0, none⟩ = some (.string s) ∧ X.drew.cell? ⟨p, 1, none⟩ = some (.int .i64 (j : Nat))) ∧ Mod [] X X.drew) := hide ⟨⟨HX.out.blk.cell 0, HX.out.blk.cell 1⟩, (Mod.refl [] X).drew⟩
            have y0 : X.cell? ⟨p, 0, none⟩ = some (.string s) := HX.out.blk.cell 0
            have y1 : X.cell? ⟨p, 1, none⟩ = some (.int .i64 (j : Nat)) := HX.out.blk.cell 1
            have u1 : X.frozen? ⟨p, 1, none⟩ = false := HX.out.blk.frozen 1
            have lp := HX.out.blk.lt
            by_cases hin : -9223372036854775808 ≤ iv ∧ iv < 9223372036854775808
            · have HPk : Hid (∀ w', ((w'.cell? ⟨p, 0, none⟩ = some (.string s) ∧ w'.cell? ⟨p, 1, none⟩ = some (.int .i64 (j : Nat))) ∧ Mod [] X w') → Calls Tryd.prog 40 #[.string E, .int .i64 10, .int .i64 64] w' fun e w'' => e = .returned (.tuple #[.int .i64 iv, .nilIface]) ∧ ((w''.cell? ⟨p, 0, none⟩ = some (.string s) ∧ w''.cell? ⟨p, 1, none⟩ = some (.int .i64 (j : Nat))) ∧ Mod [] X w'')) := hide (fun w' hS' =>
                (parse_ok w' E HE1.out iv (by rw [HEl.out, HPd.out, HIv.out, if_pos hin])).mono fun e w'' h => ⟨h.1, (HX.out.keep hS'.2 h.2)⟩)
              have HE : Hid (jnumber (rst s k) = .ok iv (rst s j)) := hide (by
                unfold jnumber
                rw [HSig.out]
                simp only
                rw [HIv.out, if_pos hin])
              clear hEl hE1 hin hiv
              go_wp2_with fail
              go_region_held3 (fun w' => (w'.cell? ⟨p, 0, none⟩ = some (.string s) ∧ w'.cell? ⟨p, 1, none⟩ = some (.int .i64 (j : Nat))) ∧ Mod [] X w')
                (first | exact HS.out | assumption)
                (first | (go_at_call 40; refine (HPk.out _ (by assumption)).mono ?_; rintro e w' ⟨rfl, hS'⟩))
              all_goals
                have m4 := hS'.2
                have HM4 := hide (HM.out.trans m4 (by simp))
                have H4 := hide (HX.out.mod m4 (by simp))
                have HRB4 := hide (m4.blk HRB.out (by simp))
                have HV := hide (jsets_blk (JN.mk 3 iv ⟨#[]⟩ none 0 [] none 0 []).cells HRB4.out rfl rfl)
                clear m4 hS' y0 y1 u1 lp
                have z0 : w'.cell? ⟨RB, 0, none⟩ = some (.int .i64 0) := HRB4.out.cell 0
                have r0 : w'.frozen? ⟨RB, 0, none⟩ = false := HRB4.out.frozen 0
                have z1 : w'.cell? ⟨RB, 1, none⟩ = some (.int .i64 0) := HRB4.out.cell 1
                have r1 : w'.frozen? ⟨RB, 1, none⟩ = false := HRB4.out.frozen 1
                have z2 : w'.cell? ⟨RB, 2, none⟩ = some (.string ⟨#[]⟩) := HRB4.out.cell 2
                have r2 : w'.frozen? ⟨RB, 2, none⟩ = false := HRB4.out.frozen 2
                have z3 : w'.cell? ⟨RB, 3, none⟩ = some (.slice none 0 0) := HRB4.out.cell 3
                have r3 : w'.frozen? ⟨RB, 3, none⟩ = false := HRB4.out.frozen 3
                have z4 : w'.cell? ⟨RB, 4, none⟩ = some (.slice none 0 0) := HRB4.out.cell 4
                have r4 : w'.frozen? ⟨RB, 4, none⟩ = false := HRB4.out.frozen 4
                have lR := HRB4.out.lt
                go_wp2_with fail
                have m5 := jsets_mod w' RB (JN.mk 3 iv ⟨#[]⟩ none 0 [] none 0 []).cells
                refine bodyPost_ret (results_cell_row rfl _ _ RB 25 (JN.mk 3 iv ⟨#[]⟩ none 0 [] none 0 []).cells (0, 0) _ rfl ?_ Tryd.underlying25 rfl (by kernel_rfl)) rfl ?_
                · exact HV.out
                exact RP.ok HE.out (HM4.out.trans m5 (by simp only [List.mem_singleton]; rintro _ rfl; exact .inr HRw.out)) rfl (H4.out.mod m5 (by simp only [List.mem_singleton]; exact hpr)) rfl
            · have HPk : Hid (∀ w', ((w'.cell? ⟨p, 0, none⟩ = some (.string s) ∧ w'.cell? ⟨p, 1, none⟩ = some (.int .i64 (j : Nat))) ∧ Mod [] X w') → Calls Tryd.prog 40 #[.string E, .int .i64 10, .int .i64 64] w' fun e w'' => ∃ N, e = .returned (.tuple #[.int .i64 (Lib.intSat 64 E.data.toList), .iface 96 (.pointer (some ⟨N, 0, none⟩))]) ∧ ((w''.cell? ⟨p, 0, none⟩ = some (.string s) ∧ w''.cell? ⟨p, 1, none⟩ = some (.int .i64 (j : Nat))) ∧ Mod [] X w'')) := hide (fun w' hS' =>
                (parse_range w' E HE1.out (by rw [HEl.out, HPd.out, HIv.out, if_neg hin]) (HJv.out w' (hS'.2.below (by have := HX.out.blk.lt; omega) (by simp))).2).mono fun e w'' h => by
                  obtain ⟨N, h1, h2⟩ := h
                  exact ⟨N, h1, HX.out.keep hS'.2 h2⟩)
              have HE : Hid (jnumber (rst s k) = .er (rst s k)) := hide (by
                unfold jnumber
                rw [HSig.out]
                simp only
                rw [HIv.out, if_neg hin])
              clear hEl hE1 hin hiv
              go_wp2_with fail
              obtain ⟨sat, hsat⟩ : ∃ v, Lib.intSat 64 E.data.toList = v := ⟨_, rfl⟩
              rw [hsat] at HPk
              clear hsat
              go_region_held3 (fun w' => (w'.cell? ⟨p, 0, none⟩ = some (.string s) ∧ w'.cell? ⟨p, 1, none⟩ = some (.int .i64 (j : Nat))) ∧ Mod [] X w')
                (first | exact HS.out | assumption)
                (first | (go_at_call 40; refine (HPk.out _ (by assumption)).mono ?_; rintro e w' ⟨N, rfl, hS'⟩))
              all_goals
                have m4 := hS'.2
                have HM4 := hide (HM.out.trans m4 (by simp))
                have H4 := hide (HX.out.mod m4 (by simp))
                clear m4 hS' y0 y1 u1 lp
                have y0 : w'.cell? ⟨p, 0, none⟩ = some (.string s) := H4.out.blk.cell 0
                have y1 : w'.cell? ⟨p, 1, none⟩ = some (.int .i64 (j : Nat)) := H4.out.blk.cell 1
                have u1 : w'.frozen? ⟨p, 1, none⟩ = false := H4.out.blk.frozen 1
                have lp := H4.out.blk.lt
                go_wp2_with fail
                have hf : Rd (w'.setCell ⟨p, 1, none⟩ (.int .i64 (k : Nat))) p s k := ⟨H4.out.blk.set_ 1 (.int .i64 (k : Nat)), hle, hs⟩
                refine (fail_any _ p k s hf).mono ?_
                rintro e w5 ⟨rfl, rfl⟩
                go_wp2_with fail
                rename_i heq
                cases heq
                exact ⟨rfl, RP.er HE.out (HM4.out.setCell (p := ⟨p, 1, none⟩) (.inl (by simp)) _) hle rfl⟩
          | cons c' t =>
            obtain ⟨h1, h2, h3⟩ := rst_cons hq
            have g1 : decide ((j : Int) < s.size) = true := decide_eq_true (by omega)
            have g2 : decide (j < s.size) = true := decide_eq_true h1
            have hji : (j : Int) < s.size := by omega
            have hxc : s[j]'h1 = c' := getElem_list s j _ c' h2
            have a2 : IntKind.i64.wrap ((j : Int) + 1) = (j : Int) + 1 := IntWalk.i64_in _ (by omega)
            have HK := hide h1
            obtain ⟨n, hn⟩ : ∃ n, c'.toNat = n := ⟨_, rfl⟩
            by_cases hd : isDi c' = true
            · obtain ⟨d1, d2⟩ := di_nat hd
              rw [hn] at d1 d2
              have g3 : decide ((48 : Int) ≤ n) = true := decide_eq_true (by omega)
              have g4 : decide (48 ≤ n) = true := decide_eq_true d1
              have g5 : decide ((n : Int) ≤ 57) = true := decide_eq_true (by omega)
              have g6 : decide (n ≤ 57) = true := decide_eq_true d2
              have HD : Hid (∃ l : List UInt8, l.all isDi = true ∧ rst s kq = l ++ rst s (j + 1)) := hide (by
                obtain ⟨l, l1, l2⟩ := hdl.out
                exact ⟨l ++ [c'], by simp only [List.all_append, l1, List.all_cons, List.all_nil, hd, Bool.and_self], by rw [l2, hq, h3]; simp⟩)
              clear hd hq h2 h3 d1 d2 hdl
              go_wp2_with fail
              go_quiet (fail)
              go_wp2_with fail
              have H4 : Rd (wr.drewN nq) p s j := hr.out.mod ((Mod.refl [] wr).drewN nq) (by simp)
              have H5 := H4.step HK.out
              have m5 : Mod [p] wr ((wr.drewN nq).setCell ⟨p, 1, none⟩ (.int .i64 ((j : Int) + 1))) := ((Mod.refl [p] wr).drewN nq).setCell (.inl (by simp)) _
              refine ⟨?rel, ?measure⟩
              case rel => exact ⟨j + 1, by omega, by omega, hide (hm.out.trans m5 (by simp)), hide H5, hide (m5.blk hrb.out HRp.out), hide (hjv.out.mod m5 (by omega) (by simp)), HD⟩
              case measure =>
                have e : atOf p ((wr.drewN nq).setCell ⟨p, 1, none⟩ (.int .i64 ((j : Int) + 1))) = j + 1 := by
                  unfold atOf
                  rw [H5.blk.cell 1]
                  rfl
                rw [HA.out, e]
                omega
            · have hnd : (rst s j).head?.any isDi = false := by rw [hq]; simpa using hd
              have hor : n < 48 ∨ 57 < n := by
                unfold isDi at hd
                simp only [Bool.and_eq_true, decide_eq_true_eq, UInt8.le_iff_toNat_le, not_and] at hd
                have h48 : (48 : UInt8).toNat = 48 := rfl
                have h57 : (57 : UInt8).toNat = 57 := rfl
                rw [h48, h57, hn] at hd
                omega
              clear hd hq h2 h3
              by_cases h48 : n < 48
              · have g3 : decide ((48 : Int) ≤ n) = false := decide_eq_false (by omega)
                have g4 : decide (48 ≤ n) = false := decide_eq_false (by omega)
                clear hor h48
                have HNd := hide hnd
                go_wp2_with fail
                go_quiet (fail)
                clear hnd y0 y1 u1 lp
                have m4 := (Mod.refl [] wr).drewN nq
                obtain ⟨X, hX⟩ : ∃ X, wr.drewN nq = X := ⟨_, rfl⟩
                rw [hX] at m4
                rw [hX]
                have HX := hide (hr.out.mod m4 (by simp))
                have HM := hide (hm.out.trans m4 (by simp))
                have HRB := hide (m4.blk hrb.out (by simp))
                have HJv := hide (hjv.out.mod m4 (by have := hr.out.blk.lt; omega) (by simp))
                obtain ⟨l, l1, l2⟩ := hdl.out
                obtain ⟨q1, q2⟩ := dw_app isDi l (rst s j) l1 HNd.out
                obtain ⟨ds, hds⟩ : ∃ ds, c :: l = ds := ⟨_, rfl⟩
                have HSig : Hid (jsig (rst s k) = .ok (false, ds) (rst s j)) := hide (by rw [HSg2.out, l2, q1, q2, hds])
                have HEx : Hid ((s.extract k j).data.toList = ds) := hide (by rw [ext_rst s (j := j) (l := [] ++ [c] ++ l) (by rw [HPre2.out, l2]; simp) hj, ← hds]; rfl)
                have HDs : Hid (ds.all isDi = true ∧ ds ≠ []) := hide (by rw [← hds]; exact ⟨by simp only [List.all_cons, HDc.out, l1, Bool.and_self], by simp⟩)
                have HK3 : Hid (k ≤ j) := hide (by have := HKq.out; omega)
                clear m4 hX l1 l2 q1 q2 hds HA hdl hm hr hrb hjv g1 g2
                have HPd : Hid (Lib.parseIntB 64 (ds) = if -9223372036854775808 ≤ jnumv (false, ds) ∧ jnumv (false, ds) < 9223372036854775808 then .ok (jnumv (false, ds)) else .range) := hide (parse_digits (neg := false) HDs.out.1 HDs.out.2)
                obtain ⟨E, hEx⟩ : ∃ E, s.extract k j = E := ⟨_, rfl⟩
                have hEl := HEx.out
                rw [hEx] at hEl
                have HEl := hide hEl
                have hE1 : E.size ≤ 1000000 := by rw [← hEx]; exact Nat.le_trans (ext_size s k j) hs
                have HE1 := hide hE1
                obtain ⟨iv, hiv⟩ : ∃ iv, jnumv (false, ds) = iv := ⟨_, rfl⟩
                have HIv := hide hiv
                have e3 : (k : Int) ≤ (j : Nat) := by have := HK3.out; omega
                have e4 : ((j : Nat) : Int) ≤ s.size := by have := HX.out.le; omega
                have HS : Hid ((X.drew.cell? ⟨p, 0, none⟩ = some (.string s) ∧ X.drew.cell? ⟨p, 1, none⟩ = some (.int .i64 (j : Nat))) ∧ Mod [] X X.drew) := hide ⟨⟨HX.out.blk.cell 0, HX.out.blk.cell 1⟩, (Mod.refl [] X).drew⟩
                have y0 : X.cell? ⟨p, 0, none⟩ = some (.string s) := HX.out.blk.cell 0
                have y1 : X.cell? ⟨p, 1, none⟩ = some (.int .i64 (j : Nat)) := HX.out.blk.cell 1
                have u1 : X.frozen? ⟨p, 1, none⟩ = false := HX.out.blk.frozen 1
                have lp := HX.out.blk.lt
                by_cases hin : -9223372036854775808 ≤ iv ∧ iv < 9223372036854775808
                · have HPk : Hid (∀ w', ((w'.cell? ⟨p, 0, none⟩ = some (.string s) ∧ w'.cell? ⟨p, 1, none⟩ = some (.int .i64 (j : Nat))) ∧ Mod [] X w') → Calls Tryd.prog 40 #[.string E, .int .i64 10, .int .i64 64] w' fun e w'' => e = .returned (.tuple #[.int .i64 iv, .nilIface]) ∧ ((w''.cell? ⟨p, 0, none⟩ = some (.string s) ∧ w''.cell? ⟨p, 1, none⟩ = some (.int .i64 (j : Nat))) ∧ Mod [] X w'')) := hide (fun w' hS' =>
                    (parse_ok w' E HE1.out iv (by rw [HEl.out, HPd.out, HIv.out, if_pos hin])).mono fun e w'' h => ⟨h.1, (HX.out.keep hS'.2 h.2)⟩)
                  have HE : Hid (jnumber (rst s k) = .ok iv (rst s j)) := hide (by
                    unfold jnumber
                    rw [HSig.out]
                    simp only
                    rw [HIv.out, if_pos hin])
                  clear hEl hE1 hin hiv
                  go_wp2_with fail
                  go_region_held3 (fun w' => (w'.cell? ⟨p, 0, none⟩ = some (.string s) ∧ w'.cell? ⟨p, 1, none⟩ = some (.int .i64 (j : Nat))) ∧ Mod [] X w')
                    (first | exact HS.out | assumption)
                    (first | (go_at_call 40; refine (HPk.out _ (by assumption)).mono ?_; rintro e w' ⟨rfl, hS'⟩))
                  all_goals
                    have m4 := hS'.2
                    have HM4 := hide (HM.out.trans m4 (by simp))
                    have H4 := hide (HX.out.mod m4 (by simp))
                    have HRB4 := hide (m4.blk HRB.out (by simp))
                    have HV := hide (jsets_blk (JN.mk 3 iv ⟨#[]⟩ none 0 [] none 0 []).cells HRB4.out rfl rfl)
                    clear m4 hS' y0 y1 u1 lp
                    have z0 : w'.cell? ⟨RB, 0, none⟩ = some (.int .i64 0) := HRB4.out.cell 0
                    have r0 : w'.frozen? ⟨RB, 0, none⟩ = false := HRB4.out.frozen 0
                    have z1 : w'.cell? ⟨RB, 1, none⟩ = some (.int .i64 0) := HRB4.out.cell 1
                    have r1 : w'.frozen? ⟨RB, 1, none⟩ = false := HRB4.out.frozen 1
                    have z2 : w'.cell? ⟨RB, 2, none⟩ = some (.string ⟨#[]⟩) := HRB4.out.cell 2
                    have r2 : w'.frozen? ⟨RB, 2, none⟩ = false := HRB4.out.frozen 2
                    have z3 : w'.cell? ⟨RB, 3, none⟩ = some (.slice none 0 0) := HRB4.out.cell 3
                    have r3 : w'.frozen? ⟨RB, 3, none⟩ = false := HRB4.out.frozen 3
                    have z4 : w'.cell? ⟨RB, 4, none⟩ = some (.slice none 0 0) := HRB4.out.cell 4
                    have r4 : w'.frozen? ⟨RB, 4, none⟩ = false := HRB4.out.frozen 4
                    have lR := HRB4.out.lt
                    go_wp2_with fail
                    have m5 := jsets_mod w' RB (JN.mk 3 iv ⟨#[]⟩ none 0 [] none 0 []).cells
                    refine bodyPost_ret (results_cell_row rfl _ _ RB 25 (JN.mk 3 iv ⟨#[]⟩ none 0 [] none 0 []).cells (0, 0) _ rfl ?_ Tryd.underlying25 rfl (by kernel_rfl)) rfl ?_
                    · exact HV.out
                    exact RP.ok HE.out (HM4.out.trans m5 (by simp only [List.mem_singleton]; rintro _ rfl; exact .inr HRw.out)) rfl (H4.out.mod m5 (by simp only [List.mem_singleton]; exact hpr)) rfl
                · have HPk : Hid (∀ w', ((w'.cell? ⟨p, 0, none⟩ = some (.string s) ∧ w'.cell? ⟨p, 1, none⟩ = some (.int .i64 (j : Nat))) ∧ Mod [] X w') → Calls Tryd.prog 40 #[.string E, .int .i64 10, .int .i64 64] w' fun e w'' => ∃ N, e = .returned (.tuple #[.int .i64 (Lib.intSat 64 E.data.toList), .iface 96 (.pointer (some ⟨N, 0, none⟩))]) ∧ ((w''.cell? ⟨p, 0, none⟩ = some (.string s) ∧ w''.cell? ⟨p, 1, none⟩ = some (.int .i64 (j : Nat))) ∧ Mod [] X w'')) := hide (fun w' hS' =>
                    (parse_range w' E HE1.out (by rw [HEl.out, HPd.out, HIv.out, if_neg hin]) (HJv.out w' (hS'.2.below (by have := HX.out.blk.lt; omega) (by simp))).2).mono fun e w'' h => by
                      obtain ⟨N, h1, h2⟩ := h
                      exact ⟨N, h1, HX.out.keep hS'.2 h2⟩)
                  have HE : Hid (jnumber (rst s k) = .er (rst s k)) := hide (by
                    unfold jnumber
                    rw [HSig.out]
                    simp only
                    rw [HIv.out, if_neg hin])
                  clear hEl hE1 hin hiv
                  go_wp2_with fail
                  obtain ⟨sat, hsat⟩ : ∃ v, Lib.intSat 64 E.data.toList = v := ⟨_, rfl⟩
                  rw [hsat] at HPk
                  clear hsat
                  go_region_held3 (fun w' => (w'.cell? ⟨p, 0, none⟩ = some (.string s) ∧ w'.cell? ⟨p, 1, none⟩ = some (.int .i64 (j : Nat))) ∧ Mod [] X w')
                    (first | exact HS.out | assumption)
                    (first | (go_at_call 40; refine (HPk.out _ (by assumption)).mono ?_; rintro e w' ⟨N, rfl, hS'⟩))
                  all_goals
                    have m4 := hS'.2
                    have HM4 := hide (HM.out.trans m4 (by simp))
                    have H4 := hide (HX.out.mod m4 (by simp))
                    clear m4 hS' y0 y1 u1 lp
                    have y0 : w'.cell? ⟨p, 0, none⟩ = some (.string s) := H4.out.blk.cell 0
                    have y1 : w'.cell? ⟨p, 1, none⟩ = some (.int .i64 (j : Nat)) := H4.out.blk.cell 1
                    have u1 : w'.frozen? ⟨p, 1, none⟩ = false := H4.out.blk.frozen 1
                    have lp := H4.out.blk.lt
                    go_wp2_with fail
                    have hf : Rd (w'.setCell ⟨p, 1, none⟩ (.int .i64 (k : Nat))) p s k := ⟨H4.out.blk.set_ 1 (.int .i64 (k : Nat)), hle, hs⟩
                    refine (fail_any _ p k s hf).mono ?_
                    rintro e w5 ⟨rfl, rfl⟩
                    go_wp2_with fail
                    rename_i heq
                    cases heq
                    exact ⟨rfl, RP.er HE.out (HM4.out.setCell (p := ⟨p, 1, none⟩) (.inl (by simp)) _) hle rfl⟩
              · have g3 : decide ((48 : Int) ≤ n) = true := decide_eq_true (by omega)
                have g4 : decide (48 ≤ n) = true := decide_eq_true (by omega)
                have g5 : decide ((n : Int) ≤ 57) = false := decide_eq_false (by omega)
                have g6 : decide (n ≤ 57) = false := decide_eq_false (by omega)
                clear hor h48
                have HNd := hide hnd
                go_wp2_with fail
                go_quiet (fail)
                clear hnd y0 y1 u1 lp
                have m4 := (Mod.refl [] wr).drewN nq
                obtain ⟨X, hX⟩ : ∃ X, wr.drewN nq = X := ⟨_, rfl⟩
                rw [hX] at m4
                rw [hX]
                have HX := hide (hr.out.mod m4 (by simp))
                have HM := hide (hm.out.trans m4 (by simp))
                have HRB := hide (m4.blk hrb.out (by simp))
                have HJv := hide (hjv.out.mod m4 (by have := hr.out.blk.lt; omega) (by simp))
                obtain ⟨l, l1, l2⟩ := hdl.out
                obtain ⟨q1, q2⟩ := dw_app isDi l (rst s j) l1 HNd.out
                obtain ⟨ds, hds⟩ : ∃ ds, c :: l = ds := ⟨_, rfl⟩
                have HSig : Hid (jsig (rst s k) = .ok (false, ds) (rst s j)) := hide (by rw [HSg2.out, l2, q1, q2, hds])
                have HEx : Hid ((s.extract k j).data.toList = ds) := hide (by rw [ext_rst s (j := j) (l := [] ++ [c] ++ l) (by rw [HPre2.out, l2]; simp) hj, ← hds]; rfl)
                have HDs : Hid (ds.all isDi = true ∧ ds ≠ []) := hide (by rw [← hds]; exact ⟨by simp only [List.all_cons, HDc.out, l1, Bool.and_self], by simp⟩)
                have HK3 : Hid (k ≤ j) := hide (by have := HKq.out; omega)
                clear m4 hX l1 l2 q1 q2 hds HA hdl hm hr hrb hjv g1 g2
                have HPd : Hid (Lib.parseIntB 64 (ds) = if -9223372036854775808 ≤ jnumv (false, ds) ∧ jnumv (false, ds) < 9223372036854775808 then .ok (jnumv (false, ds)) else .range) := hide (parse_digits (neg := false) HDs.out.1 HDs.out.2)
                obtain ⟨E, hEx⟩ : ∃ E, s.extract k j = E := ⟨_, rfl⟩
                have hEl := HEx.out
                rw [hEx] at hEl
                have HEl := hide hEl
                have hE1 : E.size ≤ 1000000 := by rw [← hEx]; exact Nat.le_trans (ext_size s k j) hs
                have HE1 := hide hE1
                obtain ⟨iv, hiv⟩ : ∃ iv, jnumv (false, ds) = iv := ⟨_, rfl⟩
                have HIv := hide hiv
                have e3 : (k : Int) ≤ (j : Nat) := by have := HK3.out; omega
                have e4 : ((j : Nat) : Int) ≤ s.size := by have := HX.out.le; omega
                have HS : Hid ((X.drew.cell? ⟨p, 0, none⟩ = some (.string s) ∧ X.drew.cell? ⟨p, 1, none⟩ = some (.int .i64 (j : Nat))) ∧ Mod [] X X.drew) := hide ⟨⟨HX.out.blk.cell 0, HX.out.blk.cell 1⟩, (Mod.refl [] X).drew⟩
                have y0 : X.cell? ⟨p, 0, none⟩ = some (.string s) := HX.out.blk.cell 0
                have y1 : X.cell? ⟨p, 1, none⟩ = some (.int .i64 (j : Nat)) := HX.out.blk.cell 1
                have u1 : X.frozen? ⟨p, 1, none⟩ = false := HX.out.blk.frozen 1
                have lp := HX.out.blk.lt
                by_cases hin : -9223372036854775808 ≤ iv ∧ iv < 9223372036854775808
                · have HPk : Hid (∀ w', ((w'.cell? ⟨p, 0, none⟩ = some (.string s) ∧ w'.cell? ⟨p, 1, none⟩ = some (.int .i64 (j : Nat))) ∧ Mod [] X w') → Calls Tryd.prog 40 #[.string E, .int .i64 10, .int .i64 64] w' fun e w'' => e = .returned (.tuple #[.int .i64 iv, .nilIface]) ∧ ((w''.cell? ⟨p, 0, none⟩ = some (.string s) ∧ w''.cell? ⟨p, 1, none⟩ = some (.int .i64 (j : Nat))) ∧ Mod [] X w'')) := hide (fun w' hS' =>
                    (parse_ok w' E HE1.out iv (by rw [HEl.out, HPd.out, HIv.out, if_pos hin])).mono fun e w'' h => ⟨h.1, (HX.out.keep hS'.2 h.2)⟩)
                  have HE : Hid (jnumber (rst s k) = .ok iv (rst s j)) := hide (by
                    unfold jnumber
                    rw [HSig.out]
                    simp only
                    rw [HIv.out, if_pos hin])
                  clear hEl hE1 hin hiv
                  go_wp2_with fail
                  go_region_held3 (fun w' => (w'.cell? ⟨p, 0, none⟩ = some (.string s) ∧ w'.cell? ⟨p, 1, none⟩ = some (.int .i64 (j : Nat))) ∧ Mod [] X w')
                    (first | exact HS.out | assumption)
                    (first | (go_at_call 40; refine (HPk.out _ (by assumption)).mono ?_; rintro e w' ⟨rfl, hS'⟩))
                  all_goals
                    have m4 := hS'.2
                    have HM4 := hide (HM.out.trans m4 (by simp))
                    have H4 := hide (HX.out.mod m4 (by simp))
                    have HRB4 := hide (m4.blk HRB.out (by simp))
                    have HV := hide (jsets_blk (JN.mk 3 iv ⟨#[]⟩ none 0 [] none 0 []).cells HRB4.out rfl rfl)
                    clear m4 hS' y0 y1 u1 lp
                    have z0 : w'.cell? ⟨RB, 0, none⟩ = some (.int .i64 0) := HRB4.out.cell 0
                    have r0 : w'.frozen? ⟨RB, 0, none⟩ = false := HRB4.out.frozen 0
                    have z1 : w'.cell? ⟨RB, 1, none⟩ = some (.int .i64 0) := HRB4.out.cell 1
                    have r1 : w'.frozen? ⟨RB, 1, none⟩ = false := HRB4.out.frozen 1
                    have z2 : w'.cell? ⟨RB, 2, none⟩ = some (.string ⟨#[]⟩) := HRB4.out.cell 2
                    have r2 : w'.frozen? ⟨RB, 2, none⟩ = false := HRB4.out.frozen 2
                    have z3 : w'.cell? ⟨RB, 3, none⟩ = some (.slice none 0 0) := HRB4.out.cell 3
                    have r3 : w'.frozen? ⟨RB, 3, none⟩ = false := HRB4.out.frozen 3
                    have z4 : w'.cell? ⟨RB, 4, none⟩ = some (.slice none 0 0) := HRB4.out.cell 4
                    have r4 : w'.frozen? ⟨RB, 4, none⟩ = false := HRB4.out.frozen 4
                    have lR := HRB4.out.lt
                    go_wp2_with fail
                    have m5 := jsets_mod w' RB (JN.mk 3 iv ⟨#[]⟩ none 0 [] none 0 []).cells
                    refine bodyPost_ret (results_cell_row rfl _ _ RB 25 (JN.mk 3 iv ⟨#[]⟩ none 0 [] none 0 []).cells (0, 0) _ rfl ?_ Tryd.underlying25 rfl (by kernel_rfl)) rfl ?_
                    · exact HV.out
                    exact RP.ok HE.out (HM4.out.trans m5 (by simp only [List.mem_singleton]; rintro _ rfl; exact .inr HRw.out)) rfl (H4.out.mod m5 (by simp only [List.mem_singleton]; exact hpr)) rfl
                · have HPk : Hid (∀ w', ((w'.cell? ⟨p, 0, none⟩ = some (.string s) ∧ w'.cell? ⟨p, 1, none⟩ = some (.int .i64 (j : Nat))) ∧ Mod [] X w') → Calls Tryd.prog 40 #[.string E, .int .i64 10, .int .i64 64] w' fun e w'' => ∃ N, e = .returned (.tuple #[.int .i64 (Lib.intSat 64 E.data.toList), .iface 96 (.pointer (some ⟨N, 0, none⟩))]) ∧ ((w''.cell? ⟨p, 0, none⟩ = some (.string s) ∧ w''.cell? ⟨p, 1, none⟩ = some (.int .i64 (j : Nat))) ∧ Mod [] X w'')) := hide (fun w' hS' =>
                    (parse_range w' E HE1.out (by rw [HEl.out, HPd.out, HIv.out, if_neg hin]) (HJv.out w' (hS'.2.below (by have := HX.out.blk.lt; omega) (by simp))).2).mono fun e w'' h => by
                      obtain ⟨N, h1, h2⟩ := h
                      exact ⟨N, h1, HX.out.keep hS'.2 h2⟩)
                  have HE : Hid (jnumber (rst s k) = .er (rst s k)) := hide (by
                    unfold jnumber
                    rw [HSig.out]
                    simp only
                    rw [HIv.out, if_neg hin])
                  clear hEl hE1 hin hiv
                  go_wp2_with fail
                  obtain ⟨sat, hsat⟩ : ∃ v, Lib.intSat 64 E.data.toList = v := ⟨_, rfl⟩
                  rw [hsat] at HPk
                  clear hsat
                  go_region_held3 (fun w' => (w'.cell? ⟨p, 0, none⟩ = some (.string s) ∧ w'.cell? ⟨p, 1, none⟩ = some (.int .i64 (j : Nat))) ∧ Mod [] X w')
                    (first | exact HS.out | assumption)
                    (first | (go_at_call 40; refine (HPk.out _ (by assumption)).mono ?_; rintro e w' ⟨N, rfl, hS'⟩))
                  all_goals
                    have m4 := hS'.2
                    have HM4 := hide (HM.out.trans m4 (by simp))
                    have H4 := hide (HX.out.mod m4 (by simp))
                    clear m4 hS' y0 y1 u1 lp
                    have y0 : w'.cell? ⟨p, 0, none⟩ = some (.string s) := H4.out.blk.cell 0
                    have y1 : w'.cell? ⟨p, 1, none⟩ = some (.int .i64 (j : Nat)) := H4.out.blk.cell 1
                    have u1 : w'.frozen? ⟨p, 1, none⟩ = false := H4.out.blk.frozen 1
                    have lp := H4.out.blk.lt
                    go_wp2_with fail
                    have hf : Rd (w'.setCell ⟨p, 1, none⟩ (.int .i64 (k : Nat))) p s k := ⟨H4.out.blk.set_ 1 (.int .i64 (k : Nat)), hle, hs⟩
                    refine (fail_any _ p k s hf).mono ?_
                    rintro e w5 ⟨rfl, rfl⟩
                    go_wp2_with fail
                    rename_i heq
                    cases heq
                    exact ⟨rfl, RP.er HE.out (HM4.out.setCell (p := ⟨p, 1, none⟩) (.inl (by simp)) _) hle rfl⟩
end Go.Proofs.YtkbpndohpkcikabDoor
