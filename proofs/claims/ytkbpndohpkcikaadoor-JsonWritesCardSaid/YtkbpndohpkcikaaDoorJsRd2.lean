/-
  json: the reader: word, digit, signs, escaped.
-/
import Derived.Test.YtkbpndohpkcikaaDoorJsRd1
import Derived.Test.YtkbpndohpkcikaaDoorMap
namespace Go.Proofs.YtkbpndohpkcikaaDoor
open Go.RowKit Js Go.Sort
set_option linter.unusedVariables false

theorem inB_one (W : ByteArray) (i : Nat) (c : UInt8) (h : W.data.toList[i]? = some c) : inB (W.extract i (i + 1)) = (· == c) := by
  funext x
  unfold inB
  have hl : i < W.data.toList.length := (List.getElem?_eq_some_iff.1 h).1
  have e : (W.extract i (i + 1)).data.toList = [c] := by
    rw [Lib.extract_data, Nat.add_sub_cancel_left, List.drop_eq_getElem_cons hl]
    rw [List.getElem?_eq_getElem hl] at h
    rw [Option.some.inj h]
    rfl
  rw [e, List.contains_cons, List.contains_nil, Bool.or_false]

set_option maxRecDepth 100000 in
set_option maxHeartbeats 4000000 in
theorem word_any (w : World) (p k : Nat) (s W : ByteArray) (h : Rd w p s k) (hW : W.size ≤ 1000) :
    Calls Tryd.prog 43 #[.pointer (some ⟨p, 0, none⟩), .string W] w (RP w p s (jword W.data.toList (rst s k)) fun _ _ u => u = .tuple #[]) := by
  have H := hide h
  clear h
  go_enter Tryd.func43, Tryd.ntmps43
  go_wp2_with fail
  go_loopw [7] (fun iv wr => ∃ i j : Nat, i ≤ W.size ∧ iv = .int .i64 (i : Int) ∧ Hid (Mod [p] w wr) ∧ Hid (Rd wr p s j) ∧ Hid (jword W.data.toList (rst s k) = jword (W.data.toList.drop i) (rst s j))) (fun iv _ => W.size - (intOf iv).toNat)
  case atStart => exact ⟨0, k, by omega, rfl, hide (Mod.refl _ _), H, hide rfl⟩
  case round =>
    obtain ⟨i, j, hi, rfl, hm, hr, hw⟩ := hrel
    by_cases hlt : i < W.size
    · have g1 : decide ((i : Int) < W.size) = true := decide_eq_true (by omega)
      have a1 : IntKind.i64.wrap ((i : Int) + 1) = (i : Int) + 1 := IntWalk.i64_in _ (by omega)
      obtain ⟨c, hc⟩ : ∃ c, W.data.toList[i]? = some c := ⟨_, List.getElem?_eq_getElem (by rw [bytes_len]; exact hlt)⟩
      have hT := fun w' j' (h' : Rd w' p s j') => take_any w' p j' s (W.extract i (i + 1)) h'
      rw [inB_one W i c hc] at hT
      have HT := hide (hT wr j hr.out)
      have hdrop : W.data.toList.drop i = c :: W.data.toList.drop (i + 1) := by
        have hl : i < W.data.toList.length := by rw [bytes_len]; exact hlt
        rw [List.drop_eq_getElem_cons hl]
        rw [List.getElem?_eq_getElem hl] at hc
        rw [Option.some.inj hc]
      have HD : Hid (jword W.data.toList (rst s k) = (jtake (· == c) (rst s j)).bind fun _ r => jword (W.data.toList.drop (i + 1)) r) := hide (by rw [hw.out, hdrop]; rfl)
      clear hT hc hdrop
      go_wp2_with fail
      refine HT.out.mono ?_
      rintro e w1 ⟨m1, hp⟩
      have HM1 := hide (hm.out.trans m1 (by simp))
      cases hx : jtake (· == c) (rst s j) with
      | er r =>
        rw [hx] at hp
        obtain ⟨k1, rfl, h1, h2⟩ := hp
        have HE : Hid (jword W.data.toList (rst s k) = .er r) := hide (by rw [HD.out, hx]; rfl)
        clear m1 hx
        go_wp2_with fail
        rename_i heq
        cases heq
        exact ⟨rfl, RP.er HE.out HM1.out h1 h2⟩
      | ok c1 r =>
        rw [hx] at hp
        obtain ⟨k1, u, rfl, rfl, h1, h2⟩ := hp
        have HN : Hid (jword W.data.toList (rst s k) = jword (W.data.toList.drop (i + 1)) (rst s k1)) := hide (by rw [HD.out, hx, h2]; rfl)
        have H1 := hide h1
        clear m1 hx h1 h2
        go_wp2_with fail
        refine ⟨?rel, ?measure⟩
        case rel => exact ⟨i + 1, k1, by omega, by go_num, HM1, H1, HN⟩
        case measure => simp [intOf]; omega
    · have hi2 : i = W.size := by omega
      have g1 : decide ((i : Int) < W.size) = false := decide_eq_false (by omega)
      have HE : Hid (jword W.data.toList (rst s k) = .ok () (rst s j)) := hide (by
        rw [hw.out, List.drop_eq_nil_of_le (by rw [bytes_len]; omega)]; rfl)
      clear hi2
      go_wp2_with fail
      refine ⟨rfl, _, results_none rfl _ _ _, ?_⟩
      exact RP.ok HE.out hm.out rfl hr.out rfl

/-! ### digits in sixteens -/
def hexS : ByteArray := ⟨#[48, 49, 50, 51, 52, 53, 54, 55, 56, 57, 97, 98, 99, 100, 101, 102, 65, 66, 67, 68, 69, 70]⟩
set_option maxRecDepth 100000 in
theorem hexS_in : inB hexS = isHex := by
  funext c
  have key : ∀ n : Nat, n < 256 → inB hexS (UInt8.ofNat n) = isHex (UInt8.ofNat n) := by decide
  have := key c.toNat (UInt8.toNat_lt c)
  simpa using this
theorem isHex_val {c : UInt8} (h : isHex c = true) : (97 ≤ c.toNat ∧ c.toNat ≤ 102 ∧ (hexv c).toNat = c.toNat - 97 + 10) ∨ (65 ≤ c.toNat ∧ c.toNat ≤ 70 ∧ (hexv c).toNat = c.toNat - 65 + 10) ∨ (48 ≤ c.toNat ∧ c.toNat ≤ 57 ∧ (hexv c).toNat = c.toNat - 48) := by
  have key : ∀ n : Nat, n < 256 → isHex (UInt8.ofNat n) = true → (97 ≤ n ∧ n ≤ 102 ∧ (hexv (UInt8.ofNat n)).toNat = n - 97 + 10) ∨ (65 ≤ n ∧ n ≤ 70 ∧ (hexv (UInt8.ofNat n)).toNat = n - 65 + 10) ∨ (48 ≤ n ∧ n ≤ 57 ∧ (hexv (UInt8.ofNat n)).toNat = n - 48) := by
    set_option maxRecDepth 100000 in decide
  have := key c.toNat (UInt8.toNat_lt c)
  simp only [UInt8.ofNat_toNat] at this
  exact this h

set_option maxRecDepth 100000 in
set_option maxHeartbeats 4000000 in
theorem digit_any (w : World) (p k : Nat) (s : ByteArray) (h : Rd w p s k) :
    Calls Tryd.prog 63 #[.pointer (some ⟨p, 0, none⟩), .string hexS] w (RP w p s (jtake isHex (rst s k)) fun c _ u => u = .int .u8 ((hexv c).toNat : Int)) := by
  have hT := take_any w p k s hexS h
  rw [hexS_in] at hT
  have HT := hide hT
  clear hT h
  go_enter Tryd.func63, Tryd.ntmps63
  go_wp2_with fail
  refine HT.out.mono ?_
  rintro e w1 ⟨m1, hp⟩
  have HM := hide m1
  cases hx : jtake isHex (rst s k) with
  | er r =>
    rw [hx] at hp
    obtain ⟨k1, rfl, h1, h2⟩ := hp
    have HX := hide hx
    clear m1 hx
    go_wp2_with fail
    rename_i heq
    cases heq
    exact ⟨rfl, RP.er HX.out HM.out h1 h2⟩
  | ok c r =>
    rw [hx] at hp
    obtain ⟨k1, u, rfl, rfl, h1, h2⟩ := hp
    obtain ⟨rfl2, hh⟩ := take_ok hx
    have HX := hide hx
    have HR : Hid (∀ u, u = .int .u8 ((hexv c).toNat : Int) → RP w p s (jtake isHex (rst s k)) (fun c _ u => u = .int .u8 ((hexv c).toNat : Int)) (.returned u) w1) := hide (fun u hu => RP.ok hx HM.out hu h1 h2)
    have hv := isHex_val hh
    obtain ⟨n, hn⟩ : ∃ n, c.toNat = n := ⟨_, rfl⟩
    obtain ⟨d, hd⟩ : ∃ d, (hexv c).toNat = d := ⟨_, rfl⟩
    have HD := hide hd
    rw [hd] at hv
    rw [hn] at hv ⊢
    clear m1 hx h1 h2 hh rfl2 hn hd
    rcases hv with ⟨v1, v2, v3⟩ | ⟨v1, v2, v3⟩ | ⟨v1, v2, v3⟩
    · have g1 : decide ((97 : Int) ≤ n) = true := decide_eq_true (by omega)
      have g2 : decide (97 ≤ n) = true := decide_eq_true v1
      have a1 : IntKind.u8.wrap ((n : Int) - 97) = (n : Int) - 97 := IntWalk.u8_in _ (by omega)
      have a2 : IntKind.u8.wrap ((n : Int) - 97 + 10) = (n : Int) - 97 + 10 := IntWalk.u8_in _ (by omega)
      have HV1 := hide v1
      clear v1
      go_wp2_with fail
      go_ret
      exact HR.out _ ((congrArg (Value.int IntKind.u8) (show (n : Int) - 97 + 10 = (d : Int) by have := HV1.out; omega)).trans (by rw [HD.out]))
    · have g1 : decide ((97 : Int) ≤ n) = false := decide_eq_false (by omega)
      have g2 : decide (97 ≤ n) = false := decide_eq_false (by omega)
      have g3 : decide ((65 : Int) ≤ n) = true := decide_eq_true (by omega)
      have g4 : decide (65 ≤ n) = true := decide_eq_true v1
      have a1 : IntKind.u8.wrap ((n : Int) - 65) = (n : Int) - 65 := IntWalk.u8_in _ (by omega)
      have a2 : IntKind.u8.wrap ((n : Int) - 65 + 10) = (n : Int) - 65 + 10 := IntWalk.u8_in _ (by omega)
      have HV1 := hide v1
      clear v1
      go_wp2_with fail
      go_ret
      exact HR.out _ ((congrArg (Value.int IntKind.u8) (show (n : Int) - 65 + 10 = (d : Int) by have := HV1.out; omega)).trans (by rw [HD.out]))
    · have g1 : decide ((97 : Int) ≤ n) = false := decide_eq_false (by omega)
      have g2 : decide (97 ≤ n) = false := decide_eq_false (by omega)
      have g3 : decide ((65 : Int) ≤ n) = false := decide_eq_false (by omega)
      have g4 : decide (65 ≤ n) = false := decide_eq_false (by omega)
      have a1 : IntKind.u8.wrap ((n : Int) - 48) = (n : Int) - 48 := IntWalk.u8_in _ (by omega)
      have HV1 := hide v1
      clear v1
      go_wp2_with fail
      go_ret
      exact HR.out _ ((congrArg (Value.int IntKind.u8) (show (n : Int) - 48 = (d : Int) by have := HV1.out; omega)).trans (by rw [HD.out]))

/-! ### signs -/
def sgnF : Int → Option Value := (upd (upd (upd (upd (upd (upd (upd (fun _ => none) 98 (some (.int .u8 8))) 116 (some (.int .u8 9))) 110 (some (.int .u8 10))) 102 (some (.int .u8 12))) 114 (some (.int .u8 13))) 34 (some (.int .u8 34))) 92 (some (.int .u8 92)))

set_option maxRecDepth 100000 in
set_option maxHeartbeats 4000000 in
theorem signs_any (w : World) : Calls Tryd.prog 49 #[] w fun e w' => ∃ g, e = .returned (.map (some g)) ∧ w.heap.size ≤ g ∧ IMap w' g .u8 sgnF ∧ Mod [] w w' := by
  have h0 : IMap (w.alloc (.map #[] 0)) w.heap.size .u8 (fun _ => none) := IMap.made w .u8
  have m0 := (Mod.refl [] w).alloc (.map #[] 0)
  obtain ⟨g, hg⟩ : ∃ g, w.heap.size = g := ⟨_, rfl⟩
  rw [hg] at h0
  obtain ⟨w1, e1, h1, n1, -⟩ := h0.update (P := Tryd.prog) (T := 74) Tryd.underlying74 Tryd.underlying5 98 (.int .u8 8)
  have m1 := m0.trans n1 (by simp; omega)
  obtain ⟨w2, e2, h2, n2, -⟩ := h1.update (P := Tryd.prog) (T := 74) Tryd.underlying74 Tryd.underlying5 116 (.int .u8 9)
  have m2 := m1.trans n2 (by simp; omega)
  obtain ⟨w3, e3, h3, n3, -⟩ := h2.update (P := Tryd.prog) (T := 74) Tryd.underlying74 Tryd.underlying5 110 (.int .u8 10)
  have m3 := m2.trans n3 (by simp; omega)
  obtain ⟨w4, e4, h4, n4, -⟩ := h3.update (P := Tryd.prog) (T := 74) Tryd.underlying74 Tryd.underlying5 102 (.int .u8 12)
  have m4 := m3.trans n4 (by simp; omega)
  obtain ⟨w5, e5, h5, n5, -⟩ := h4.update (P := Tryd.prog) (T := 74) Tryd.underlying74 Tryd.underlying5 114 (.int .u8 13)
  have m5 := m4.trans n5 (by simp; omega)
  obtain ⟨w6, e6, h6, n6, -⟩ := h5.update (P := Tryd.prog) (T := 74) Tryd.underlying74 Tryd.underlying5 34 (.int .u8 34)
  have m6 := m5.trans n6 (by simp; omega)
  obtain ⟨w7, e7, h7, n7, -⟩ := h6.update (P := Tryd.prog) (T := 74) Tryd.underlying74 Tryd.underlying5 92 (.int .u8 92)
  have m7 := m6.trans n7 (by simp; omega)
  have HI := hide h7
  have HM := hide m7
  clear h0 m0 h1 m1 h2 m2 h3 m3 h4 m4 h5 m5 h6 m6 h7 m7 n1 n2 n3 n4 n5 n6 n7
  have hmk : ∀ (T : TypeId) (w : World), (Instr.makeMap T none).run Tryd.prog w = .ok (.map (some w.heap.size)) (w.alloc (.map #[] 0)) := fun _ _ => rfl
  go_enter Tryd.func49, Tryd.ntmps49
  go_wp2_with fail
  go_ret
  exact ⟨g, rfl, by omega, HI.out, HM.out⟩

/-- the byte that a sign behind a backslash is -/
theorem sgnF_at (c : UInt8) : sgnF (c.toNat : Int) = if c = 47 then none else (unsign c).map fun b => .int .u8 (b.toNat : Int) := by
  by_cases h1 : c = 98
  · subst h1; rfl
  by_cases h2 : c = 116
  · subst h2; rfl
  by_cases h3 : c = 110
  · subst h3; rfl
  by_cases h4 : c = 102
  · subst h4; rfl
  by_cases h5 : c = 114
  · subst h5; rfl
  by_cases h6 : c = 34
  · subst h6; rfl
  by_cases h7 : c = 92
  · subst h7; rfl
  by_cases h8 : c = 47
  · subst h8; rfl
  have ne : ∀ k : UInt8, c ≠ k → ¬ (c.toNat : Int) = (k.toNat : Int) := fun k h e => h (UInt8.toNat_inj.1 (by omega))
  have n1 : ¬ (c.toNat : Int) = 98 := ne 98 h1
  have n2 : ¬ (c.toNat : Int) = 116 := ne 116 h2
  have n3 : ¬ (c.toNat : Int) = 110 := ne 110 h3
  have n4 : ¬ (c.toNat : Int) = 102 := ne 102 h4
  have n5 : ¬ (c.toNat : Int) = 114 := ne 114 h5
  have n6 : ¬ (c.toNat : Int) = 34 := ne 34 h6
  have n7 : ¬ (c.toNat : Int) = 92 := ne 92 h7
  unfold sgnF upd unsign
  simp only [if_neg h1, if_neg h2, if_neg h3, if_neg h4, if_neg h5, if_neg h6, if_neg h7, if_neg h8, if_neg n1, if_neg n2, if_neg n3, if_neg n4, if_neg n5, if_neg n6, if_neg n7, Option.map_none]

/-! ### what stands behind a backslash -/
def escS : ByteArray := ⟨#[98, 116, 110, 102, 114, 34, 92, 47, 117]⟩
set_option maxRecDepth 100000 in
theorem escS_in : inB escS = fun c => (unsign c).isSome || c == 117 := by
  funext c
  have key : ∀ n : Nat, n < 256 → inB escS (UInt8.ofNat n) = ((unsign (UInt8.ofNat n)).isSome || UInt8.ofNat n == 117) := by decide
  have := key c.toNat (UInt8.toNat_lt c)
  simpa using this
set_option maxRecDepth 100000 in
theorem hex_or {x y : UInt8} (hx : isHex x = true) (hy : isHex y = true) : Go.bits BinOp.or IntKind.u8 ((hexv x).toNat * 16 % 256 : Int) ((hexv y).toNat : Int) = ((hexv x <<< 4 ||| hexv y).toNat : Int) := by
  have key : ∀ a : Nat, a < 16 → ∀ b : Nat, b < 16 → Go.bits BinOp.or IntKind.u8 ((a : Int) * 16 % 256) (b : Int) = ((UInt8.ofNat a <<< 4 ||| UInt8.ofNat b).toNat : Int) := by decide
  have h1 : (hexv x).toNat < 16 := by rcases isHex_val hx with h | h | h <;> omega
  have h2 : (hexv y).toNat < 16 := by rcases isHex_val hy with h | h | h <;> omega
  have := key _ h1 _ h2
  simpa using this
theorem zeroS_in : inB ⟨#[48]⟩ = (· == 48) := by
  funext x
  unfold inB
  show List.contains [48] x = _
  rw [List.contains_cons, List.contains_nil, Bool.or_false]

set_option maxRecDepth 100000 in
set_option maxHeartbeats 8000000 in
theorem escaped_any (w : World) (p k : Nat) (s : ByteArray) (h : Rd w p s k) :
    Calls Tryd.prog 54 #[.pointer (some ⟨p, 0, none⟩)] w (RP w p s (jesc (rst s k)) fun c _ u => u = .int .u8 (c.toNat : Int)) := by
  have hT := take_any w p k s escS h
  rw [escS_in] at hT
  unfold escS at hT
  have HT := hide hT
  have HZ := hide (fun w' k' (h' : Rd w' p s k') => by
    have := take_any w' p k' s ⟨#[48]⟩ h'
    rw [zeroS_in] at this
    exact this)
  have HDg := hide (fun w' k' (h' : Rd w' p s k') => digit_any w' p k' s h')
  unfold hexS at HDg
  have HSg := hide signs_any
  clear hT h
  go_enter Tryd.func54, Tryd.ntmps54
  go_wp2_with fail
  refine HT.out.mono ?_
  rintro e w1 ⟨m1, hp⟩
  have HM := hide m1
  cases hx : jtake (fun c => (unsign c).isSome || c == 117) (rst s k) with
  | er r =>
    rw [hx] at hp
    obtain ⟨k1, rfl, h1, h2⟩ := hp
    have HE : Hid (jesc (rst s k) = .er r) := hide (by unfold jesc; rw [hx]; rfl)
    clear m1 hx
    go_wp2_with fail
    rename_i heq
    cases heq
    exact ⟨rfl, RP.er HE.out HM.out h1 h2⟩
  | ok c r =>
    rw [hx] at hp
    obtain ⟨k1, u, rfl, rfl, h1, h2⟩ := hp
    have H1 := hide h1
    have HR1 := hide h2
    have HX := hide hx
    clear m1 hx h1 h2
    by_cases h47 : c = 47
    · have HE : Hid (jesc (rst s k) = .ok 47 r) := hide (by unfold jesc; rw [HX.out, h47]; rfl)
      subst h47
      go_wp2_with fail
      go_ret
      exact RP.ok HE.out HM.out rfl H1.out HR1.out
    · have g1 : ((c.toNat : Int) == 47) = false := by
        rw [beq_eq_false_iff_ne]
        intro e
        exact h47 (UInt8.toNat_inj.1 (by show c.toNat = 47; omega))
      have g2 : (c.toNat == 47) = false := by
        rw [beq_eq_false_iff_ne]
        intro e
        exact h47 (UInt8.toNat_inj.1 (by show c.toNat = 47; omega))
      have hF := sgnF_at c
      rw [if_neg h47] at hF
      have HF := hide hF
      have HC := hide h47
      clear hF h47
      go_wp2_with fail
      refine (HSg.out _).mono ?_
      rintro e w2 ⟨g, rfl, hg, hmap, m2⟩
      have hlk := hmap.lookup_ok (P := Tryd.prog) (T := 74) Tryd.underlying74 Tryd.underlying5 (Tryd.zeroValue5 _) (c.toNat : Int)
      have hsome : (sgnF (c.toNat : Int)).isSome = (unsign c).isSome := by rw [HF.out]; cases unsign c <;> rfl
      have hget : (sgnF (c.toNat : Int)).getD (.int .u8 0) = .int .u8 (((unsign c).getD 0).toNat : Int) := by rw [HF.out]; cases unsign c <;> rfl
      rw [hsome, hget] at hlk
      have HM2 := hide (HM.out.trans m2 (by simp))
      have H2 := hide (H1.out.mod m2 (by simp))
      clear hg hmap m2 hsome hget
      cases hu : unsign c with
      | some b =>
        rw [hu] at hlk
        simp only [Option.isSome_some, Option.getD_some] at hlk
        have HE : Hid (jesc (rst s k) = .ok b r) := hide (by unfold jesc; rw [HX.out]; simp only [PR.bind]; rw [hu])
        clear hu
        go_wp2_with fail
        go_ret
        exact RP.ok HE.out HM2.out rfl H2.out HR1.out
      | none =>
        rw [hu] at hlk
        simp only [Option.isSome_none, Option.getD_none] at hlk
        have HE : Hid (jesc (rst s k) = (jtake (· == 48) (rst s k1)).bind fun _ r => (jtake (· == 48) r).bind fun _ r => (jtake isHex r).bind fun h r => (jtake isHex r).bind fun l r => .ok (hexv h <<< 4 ||| hexv l) r) := hide (by unfold jesc; rw [HX.out, HR1.out]; simp only [PR.bind]; rw [hu])
        clear hu
        go_wp2_with fail
        refine (HZ.out _ _ H2.out).mono ?_
        rintro e w3 ⟨m3, hp⟩
        have HM3 := hide (HM2.out.trans m3 (by simp))
        cases hx : jtake (· == 48) (rst s k1) with
        | er r =>
          rw [hx] at hp
          obtain ⟨k2, rfl, h1, h2⟩ := hp
          have HE : Hid (jesc (rst s k) = .er r) := hide (by rw [HE.out, hx]; rfl)
          clear m3 hx
          go_wp2_with fail
          rename_i heq
          cases heq
          exact ⟨rfl, RP.er HE.out HM3.out h1 h2⟩
        | ok c2 r2 =>
          rw [hx] at hp
          obtain ⟨k2, u, rfl, rfl, h1, h2⟩ := hp
          have H3 := hide h1
          have HE2 : Hid (jesc (rst s k) = (jtake (· == 48) (rst s k2)).bind fun _ r => (jtake isHex r).bind fun h r => (jtake isHex r).bind fun l r => .ok (hexv h <<< 4 ||| hexv l) r) := hide (by rw [HE.out, hx, h2]; rfl)
          clear m3 hx h1 h2
          go_wp2_with fail
          refine (HZ.out _ _ H3.out).mono ?_
          rintro e w4 ⟨m4, hp⟩
          have HM4 := hide (HM3.out.trans m4 (by simp))
          cases hx : jtake (· == 48) (rst s k2) with
          | er r =>
            rw [hx] at hp
            obtain ⟨k3, rfl, h1, h2⟩ := hp
            have HE : Hid (jesc (rst s k) = .er r) := hide (by rw [HE2.out, hx]; rfl)
            clear m4 hx
            go_wp2_with fail
            rename_i heq
            cases heq
            exact ⟨rfl, RP.er HE.out HM4.out h1 h2⟩
          | ok c3 r3 =>
            rw [hx] at hp
            obtain ⟨k3, u, rfl, rfl, h1, h2⟩ := hp
            have H4 := hide h1
            have HE3 : Hid (jesc (rst s k) = (jtake isHex (rst s k3)).bind fun h r => (jtake isHex r).bind fun l r => .ok (hexv h <<< 4 ||| hexv l) r) := hide (by rw [HE2.out, hx, h2]; rfl)
            clear m4 hx h1 h2
            go_wp2_with fail
            refine (HDg.out _ _ H4.out).mono ?_
            rintro e w5 ⟨m5, hp⟩
            have HM5 := hide (HM4.out.trans m5 (by simp))
            cases hx : jtake isHex (rst s k3) with
            | er r =>
              rw [hx] at hp
              obtain ⟨k4, rfl, h1, h2⟩ := hp
              have HE : Hid (jesc (rst s k) = .er r) := hide (by rw [HE3.out, hx]; rfl)
              clear m5 hx
              go_wp2_with fail
              rename_i heq
              cases heq
              exact ⟨rfl, RP.er HE.out HM5.out h1 h2⟩
            | ok x r4 =>
              rw [hx] at hp
              obtain ⟨k4, u, rfl, rfl, h1, h2⟩ := hp
              have H5 := hide h1
              have HY := hide (take_ok hx).2
              have HE4 : Hid (jesc (rst s k) = (jtake isHex (rst s k4)).bind fun l r => .ok (hexv x <<< 4 ||| hexv l) r) := hide (by rw [HE3.out, hx, h2]; rfl)
              clear m5 hx h1 h2
              go_wp2_with fail
              refine (HDg.out _ _ H5.out).mono ?_
              rintro e w6 ⟨m6, hp⟩
              have HM6 := hide (HM5.out.trans m6 (by simp))
              cases hx : jtake isHex (rst s k4) with
              | er r =>
                rw [hx] at hp
                obtain ⟨k5, rfl, h1, h2⟩ := hp
                have HE : Hid (jesc (rst s k) = .er r) := hide (by rw [HE4.out, hx]; rfl)
                clear m6 hx
                go_wp2_with fail
                rename_i heq
                cases heq
                exact ⟨rfl, RP.er HE.out HM6.out h1 h2⟩
              | ok y r5 =>
                rw [hx] at hp
                obtain ⟨k5, u, rfl, rfl, h1, h2⟩ := hp
                have HE : Hid (jesc (rst s k) = .ok (hexv x <<< 4 ||| hexv y) r5) := hide (by rw [HE4.out, hx]; rfl)
                have H6 := hide h1
                have HR6 := hide h2
                have HB := hide (hex_or HY.out (take_ok hx).2)
                clear m6 hx h1 h2
                go_wp2_with fail
                go_ret
                exact RP.ok HE.out HM6.out (congrArg (Value.int IntKind.u8) (HB.out)) H6.out HR6.out
end Go.Proofs.YtkbpndohpkcikaaDoor
