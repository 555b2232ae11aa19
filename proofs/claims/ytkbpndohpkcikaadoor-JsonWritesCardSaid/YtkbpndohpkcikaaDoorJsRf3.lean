/-
  the document's sixteen, escape, Quote.
-/
import Derived.Test.YtkbpndohpkcikaaDoorJsRf2
import Derived.Test.YtkbpndohpkcikaaDoorJsWtP
import Derived.Test.YtkbpndohpkcikaaDoorJsRd6
import Derived.Test.YtkbpndohpkcikaaDoorJsBw
namespace Go.Proofs.YtkbpndohpkcikaaDoor
open Go.RowKit Js Go.Sort
set_option linter.unusedVariables false
set_option linter.unusedSimpArgs false
theorem sixKey : ∀ k : Fin 16, ((⟨#[48, 49, 50, 51, 52, 53, 54, 55, 56, 57, 97, 98, 99, 100, 101, 102]⟩ : ByteArray).extract k.val (k.val + 1)) = ⟨#[hexd k.val]⟩ := by decide
set_option maxRecDepth 100000 in
set_option maxHeartbeats 4000000 in
theorem rsix_any (w : World) (k : Nat) (hk : k < 16) : Calls Tryd.prog 61 #[.int .i64 (k : Int)] w fun e w' => e = .returned (.string ⟨#[hexd k]⟩) ∧ w = w' := by
  have HK : Hid ((⟨#[48, 49, 50, 51, 52, 53, 54, 55, 56, 57, 97, 98, 99, 100, 101, 102]⟩ : ByteArray).extract k (k + 1) = ⟨#[hexd k]⟩) := hide (sixKey ⟨k, hk⟩)
  have a1 : IntKind.i64.wrap ((k : Int) + 1) = (k : Int) + 1 := IntWalk.i64_in _ (by omega)
  obtain ⟨k1, hk1⟩ : ∃ k1, k1 = k + 1 := ⟨_, rfl⟩
  have a2 : (k : Int) + 1 = (k1 : Int) := by omega
  rw [a2] at a1
  have b1 : (k1 : Int) ≤ 16 := by omega
  have b2 : (k : Int) ≤ (k1 : Int) := by omega
  have b3 : k1 ≤ 16 := by omega
  have b4 : k ≤ k1 := by omega
  have HK1 := hide hk1
  clear a2 hk1
  go_enter Tryd.func61, Tryd.ntmps61
  go_wp2_with fail
  go_ret
  exact ⟨by first | exact congrArg (fun s => Ending.returned (.string s)) HK.out | (have := HK.out; rw [← HK1.out] at this; exact congrArg (fun s => Ending.returned (.string s)) this), rfl⟩
/-- what stands behind a backslash -/
def escR (c : UInt8) : ByteArray := match sign c with
  | some b => ⟨#[b]⟩
  | none => if c < 32 ∨ 126 < c then ⟨#[117, 48, 48, hexd (c.toNat / 16), hexd (c.toNat % 16)]⟩ else ⟨#[]⟩
def escF : List UInt8 := [8, 9, 10, 12, 13, 34, 92]
def escT : List UInt8 := [98, 116, 110, 102, 114, 34, 92]
theorem escKey : ∀ i : Fin 7, ((⟨#[98, 116, 110, 102, 114, 34, 92]⟩ : ByteArray).extract i.val (i.val + 1)) = escR (escF.getD i.val 0) := by decide
theorem sign_not {c : UInt8} (h : ∀ j, j < 7 → escF.getD j 0 ≠ c) : sign c = none := by
  have h0 : (8 : UInt8) ≠ c := h 0 (by omega)
  have h1 : (9 : UInt8) ≠ c := h 1 (by omega)
  have h2 : (10 : UInt8) ≠ c := h 2 (by omega)
  have h3 : (12 : UInt8) ≠ c := h 3 (by omega)
  have h4 : (13 : UInt8) ≠ c := h 4 (by omega)
  have h5 : (34 : UInt8) ≠ c := h 5 (by omega)
  have h6 : (92 : UInt8) ≠ c := h 6 (by omega)
  unfold sign
  rw [if_neg (Ne.symm h0), if_neg (Ne.symm h1), if_neg (Ne.symm h2), if_neg (Ne.symm h3), if_neg (Ne.symm h4), if_neg (Ne.symm h5), if_neg (Ne.symm h6)]
def escC : Array Value := #[.int .u8 8, .int .u8 9, .int .u8 10, .int .u8 12, .int .u8 13, .int .u8 34, .int .u8 92]
theorem escC_at : ∀ i : Fin 7, escC[i.val]? = some (.int .u8 ((escF.getD i.val 0).toNat : Int)) := by
  intro i
  match i with
  | 0 => rfl
  | 1 => rfl
  | 2 => rfl
  | 3 => rfl
  | 4 => rfl
  | 5 => rfl
  | 6 => rfl
set_option maxRecDepth 100000 in
set_option maxHeartbeats 8000000 in
theorem resc_any (w : World) (c : UInt8) : Calls Tryd.prog 50 #[.int .u8 (c.toNat : Int)] w fun e w' => e = .returned (.string (escR c)) ∧ Mod [] w w' := by
  obtain ⟨q, hq⟩ : ∃ q, c.toNat = q := ⟨_, rfl⟩
  have HQ := hide hq
  have hq2 := c.toNat_lt
  rw [hq] at hq2
  have hql : q < 256 := hq2
  have HM0 := hide ((Mod.refl [] w).alloc (.cells escC 5))
  have HB0 := hide (Blk.new w 5 escC)
  unfold escC at HM0 HB0
  rw [hq]
  clear hq hq2
  go_enter Tryd.func50, Tryd.ntmps50
  go_wp2_with fail
  go_loopw [5] (fun iv wr => ∃ i : Nat, i ≤ 7 ∧ iv = .int .i64 (i : Int) ∧ Hid (∀ j, j < i → escF.getD j 0 ≠ c) ∧ Hid (Mod [] w wr) ∧ Hid (Blk wr w.heap.size 5 #[.int .u8 8, .int .u8 9, .int .u8 10, .int .u8 12, .int .u8 13, .int .u8 34, .int .u8 92])) (fun iv _ => 7 - (intOf iv).toNat)
  case atStart => exact ⟨0, by omega, rfl, hide (fun j h => absurd h (Nat.not_lt_zero _)), HM0, HB0⟩
  case round =>
    obtain ⟨i, hi, rfl, htk, hmi, hbi⟩ := hrel
    by_cases h2 : i < 7
    · have hii : (i : Int) < 7 := by omega
      have a1 : IntKind.i64.wrap ((i : Int) + 1) = (i : Int) + 1 := IntWalk.i64_in _ (by omega)
      obtain ⟨f, hf⟩ : ∃ f, (escF.getD i 0).toNat = f := ⟨_, rfl⟩
      have hc : wr.cell? ⟨w.heap.size, i, none⟩ = some (.int .u8 (f : Int)) := by
        rw [hbi.out.cell i]
        have := escC_at ⟨i, h2⟩
        rw [hf] at this
        exact this
      by_cases hfc : f = q
      · have hcc : escF.getD i 0 = c := UInt8.toNat_inj.1 (by rw [hf, hfc, HQ.out])
        have hkey : (⟨#[98, 116, 110, 102, 114, 34, 92]⟩ : ByteArray).extract i (i + 1) = escR (escF.getD i 0) := escKey ⟨i, h2⟩
        rw [hcc] at hkey
        have HKey := hide hkey
        subst hfc
        obtain ⟨i1, hi1⟩ : ∃ i1, i1 = i + 1 := ⟨_, rfl⟩
        have a2 : (i : Int) + 1 = (i1 : Int) := by omega
        rw [a2] at a1
        have b1 : (i1 : Int) ≤ 7 := by omega
        have b2 : (i : Int) ≤ (i1 : Int) := by omega
        have b3 : i1 ≤ 7 := by omega
        have b4 : i ≤ i1 := by omega
        have HI1 := hide hi1
        clear a2 hi1 hcc hkey htk h2 hf
        go_wp2_with fail
        go_ret
        exact ⟨by first | exact congrArg (fun s => Ending.returned (.string s)) HKey.out | (have := HKey.out; rw [← HI1.out] at this; exact congrArg (fun s => Ending.returned (.string s)) this), hmi.out⟩
      · have g1 : ((f : Int) == (q : Int)) = false := by rw [beq_eq_false_iff_ne]; omega
        have HT : Hid (∀ j, j < i + 1 → escF.getD j 0 ≠ c) := hide (fun j hj => by
          by_cases e : j = i
          · subst e; intro e2; exact hfc (by rw [← hf, e2, HQ.out])
          · exact htk.out j (by omega))
        clear htk h2 hf hfc
        go_wp2_with fail
        refine ⟨?rel, ?measure⟩
        case rel => exact ⟨i + 1, by omega, by go_num, HT, hmi, hbi⟩
        case measure => simp [intOf]; omega
    · have hi7 : i = 7 := by omega
      subst hi7
      have HS := hide (sign_not htk.out)
      clear htk h2
      by_cases c1 : q < 32
      · have d1 : decide ((q : Int) < 32) = true := decide_eq_true (by omega)
        have HE : Hid (escR c = ⟨#[117, 48, 48, hexd (q / 16), hexd (q % 16)]⟩) := hide (by
          unfold escR
          rw [HS.out, ← HQ.out]
          exact if_pos (.inl (by rw [UInt8.lt_iff_toNat_lt, HQ.out]; exact c1)))
        have HX1 := hide (fun (w' : World) => rsix_any w' (q / 16) (by omega))
        have HX2 := hide (fun (w' : World) => rsix_any w' (q % 16) (by omega))
        have e1 : ((q / 16 : Nat) : Int) = (q : Int) / 16 := by omega
        have e2 : ((q % 16 : Nat) : Int) = (q : Int) % 16 := by omega
        rw [e1] at HX1
        rw [e2] at HX2
        clear e1 e2
        clear c1
        go_wp2_with fail
        refine (HX1.out _).mono ?_
        rintro e2 w2 ⟨rfl, rfl⟩
        go_wp2_with fail
        refine (HX2.out _).mono ?_
        rintro e2 w2 ⟨rfl, rfl⟩
        go_wp2_with fail
        go_ret
        exact ⟨by rw [HE.out]; rfl, hmi.out⟩
      · have d1 : decide ((q : Int) < 32) = false := decide_eq_false (by omega)
        have d1n : decide (q < 32) = false := decide_eq_false (by omega)
        by_cases c2 : 126 < q
        · have d2 : decide ((126 : Int) < (q : Int)) = true := decide_eq_true (by omega)
          have HE : Hid (escR c = ⟨#[117, 48, 48, hexd (q / 16), hexd (q % 16)]⟩) := hide (by
            unfold escR
            rw [HS.out, ← HQ.out]
            exact if_pos (.inr (by rw [UInt8.lt_iff_toNat_lt, HQ.out]; exact c2)))
          have HX1 := hide (fun (w' : World) => rsix_any w' (q / 16) (by omega))
          have HX2 := hide (fun (w' : World) => rsix_any w' (q % 16) (by omega))
          have e1 : ((q / 16 : Nat) : Int) = (q : Int) / 16 := by omega
          have e2 : ((q % 16 : Nat) : Int) = (q : Int) % 16 := by omega
          rw [e1] at HX1
          rw [e2] at HX2
          clear e1 e2
          clear c1 c2
          go_wp2_with fail
          refine (HX1.out _).mono ?_
          rintro e2 w2 ⟨rfl, rfl⟩
          go_wp2_with fail
          refine (HX2.out _).mono ?_
          rintro e2 w2 ⟨rfl, rfl⟩
          go_wp2_with fail
          go_ret
          exact ⟨by rw [HE.out]; rfl, hmi.out⟩
        · have d2 : decide ((126 : Int) < (q : Int)) = false := decide_eq_false (by omega)
          have d2n : decide (126 < q) = false := decide_eq_false (by omega)
          have HE : Hid (escR c = ⟨#[]⟩) := hide (by
            unfold escR
            rw [HS.out]
            exact if_neg (by rw [UInt8.lt_iff_toNat_lt, UInt8.lt_iff_toNat_lt, HQ.out]; rintro (h | h); exact c1 h; exact c2 h))
          clear c1 c2
          go_wp2_with fail
          go_ret
          exact ⟨by rw [HE.out]; rfl, hmi.out⟩
theorem bcons (c : UInt8) : (bv c : Value) = .int .u8 (c.toNat : Int) := rfl
/-- the bytes that a Quote has so far -/
structure QR (w wr : World) (A : Option Addr) (c : Nat) (L : List UInt8) : Prop where
  own : wr.ownsRow w.heap.size 5 1 (.slice A L.length c) L.length (L.map bv)
  mod : Mod [] w wr
theorem QR.app (w wr : World) (A : Option Addr) (c : Nat) (L : List UInt8) (h : QR w wr A c L) (hl : L.length ≤ 1000000) (b : UInt8) :
    ∃ A' c' w6, (Builtin.append_ #[43, 43] 43 #[.slice A L.length c, .slice (some ⟨wr.heap.size, 0, none⟩) 1 1]).run Tryd.prog (wr.alloc (.cells #[.int .u8 (b.toNat : Int)] 5)) = .ok (.slice A' (L.length + 1) c') w6 ∧ QR w w6 A' c' (L ++ [b]) := by
  have m1 := h.mod.alloc (.cells #[.int .u8 (b.toNat : Int)] 5)
  have o1 := ((Mod.refl [] wr).alloc (.cells #[.int .u8 (b.toNat : Int)] 5)).own h.own (by simp)
  obtain ⟨A', c', w6, h1, h2, h3, h4⟩ := app_one (P := Tryd.prog) Tryd.underlying43 u8info rfl (wr.alloc (.cells #[.int .u8 (b.toNat : Int)] 5)) 43 w.heap.size _ _ _ o1 m1.size [.int .u8 (b.toNat : Int)] rfl (by simp [Value.oneCell']) (by omega) (by omega) wr.heap.size (fun j u hu => by
    rw [(Blk.new wr 5 #[.int .u8 (b.toNat : Int)]).cell j, List.getElem?_toArray, hu])
  refine ⟨A', c', w6, h1, ⟨?_, Mod.keep m1 h3 o1 (Nat.le_refl _)⟩⟩
  rw [List.map_append, List.length_append]
  exact h2
theorem QR.apps (w wr : World) (A : Option Addr) (c : Nat) (L : List UInt8) (h : QR w wr A c L) (s : ByteArray) (hl : L.length + s.size ≤ 1000000) :
    ∃ A' c' w6, (Builtin.append_ #[43, 9] 43 #[.slice A L.length c, .string s]).run Tryd.prog wr = .ok (.slice A' (L.length + s.size) c') w6 ∧ QR w w6 A' c' (L ++ s.data.toList) := by
  obtain ⟨A', c', w6, h1, h2, h3, h4⟩ := bapp_string wr 43 w.heap.size _ _ _ s h.own (by omega) h.mod.size
  refine ⟨A', c', w6, h1, ⟨?_, Mod.keep h.mod h3 h.own (Nat.le_refl _)⟩⟩
  rw [List.map_append, List.length_append, bytes_len]
  exact h2
theorem QR.conv (w wr : World) (A : Option Addr) (c : Nat) (L : List UInt8) (h : QR w wr A c L) (hL : L ≠ []) :
    (convert 43 9 (.slice A L.length c)).run Tryd.prog wr = .ok (str L) wr := by
  rcases h.own.2 with ⟨h0, h0'⟩ | ⟨g, cap, cur, hv, hb, hh, q1, q2, q3, q4⟩
  · exact absurd (List.eq_nil_of_length_eq_zero h0') hL
  · cases hv
    refine conv_bytes wr g L (cur.toList.drop L.length) c ?_
    have e : (L.map bv ++ cur.toList.drop L.length).toArray = cur := by
      rw [Nat.mul_one] at q4
      rw [← q4, List.take_append_drop]
    rw [e]
    exact hh
theorem esc_eq (c : UInt8) : esc c = if 0 < (escR c).size then 92 :: (escR c).data.toList else [c] := by
  unfold esc escR
  cases sign c with
  | some b => exact (if_pos (Nat.zero_lt_succ 0)).symm
  | none =>
    simp only
    by_cases h : c < 32 ∨ 126 < c
    · rw [if_pos h, if_pos h]; exact (if_pos (Nat.zero_lt_succ 4)).symm
    · rw [if_neg h, if_neg h]; rfl
theorem escR_le (c : UInt8) : (escR c).size ≤ 5 := by
  unfold escR
  cases sign c with
  | some b => exact (by decide : (1 : Nat) ≤ 5)
  | none =>
    simp only
    split
    · exact Nat.le_refl _
    · exact Nat.zero_le _
set_option maxRecDepth 100000 in
set_option maxHeartbeats 8000000 in
theorem rquote_any (w : World) (s : ByteArray) (hs : s.size ≤ 100000) : Calls Tryd.prog 38 #[.string s] w fun e w' => e = .returned (str (quo s.data.toList)) ∧ Mod [] w w' := by
  obtain ⟨D, hD⟩ : ∃ D, s.data.toList = D := ⟨_, rfl⟩
  have hDl : D.length = s.size := by rw [← hD]; exact bytes_len s
  have HD := hide hD
  have HDl := hide hDl
  rw [hD]
  have HM0 := hide ((Mod.refl [] w).alloc (.cells #[.int .u8 34] 5))
  have HO0 : Hid (QR w (w.alloc (.cells #[.int .u8 34] 5)) (some ⟨w.heap.size, 0, none⟩) 1 [34]) := hide ⟨World.ownsRow_lit w #[.int .u8 34] 1 (Nat.le_refl _) (by unfold maxLen; omega) rfl, HM0.out⟩
  clear hD hDl
  go_enter Tryd.func38, Tryd.ntmps38
  go_wp2_with fail
  go_loopw [3, 4] (fun ov iv wr => ∃ (i : Nat) (A : Option Addr) (c : Nat) (L : List UInt8), i ≤ s.size ∧ iv = .int .i64 (i : Int) ∧ ov = .slice A L.length c ∧ Hid (L = 34 :: (D.take i).flatMap esc) ∧ Hid (QR w wr A c L)) (fun _ iv _ => s.size - (intOf iv).toNat)
  case atStart => exact ⟨0, _, _, [34], by omega, rfl, rfl, hide rfl, HO0⟩
  case round =>
    obtain ⟨i, A, c, L, hi, rfl, rfl, hL, hq⟩ := hrel
    have hLl : L.length ≤ 600001 := by
      rw [hL.out, List.length_cons]
      have h1 := flat_esc (D.take i)
      have h2 : (D.take i).length ≤ i := List.length_take_le _ _
      omega
    by_cases h2 : i < s.size
    · have hii : (i : Int) < (s.size : Int) := by omega
      have a1 : IntKind.i64.wrap ((i : Int) + 1) = (i : Int) + 1 := IntWalk.i64_in _ (by omega)
      obtain ⟨x, hx⟩ : ∃ x, s[i] = x := ⟨_, rfl⟩
      have hdx : D[i]? = some x := by rw [← HD.out, ← hx]; simp [h2]; rfl
      have HE := hide (fun (w' : World) => resc_any w' x)
      have HT : Hid ((D.take (i + 1)).flatMap esc = (D.take i).flatMap esc ++ esc x) := hide (by rw [take_snoc hdx, List.flatMap_append]; simp)
      have HEq := hide (esc_eq x)
      have hle := escR_le x
      obtain ⟨E, hE⟩ : ∃ E, escR x = E := ⟨_, rfl⟩
      rw [hE] at HE HEq hle
      have hx' : (s[i].toNat : Int) = (x.toNat : Int) := by rw [hx]
      have HX := hide hx
      clear hdx hx hE
      go_wp2_with fail
      refine (HE.out _).mono ?_
      rintro e2 w2 ⟨rfl, m2⟩
      have HQ2 : Hid (QR w w2 A c L) := hide ⟨m2.own hq.out.own (by simp), hq.out.mod.trans m2 (by simp)⟩
      clear m2 HE hx'
      by_cases hE0 : 0 < E.size
      · have d1 : (0 : Int) < (E.size : Int) := by omega
        obtain ⟨A1, c1, w3, hr1, hq3⟩ := HQ2.out.app _ _ _ _ _ (by omega) 92
        have hr1' : (Builtin.append_ #[43, 43] 43 #[.slice A L.length c, .slice (some ⟨w2.heap.size, 0, none⟩) 1 1]).run Tryd.prog (w2.alloc (.cells #[.int .u8 92] 5)) = .ok (.slice A1 (L.length + 1) c1) w3 := hr1
        have hl1 : (L ++ [92]).length = L.length + 1 := by simp
        obtain ⟨A2, c2, w4, hr2, hq4⟩ := hq3.apps _ _ _ _ _ E (by rw [hl1]; omega)
        rw [hl1] at hr2
        have HL2 : Hid (L ++ [92] ++ E.data.toList = 34 :: (D.take (i + 1)).flatMap esc) := hide (by rw [HT.out, HEq.out, if_pos hE0, hL.out]; simp)
        have hl2 : (L ++ [92] ++ E.data.toList).length = L.length + 1 + E.size := by rw [List.length_append, hl1, bytes_len]
        have HQ4 := hide hq4
        have HLl2 := hide hl2
        have HR1 := hide hr1'
        have HR2 := hide hr2
        clear hr1 hq3 hq4 hl1 hl2 hE0 hr1' hr2
        go_wp2_with (first | (at_builtin; refine Lib.wpList_append_run _ rfl (.tmp 20) (.tmp 21) 43 43 rfl (.slice A L.length c) (.slice (some ⟨w2.heap.size, 0, none⟩) 1 1) rfl rfl _ w3 HR1.out ?_) | (at_builtin; refine Lib.wpList_append_run _ rfl (.tmp 22) (.tmp 23) 43 9 rfl (.slice A1 (L.length + 1) c1) (.string E) rfl rfl _ w4 HR2.out ?_))
        refine ⟨?rel, ?measure⟩
        case rel => exact ⟨i + 1, A2, c2, L ++ [92] ++ E.data.toList, by omega, by go_num, by rw [HLl2.out], HL2, HQ4⟩
        case measure => simp [intOf]; omega
      · have d1 : decide ((0 : Int) < (E.size : Int)) = false := decide_eq_false (by omega)
        have d1n : decide (0 < E.size) = false := decide_eq_false (by omega)
        obtain ⟨A1, c1, w3, hr1, hq3⟩ := HQ2.out.app _ _ _ _ _ (by omega) x
        have HL2 : Hid (L ++ [x] = 34 :: (D.take (i + 1)).flatMap esc) := hide (by rw [HT.out, HEq.out, if_neg hE0, hL.out]; simp)
        have HR1 := hide hr1
        have HQ3 := hide hq3
        have hx' : (s[i].toNat : Int) = (x.toNat : Int) := by rw [HX.out]
        have hl1 : (L ++ [x]).length = L.length + 1 := by simp
        have HLl1 := hide hl1
        clear hr1 hq3 hE0 hl1
        go_wp2_with (at_builtin; refine Lib.wpList_append_run _ rfl (.tmp 25) (.tmp 29) 43 43 rfl (.slice A L.length c) (.slice (some ⟨w2.heap.size, 0, none⟩) 1 1) rfl rfl _ w3 HR1.out ?_)
        refine ⟨?rel, ?measure⟩
        case rel => exact ⟨i + 1, A1, c1, L ++ [x], by omega, by go_num, by rw [HLl1.out], HL2, HQ3⟩
        case measure => simp [intOf]; omega
    · have hin : i = s.size := by omega
      obtain ⟨A1, c1, w3, hr1, hq3⟩ := hq.out.app _ _ _ _ _ (by omega) 34
      have hr1' : (Builtin.append_ #[43, 43] 43 #[.slice A L.length c, .slice (some ⟨wr.heap.size, 0, none⟩) 1 1]).run Tryd.prog (wr.alloc (.cells #[.int .u8 34] 5)) = .ok (.slice A1 (L.length + 1) c1) w3 := hr1
      have hcv := hq3.conv _ _ _ _ _ (by simp)
      have hl1 : (L ++ [34]).length = L.length + 1 := by simp
      rw [hl1] at hcv
      have HQ := hide (show L ++ [34] = quo D by rw [hL.out, hin, ← HDl.out, List.take_length, quo]; rfl)
      rw [HQ.out] at hcv
      have HR1 := hide hr1'
      have HMf := hide hq3.mod
      have hii : decide ((i : Int) < (s.size : Int)) = false := decide_eq_false (by omega)
      have hiin : decide (i < s.size) = false := decide_eq_false (by omega)
      clear hr1 hr1' hq3 hl1 hin h2
      go_wp2_with (at_builtin; refine Lib.wpList_append_run _ rfl (.tmp 31) (.tmp 32) 43 43 rfl (.slice A L.length c) (.slice (some ⟨wr.heap.size, 0, none⟩) 1 1) rfl rfl _ w3 HR1.out ?_)
      go_ret
      exact ⟨rfl, HMf.out⟩
end Go.Proofs.YtkbpndohpkcikaaDoor
