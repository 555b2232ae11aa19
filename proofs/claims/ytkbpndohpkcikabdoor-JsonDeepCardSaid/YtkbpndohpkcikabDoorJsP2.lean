/-
  json, plain: what is written is read as it was; what is read may be.
-/
import Derived.Test.YtkbpndohpkcikabDoorJsP1
import Derived.Lib.ItoaNum
set_option linter.unusedSimpArgs false
set_option linter.unusedVariables false
namespace Go.Proofs.YtkbpndohpkcikabDoor.Js
open Go
def jkeyed (obj : Bool) (k : List ByteArray) : List UInt8 := if obj then quo ((k.headD ⟨#[]⟩).data.toList) ++ [58] else []
mutual
def jwr : JV → List UInt8
  | .mk k i t l ks => if k = 0 then [110, 117, 108, 108] else if k = 1 then [102, 97, 108, 115, 101] else if k = 2 then [116, 114, 117, 101] else if k = 3 then Lib.itoa i else if k = 4 then quo t.data.toList
      else if k = 6 then 123 :: (jwrs true l ks ++ [125]) else 91 :: (jwrs false l ks ++ [93])
def jwrs (obj : Bool) : List JV → List ByteArray → List UInt8
  | [], _ => []
  | x :: l, ks => jkeyed obj ks ++ jwr x ++ jwrsR obj l ks.tail
def jwrsR (obj : Bool) : List JV → List ByteArray → List UInt8
  | [], _ => []
  | x :: l, ks => 44 :: (jkeyed obj ks ++ jwr x ++ jwrsR obj l ks.tail)
end

/-! ### numbers -/
theorem jnum_app (a b : List UInt8) (n : Nat) : jnum (a ++ b) n = jnum b (jnum a n) := by
  induction a generalizing n with
  | nil => rfl
  | cons c t ih => exact ih _
theorem dig_u8 {d : Nat} (h : d < 10) : isDi (UInt8.ofNat (48 + d)) = true ∧ (UInt8.ofNat (48 + d)).toNat = 48 + d := by
  have e : (UInt8.ofNat (48 + d)).toNat = 48 + d := by simp; omega
  refine ⟨?_, e⟩
  unfold isDi
  simp only [Bool.and_eq_true, decide_eq_true_eq, UInt8.le_iff_toNat_le, e]
  constructor
  · show 48 ≤ 48 + d; omega
  · show 48 + d ≤ 57; omega
theorem dec_all : ∀ u : Nat, (Lib.decDigits u).all isDi = true ∧ (Lib.decDigits u ≠ []) ∧ jnum (Lib.decDigits u) 0 = u ∧ (0 < u → ∃ c t, Lib.decDigits u = c :: t ∧ c ≠ 48) := by
  intro u
  induction u using Nat.strongRecOn with
  | _ u ih =>
    by_cases h : u < 10
    · obtain ⟨h1, h2⟩ := dig_u8 h
      rw [Lib.decDigits, dif_pos h]
      refine ⟨by simp only [List.all_cons, List.all_nil, h1, Bool.and_self], by simp, ?_, fun h0 => ⟨_, _, rfl, fun e => ?_⟩⟩
      · simp only [jnum, h2]; omega
      · have := congrArg UInt8.toNat e
        rw [h2] at this
        have e48 : (48 : UInt8).toNat = 48 := rfl
        omega
    · obtain ⟨h1, h2⟩ := dig_u8 (d := u % 10) (by omega)
      obtain ⟨h3, h4, h5, h6⟩ := ih (u / 10) (by omega)
      rw [Lib.decDigits, dif_neg h]
      refine ⟨by simp only [List.all_append, h3, List.all_cons, List.all_nil, h1, Bool.and_self], by simp, ?_, fun _ => ?_⟩
      · rw [jnum_app, h5]
        simp only [jnum, h2]
        omega
      · obtain ⟨c, t, e, hc⟩ := h6 (by omega)
        exact ⟨c, t ++ [UInt8.ofNat (48 + u % 10)], by rw [e]; rfl, hc⟩
theorem jdig_dec (neg : Bool) (u : Nat) (hu : neg = true → 0 < u) (r : List UInt8) (hr : r.head?.any isDi = false) : jdig neg (Lib.decDigits u ++ r) = .ok (Lib.decDigits u) r := by
  obtain ⟨h1, h2, h3, h4⟩ := dec_all u
  unfold jdig
  by_cases h0 : u = 0
  · subst h0
    have e : Lib.decDigits 0 = [48] := by rw [Lib.decDigits, dif_pos (by omega)]; rfl
    have hn : neg = false := by cases neg with | false => rfl | true => exact absurd (hu rfl) (by omega)
    rw [e, hn]
    rfl
  · obtain ⟨c, t, e, hc⟩ := h4 (by omega)
    rw [e] at h1 ⊢
    simp only [List.all_cons, Bool.and_eq_true] at h1
    obtain ⟨h5, h6⟩ := dw_app isDi t r h1.2 hr
    have hcond : (isDi c && (!neg || c != 48)) = true := by simp [h1.1, hc]
    simp only [List.cons_append, jtake, hcond, if_true, PR.bind, if_neg hc, h5, h6]
theorem jnumber_itoa (i : Int) (h1 : -9223372036854775808 ≤ i) (h2 : i < 9223372036854775808) (r : List UInt8) (hr : r.head?.any isDi = false) : jnumber (Lib.itoa i ++ r) = .ok i r := by
  unfold Lib.itoa
  by_cases hn : i < 0
  · rw [if_pos hn]
    unfold jnumber
    rw [List.cons_append, jsig_neg, jdig_dec true _ (fun _ => by omega) r hr]
    have e : jnumv (true, Lib.decDigits i.natAbs) = i := by
      unfold jnumv
      rw [if_pos rfl]
      simp only
      rw [(dec_all _).2.2.1]; omega
    simp only [PR.bind, e]
    rw [if_pos ⟨h1, h2⟩]
  · rw [if_neg hn]
    unfold jnumber
    obtain ⟨g1, g2, g3, g4⟩ := dec_all i.toNat
    obtain ⟨c, t, ec⟩ : ∃ c t, Lib.decDigits i.toNat = c :: t := by
      cases hd : Lib.decDigits i.toNat with
      | nil => exact absurd hd g2
      | cons c t => exact ⟨c, t, rfl⟩
    have h45 : c ≠ 45 := by
      rw [ec] at g1
      simp only [List.all_cons, Bool.and_eq_true] at g1
      rintro rfl
      simp [isDi] at g1
    have hj := jdig_dec false i.toNat (fun h => by cases h) r hr
    have e : jnumv (false, Lib.decDigits i.toNat) = i := by
      unfold jnumv
      simp only [Bool.false_eq_true, if_false]
      rw [g3]; omega
    rw [ec] at hj e ⊢
    rw [List.cons_append] at hj ⊢
    rw [jsig_pos h45, hj]
    simp only [PR.bind, e]
    rw [if_pos ⟨h1, h2⟩]

/-! ### texts -/
set_option maxRecDepth 100000 in
theorem jesc_hex : ∀ c : UInt8, sign c = none → (c < 32 ∨ 126 < c) → ∀ r, jesc (117 :: 48 :: 48 :: hexd (c.toNat / 16) :: hexd (c.toNat % 16) :: r) = .ok c r := by
  intro c _ _ r
  have hx : ∀ n : Nat, n < 16 → isHex (hexd n) = true ∧ (hexv (hexd n)).toNat = n := by decide
  have e1 := hx (c.toNat / 16) (by have := UInt8.toNat_lt c; omega)
  have e2 := hx (c.toNat % 16) (by omega)
  have e3 : hexv (hexd (c.toNat / 16)) <<< 4 ||| hexv (hexd (c.toNat % 16)) = c := by
    obtain ⟨v1, h1⟩ : ∃ v, hexv (hexd (c.toNat / 16)) = v := ⟨_, rfl⟩
    obtain ⟨v2, h2⟩ : ∃ v, hexv (hexd (c.toNat % 16)) = v := ⟨_, rfl⟩
    rw [h1, h2]
    rw [h1] at e1
    rw [h2] at e2
    have k1 : v1 = UInt8.ofNat (c.toNat / 16) := by rw [← e1.2]; simp
    have k2 : v2 = UInt8.ofNat (c.toNat % 16) := by rw [← e2.2]; simp
    rw [k1, k2]
    have all : ∀ n : Nat, n < 256 → UInt8.ofNat (n / 16) <<< 4 ||| UInt8.ofNat (n % 16) = UInt8.ofNat n := by decide
    rw [all _ (UInt8.toNat_lt c)]
    simp
  unfold jesc
  simp [jtake, PR.bind, unsign, e1.1, e2.1, e3]
theorem jtxtT_cons (c : UInt8) (r l : List UInt8) (k : List UInt8) (h : jtxtT r = .ok l k) : jtxtT (esc c ++ r) = .ok (c :: l) k := by
  rw [jtxtT_eq]
  unfold esc
  cases hs : sign c with
  | some b =>
    have key : ∀ c b : UInt8, sign c = some b → unsign b = some c ∧ b ≠ 117 := by
      intro c b
      unfold sign
      intro h
      repeat' split at h
      all_goals first
        | (cases h; done)
        | (rename_i hc; cases h; subst hc; decide)
    obtain ⟨k1, _⟩ := key c b hs
    have e : jesc (b :: r) = .ok c r := by
      unfold jesc
      simp [jtake, PR.bind, k1]
    simp only [List.cons_append, List.nil_append]
    simp [jtake, pri, PR.bind, e, h]
  | none =>
    by_cases hc : c < 32 ∨ 126 < c
    · have e := jesc_hex c hs hc r
      simp only [if_pos hc, List.cons_append, List.nil_append]
      simp [jtake, pri, PR.bind, e, h]
    · simp only [if_neg hc, List.cons_append, List.nil_append]
      have hp : pri c = true := by
        unfold pri
        simp only [Bool.and_eq_true, decide_eq_true_eq]
        simp only [UInt8.lt_iff_toNat_lt, UInt8.le_iff_toNat_le] at hc ⊢
        omega
      have h34 : c ≠ 34 := by rintro rfl; simp [sign] at hs
      have h92 : c ≠ 92 := by rintro rfl; simp [sign] at hs
      simp [jtake, hp, PR.bind, h34, h92, h]
theorem jtxtT_quo (s r : List UInt8) : jtxtT (s.flatMap esc ++ 34 :: r) = .ok s r := by
  induction s with
  | nil =>
    rw [jtxtT_eq]
    simp [jtake, pri, PR.bind]
  | cons c t ih =>
    rw [List.flatMap_cons, List.append_assoc]
    exact jtxtT_cons c _ _ _ ih
theorem jtext_quo (s r : List UInt8) : jtext (quo s ++ r) = .ok s r := by
  unfold jtext quo
  simp only [List.cons_append, List.append_assoc, List.nil_append]
  simp only [jtake, beq_self_eq_true, if_true, PR.bind]
  exact jtxtT_quo s r

def i64B (i : Int) : Bool := decide (-9223372036854775808 ≤ i) && decide (i < 9223372036854775808)
mutual
def jrng : JV → Bool
  | .mk k i t l ks => i64B i && jrngs l
def jrngs : List JV → Bool
  | [] => true
  | x :: l => jrng x && jrngs l
end
theorem i64_parts {i : Int} (h : i64B i = true) : -9223372036854775808 ≤ i ∧ i < 9223372036854775808 := by
  unfold i64B at h
  simpa using h
theorem itoa_head {i : Int} : ∃ c t, Lib.itoa i = c :: t ∧ (c = 45 ∨ isDi c = true) := by
  unfold Lib.itoa
  split
  · exact ⟨_, _, rfl, .inl rfl⟩
  · obtain ⟨h1, h2, _, _⟩ := dec_all i.toNat
    cases hd : Lib.decDigits i.toNat with
    | nil => exact absurd hd h2
    | cons c t =>
      rw [hd] at h1
      simp only [List.all_cons, Bool.and_eq_true] at h1
      exact ⟨c, t, rfl, .inr h1.1⟩
theorem di_facts {c : UInt8} (h : c = 45 ∨ isDi c = true) : isSp c = false ∧ c ≠ 93 ∧ c ≠ 125 ∧ c ≠ 110 ∧ c ≠ 102 ∧ c ≠ 116 ∧ c ≠ 34 ∧ c ≠ 91 ∧ c ≠ 123 := by
  rcases h with rfl | h
  · decide
  · have e : ∀ x : UInt8, isDi x = false → c ≠ x := fun x hx e => by rw [e, hx] at h; cases h
    refine ⟨?_, e _ rfl, e _ rfl, e _ rfl, e _ rfl, e _ rfl, e _ rfl, e _ rfl, e _ rfl⟩
    unfold isSp
    simp [e 32 rfl, e 9 rfl, e 10 rfl, e 13 rfl]
theorem jwr_head : ∀ v : JV, ∃ c t, jwr v = c :: t ∧ isSp c = false ∧ c ≠ 93 ∧ c ≠ 125
  | .mk k i t l ks => by
    rw [jwr]
    repeat' split
    · exact ⟨_, _, rfl, by decide⟩
    · exact ⟨_, _, rfl, by decide⟩
    · exact ⟨_, _, rfl, by decide⟩
    · obtain ⟨c, u, e, h⟩ := itoa_head (i := i)
      exact ⟨c, u, e, (di_facts h).1, (di_facts h).2.1, (di_facts h).2.2.1⟩
    · exact ⟨_, _, rfl, by decide⟩
    · exact ⟨_, _, rfl, by decide⟩
    · exact ⟨_, _, rfl, by decide⟩
theorem jsp_cons {c : UInt8} {t : List UInt8} (h : isSp c = false) : jsp (c :: t) = c :: t := by simp [jsp, List.dropWhile, h]
theorem jwrs_head (obj : Bool) (x : JV) (l : List JV) (ks : List ByteArray) : ∃ c t, jwrs obj (x :: l) ks = c :: t ∧ isSp c = false ∧ c ≠ (if obj then 125 else 93) := by
  rw [jwrs]
  cases obj with
  | true => exact ⟨34, _, rfl, by decide⟩
  | false =>
    obtain ⟨c, t, e, h1, h2, h3⟩ := jwr_head x
    exact ⟨c, t ++ jwrsR false l ks.tail, by simp [jkeyed, e], h1, by simpa using h2⟩
theorem tob_list (x : ByteArray) : tob x.data.toList = x := by unfold tob; simp
theorem jmay_parts {d : Nat} {k i : Int} {t : ByteArray} {l : List JV} {ks : List ByteArray} (h : jmay d (.mk k i t l ks) = true) :
    0 < d ∧ (k = 0 ∨ k = 1 ∨ k = 2 ∨ k = 3 ∨ k = 4 ∨ k = 5 ∨ k = 6) ∧ (k = 3 ∨ i = 0) ∧ (k = 4 ∨ t.size = 0) ∧ (k = 5 ∨ k = 6 ∨ l = []) ∧ (if k = 6 then ks.length = l.length else ks = []) ∧ jmays (d - 1) l = true := by
  rw [jmay] at h
  simp only [Bool.and_eq_true, Bool.or_eq_true, decide_eq_true_eq, List.isEmpty_iff] at h
  obtain ⟨⟨⟨⟨⟨⟨h1, h2⟩, h3⟩, h4⟩, h5⟩, h6⟩, h7⟩ := h
  refine ⟨h1, ?_, h3, h4, ?_, ?_, h7⟩
  · omega
  · rcases h5 with (h5 | h5) | h5
    · exact .inl h5
    · exact .inr (.inl h5)
    · exact .inr (.inr h5)
  · split at h6
    · rename_i hk; rw [if_pos hk]; simpa using h6
    · rename_i hk; rw [if_neg hk]; simpa using h6
theorem size_zero {t : ByteArray} (h : t.size = 0) : t = ⟨#[]⟩ := by
  have : t.data.size = 0 := h
  cases t with
  | mk d => simp at this; rw [this]
theorem front_keyed (obj : Bool) (ks : List ByteArray) (r : List UInt8) : jfront obj (jkeyed obj ks ++ r) = .ok (if obj then [(ks.headD ⟨#[]⟩).data.toList] else []) r := by
  cases obj with
  | false => rfl
  | true =>
    unfold jfront jkeyed
    simp only [if_true]
    have e : jsp (quo (ks.headD ⟨#[]⟩).data.toList ++ [58] ++ r) = quo (ks.headD ⟨#[]⟩).data.toList ++ 58 :: r := by
      rw [List.append_assoc]
      exact jsp_cons (by decide)
    unfold jkey
    rw [e, jtext_quo]
    simp only [PR.bind]
    rw [jsp_cons (by decide)]
    rfl
mutual
theorem val_wr : ∀ (v : JV) (d : Nat) (r : List UInt8), jmay d v = true → jrng v = true → r.head?.any isDi = false → jvalue d (jwr v ++ r) = .ok v (jsp r)
  | .mk k i t l ks, d, r, h, hr, hd => by
    obtain ⟨h1, h2, h3, h4, h5, h6, h7⟩ := jmay_parts h
    obtain ⟨d, rfl⟩ : ∃ e, d = e + 1 := ⟨d - 1, by omega⟩
    obtain ⟨c, u, e, hc, _⟩ := jwr_head (.mk k i t l ks)
    have esp : jsp (jwr (.mk k i t l ks) ++ r) = jwr (.mk k i t l ks) ++ r := by rw [e, List.cons_append, jsp_cons hc]
    rw [jrng, Bool.and_eq_true] at hr
    rw [jvalue, esp]
    have body : jval1 (jvalue d) (jwr (.mk k i t l ks) ++ r) = .ok (.mk k i t l ks) r := by
      rw [jwr]
      by_cases k0 : k = 0
      · subst k0
        simp only [show ¬ (0 : Int) = 6 by decide, if_false, show ¬ ((0 : Int) = 5) by decide, show ¬ ((0 : Int) = 4) by decide, show ¬ ((0 : Int) = 3) by decide, false_or] at h3 h4 h5 h6
        subst h3 h5 h6
        obtain rfl := size_zero h4
        rfl
      by_cases k1 : k = 1
      · subst k1
        simp only [show ¬ (1 : Int) = 6 by decide, if_false, show ¬ ((1 : Int) = 5) by decide, show ¬ ((1 : Int) = 4) by decide, show ¬ ((1 : Int) = 3) by decide, false_or] at h3 h4 h5 h6
        subst h3 h5 h6
        obtain rfl := size_zero h4
        rfl
      by_cases k2 : k = 2
      · subst k2
        simp only [show ¬ (2 : Int) = 6 by decide, if_false, show ¬ ((2 : Int) = 5) by decide, show ¬ ((2 : Int) = 4) by decide, show ¬ ((2 : Int) = 3) by decide, false_or] at h3 h4 h5 h6
        subst h3 h5 h6
        obtain rfl := size_zero h4
        rfl
      rw [if_neg k0, if_neg k1, if_neg k2]
      by_cases k3 : k = 3
      · subst k3
        simp only [show ¬ (3 : Int) = 6 by decide, if_false, show ¬ ((3 : Int) = 5) by decide, show ¬ ((3 : Int) = 4) by decide, false_or] at h4 h5 h6
        subst h5 h6
        obtain rfl := size_zero h4
        rw [if_pos rfl]
        obtain ⟨c, u, e, h⟩ := itoa_head (i := i)
        obtain ⟨g1, g2, g3, g4, g5, g6, g7, g8, g9⟩ := di_facts h
        have hn := jnumber_itoa i (i64_parts hr.1).1 (i64_parts hr.1).2 r hd
        rw [e, List.cons_append] at hn ⊢
        unfold jval1
        simp only [List.head?_cons, Option.some.injEq, if_neg g4, if_neg g5, if_neg g6, if_neg g7, if_neg g8, if_neg g9, hn, PR.bind]
      rw [if_neg k3]
      by_cases k4 : k = 4
      · subst k4
        simp only [show ¬ (4 : Int) = 6 by decide, if_false, show ¬ ((4 : Int) = 5) by decide, show ¬ ((4 : Int) = 3) by decide, false_or] at h3 h5 h6
        subst h3 h5 h6
        rw [if_pos rfl]
        unfold jval1
        have ht := jtext_quo t.data.toList r
        have eh : (quo t.data.toList ++ r).head? = some 34 := rfl
        simp only [eh, Option.some.injEq, show ¬ (34 : UInt8) = 110 by decide, show ¬ (34 : UInt8) = 102 by decide, show ¬ (34 : UInt8) = 116 by decide, if_false, if_true, ht, PR.bind, tob_list]
      rw [if_neg k4]
      obtain rfl : i = 0 := by omega
      obtain rfl := size_zero (h4.resolve_left k4)
      have hjl : ∀ obj : Bool, (obj = true → ks.length = l.length) → (obj = false → ks = []) → jlist (jvalue d) obj (jwrs obj l ks ++ (if obj then 125 else 93) :: r) = .ok (l, ks.map fun x => x.data.toList) r := by
        intro obj ho hno
        unfold jlist
        cases l with
        | nil =>
          have hks : ks = [] := by
            cases obj with
            | true => exact List.eq_nil_of_length_eq_zero (ho rfl)
            | false => exact hno rfl
          subst hks
          rw [jwrs, List.nil_append, jsp_cons (by cases obj <;> decide)]
          simp only [List.head?_cons, if_true, List.tail_cons, List.map_nil]
        | cons x l =>
          obtain ⟨c, t, e, g1, g2⟩ := jwrs_head obj x l ks
          have := many_wr obj (x :: l) d ks r (by simp) h7 hr.2 ho hno
          rw [e, List.cons_append] at this ⊢
          rw [jsp_cons g1]
          simp only [List.head?_cons, Option.some.injEq, if_neg g2, this]
      by_cases k6 : k = 6
      · subst k6
        rw [if_pos rfl] at h6 ⊢
        have := hjl true (fun _ => h6) (fun h => by cases h)
        simp only [if_true] at this
        unfold jval1
        simp only [List.cons_append, List.append_assoc, List.nil_append, List.head?_cons, Option.some.injEq, show ¬ (123 : UInt8) = 110 by decide, show ¬ (123 : UInt8) = 102 by decide, show ¬ (123 : UInt8) = 116 by decide, show ¬ (123 : UInt8) = 34 by decide, show ¬ (123 : UInt8) = 91 by decide, if_false, if_true, List.tail_cons, this, PR.bind, List.map_map]
        congr 2
        simp [Function.comp_def, tob_list]
      · rw [if_neg k6] at h6 ⊢
        subst h6
        obtain rfl : k = 5 := by omega
        have := hjl false (fun h => by cases h) (fun _ => rfl)
        simp only [Bool.false_eq_true, if_false] at this
        unfold jval1
        simp only [List.cons_append, List.append_assoc, List.nil_append, List.head?_cons, Option.some.injEq, show ¬ (91 : UInt8) = 110 by decide, show ¬ (91 : UInt8) = 102 by decide, show ¬ (91 : UInt8) = 116 by decide, show ¬ (91 : UInt8) = 34 by decide, if_false, if_true, List.tail_cons, this, PR.bind, List.map_nil]
    rw [body]
    rfl
theorem many_wr (obj : Bool) : ∀ (l : List JV) (d : Nat) (ks : List ByteArray) (r : List UInt8), l ≠ [] → jmays d l = true → jrngs l = true → (obj = true → ks.length = l.length) → (obj = false → ks = []) →
    jmanyT (jvalue d) obj (jwrs obj l ks ++ (if obj then 125 else 93) :: r) = .ok (l, ks.map fun x => x.data.toList) r
  | [], _, _, _, h, _, _, _, _ => absurd rfl h
  | x :: l, d, ks, r, _, hm, hr, ho, hno => by
    rw [jmays, Bool.and_eq_true] at hm
    rw [jrngs, Bool.and_eq_true] at hr
    rw [jmanyT_eq (Good.value d), jwrs]
    unfold jstep
    rw [List.append_assoc, List.append_assoc, front_keyed]
    simp only [PR.bind]
    have hkeys : (if obj then [(ks.headD ⟨#[]⟩).data.toList] else []) ++ ks.tail.map (fun x : ByteArray => x.data.toList) = ks.map fun x => x.data.toList := by
      cases obj with
      | false => rw [hno rfl]; rfl
      | true =>
        cases ks with
        | nil => have := ho rfl; simp at this
        | cons k ks => rfl
    cases l with
    | nil =>
      have hv := val_wr x d ((if obj then 125 else 93) :: r) hm.1 hr.1 (by cases obj <;> rfl)
      rw [jsp_cons (by cases obj <;> decide)] at hv
      rw [jwrsR, List.nil_append, hv]
      have ht : ks.tail = [] := by
        cases obj with
        | false => rw [hno rfl]; rfl
        | true =>
          have := ho rfl
          cases ks with
          | nil => rfl
          | cons k ks => simp at this; simp [this]
      rw [ht] at hkeys
      simp only [List.map_nil, List.append_nil] at hkeys
      simp only [jtake, beq_self_eq_true, Bool.or_true, if_true, PR.bind, hkeys]
    | cons y l =>
      have e : jwrsR obj (y :: l) ks.tail = 44 :: jwrs obj (y :: l) ks.tail := by rw [jwrsR, jwrs]
      have hv := val_wr x d (44 :: (jwrs obj (y :: l) ks.tail ++ (if obj then 125 else 93) :: r)) hm.1 hr.1 rfl
      rw [jsp_cons (by decide)] at hv
      rw [e, List.cons_append, hv]
      have hq := many_wr obj (y :: l) d ks.tail r (by simp) hm.2 hr.2 (fun h => by have := ho h; simp at this ⊢; omega) (fun h => by rw [hno h]; rfl)
      have e44 : (44 == (if obj then 125 else 93 : UInt8)) = false := by cases obj <;> decide
      simp only [jtake, beq_self_eq_true, Bool.true_or, if_true, e44, Bool.false_eq_true, if_false, PR.bind, hq, hkeys]
end
theorem jread_wr {v : JV} (h : jmay 8 v = true) (hr : jrng v = true) : jread (jwr v) = (v, 0, 0) := by
  have := val_wr v 8 [] h hr rfl
  rw [List.append_nil] at this
  unfold jread
  rw [this]
  rfl

/-! ### what is read may be -/
theorem bind_ok {α β : Type} {x : PR α} {f : α → Pa β} {v : β} {r : List UInt8} (h : x.bind f = .ok v r) : ∃ a k, x = .ok a k ∧ f a k = .ok v r := by
  cases x with
  | er e => cases h
  | ok a k => exact ⟨a, k, rfl, h⟩
def ManyOk (d : Nat) (obj : Bool) (x : List JV × List (List UInt8)) : Prop := jmays d x.1 = true ∧ jrngs x.1 = true ∧ (if obj then x.2.length = x.1.length else x.2 = [])
theorem many_may {d : Nat} {P : Pa JV} (hg : Good P) (hP : ∀ s v r, P s = .ok v r → jmay d v = true ∧ jrng v = true) (obj : Bool) (n : Nat) : ∀ (s : List UInt8) (x : List JV × List (List UInt8)) (r : List UInt8), s.length < n → jmanyT P obj s = .ok x r → ManyOk d obj x := by
  induction n with
  | zero => intro s x r h; omega
  | succ n ih =>
    intro s x r hl h
    rw [jmanyT_eq hg] at h
    unfold jstep at h
    obtain ⟨k, r1, h1, ha⟩ := bind_ok h
    obtain ⟨v, r2, h2, hb⟩ := bind_ok ha
    obtain ⟨c, r3, h3, he⟩ := bind_ok hb
    clear h ha hb
    obtain ⟨m1, m2⟩ := hP _ _ _ h2
    have l1 := ((Good.front obj).at_ s).le h1
    have l2 := (hg.at_ r1).le h2
    obtain ⟨rfl, _⟩ := take_ok h3
    simp only [List.length_cons] at l2
    have hk : if obj then k.length = 1 else k = [] := by
      cases obj with
      | true =>
        unfold jfront at h1
        simp only [if_true] at h1
        obtain ⟨a, q, _, h1⟩ := bind_ok h1
        cases h1; rfl
      | false => cases h1; rfl
    by_cases hc : (c == (if obj then 125 else 93)) = true
    · rw [if_pos hc] at he
      cases he
      refine ⟨by simp [jmays, m1], by simp [jrngs, m2], ?_⟩
      cases obj with
      | true => simpa using hk
      | false => simpa using hk
    · rw [if_neg hc] at he
      obtain ⟨y, r4, h4, hf⟩ := bind_ok he
      cases hf
      obtain ⟨q1, q2, q3⟩ := ih r3 y _ (by omega) h4
      refine ⟨by simp [jmays, m1, q1], by simp [jrngs, m2, q2], ?_⟩
      cases obj with
      | true => simp only [if_true] at hk q3 ⊢; simp [hk, q3]; omega
      | false => simp only [Bool.false_eq_true, if_false] at hk q3 ⊢; simp [hk, q3]
theorem list_may {d : Nat} {P : Pa JV} (hg : Good P) (hP : ∀ s v r, P s = .ok v r → jmay d v = true ∧ jrng v = true) {obj : Bool} {s r : List UInt8} {x : List JV × List (List UInt8)} (h : jlist P obj s = .ok x r) : ManyOk d obj x := by
  unfold jlist at h
  simp only at h
  by_cases hc : (jsp s).head? = some (if obj then 125 else 93)
  · rw [if_pos hc] at h
    cases h
    refine ⟨rfl, rfl, ?_⟩
    cases obj <;> rfl
  · rw [if_neg hc] at h
    exact many_may hg hP obj _ _ _ _ (Nat.lt_succ_self _) h
theorem number_rng {s r : List UInt8} {i : Int} (h : jnumber s = .ok i r) : i64B i = true := by
  unfold jnumber at h
  cases hs : jsig s with
  | er e => rw [hs] at h; cases h
  | ok x k =>
    rw [hs] at h
    simp only at h
    by_cases hc : -9223372036854775808 ≤ jnumv x ∧ jnumv x < 9223372036854775808
    · rw [if_pos hc] at h
      cases h
      unfold i64B
      simpa using hc
    · rw [if_neg hc] at h; cases h
theorem val_may : ∀ (d : Nat) (s : List UInt8) (v : JV) (r : List UInt8), jvalue d s = .ok v r → jmay d v = true ∧ jrng v = true
  | 0, s, v, r, h => by cases h
  | d + 1, s, v, r, h => by
    rw [jvalue] at h
    obtain ⟨w, k, h1, h⟩ := bind_ok h
    cases h
    unfold jval1 at h1
    repeat' split at h1
    · obtain ⟨_, _, _, h⟩ := bind_ok h1; cases h; exact ⟨rfl, rfl⟩
    · obtain ⟨_, _, _, h⟩ := bind_ok h1; cases h; exact ⟨rfl, rfl⟩
    · obtain ⟨_, _, _, h⟩ := bind_ok h1; cases h; exact ⟨rfl, rfl⟩
    · obtain ⟨_, _, _, h⟩ := bind_ok h1; cases h; exact ⟨by simp [jmay, jmays], rfl⟩
    · obtain ⟨x, _, hx, h⟩ := bind_ok h1
      cases h
      obtain ⟨q1, q2, q3⟩ := list_may (Good.value d) (val_may d) hx
      simp only [Bool.false_eq_true, if_false] at q3
      refine ⟨?_, by simp [jrng, q2, i64B]⟩
      simp [jmay, q1, q3]
      decide
    · obtain ⟨x, _, hx, h⟩ := bind_ok h1
      cases h
      obtain ⟨q1, q2, q3⟩ := list_may (Good.value d) (val_may d) hx
      simp only [if_true] at q3
      refine ⟨?_, by simp [jrng, q2, i64B]⟩
      simp [jmay, q1, q3]
      decide
    · obtain ⟨x, _, hx, h⟩ := bind_ok h1
      cases h
      have := number_rng hx
      exact ⟨by simp [jmay, jmays]; decide, by simp [jrng, jrngs, this]⟩
theorem jread_may {s : List UInt8} {v : JV} {a : Int} (h : jread s = (v, a, 0)) : jmay 8 v = true ∧ jrng v = true ∧ a = 0 := by
  unfold jread at h
  split at h
  · rename_i v' hv
    cases h
    obtain ⟨h1, h2⟩ := val_may _ _ _ _ hv
    exact ⟨h1, h2, rfl⟩
  · cases h
  · cases h
theorem jread_bad {s : List UInt8} {v : JV} {a e : Int} (h : jread s = (v, a, e)) (he : e ≠ 0) : v = jv0 ∧ e = 2 ∧ 0 ≤ a ∧ a ≤ s.length := by
  unfold jread at h
  split at h
  · cases h; exact absurd rfl he
  · rename_i r _ hv
    cases h
    have := ((Good.value 8).at_ s).le hv
    refine ⟨rfl, rfl, ?_, ?_⟩ <;> omega
  · rename_i r hv
    cases h
    obtain ⟨p, rfl, _⟩ := ((Good.value 8).at_ s).er _ hv
    refine ⟨rfl, rfl, ?_, ?_⟩ <;> (simp only [List.length_append]; omega)
end Go.Proofs.YtkbpndohpkcikabDoor.Js
