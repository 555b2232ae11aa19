/-
  json: strconv.ParseInt.
-/
import Derived.Test.YtkbpndohpkcikaaDoorJsRd3
import Derived.Shelf.Strconv.ErrVarParseInt
import Derived.Lib.LaidTab
import Derived.Lib.ItoaNum
namespace Go.Proofs.YtkbpndohpkcikaaDoor
open Go.RowKit Js
set_option linter.unusedVariables false

def piRen : Go.Shelf.Ren := ⟨fun | 129 => 67 | 171 => 83 | 174 => 55 | 205 => 82 | 243 => 84 | 245 => 65 | 246 => 48 | 247 => 64 | 279 => 73 | 280 => 74 | 281 => 75 | 282 => 76 | 283 => 57 | 284 => 58 | 285 => 59 | 286 => 60 | 287 => 72 | 316 => 81 | 317 => 66 | 318 => 68 | 319 => 69 | 320 => 70 | 321 => 79 | 322 => 80 | 337 => 77 | 338 => 78 | n => n, fun | 0 => 0 | 2 => 2 | 3 => 3 | 4 => 4 | 5 => 5 | 9 => 9 | 15 => 15 | 16 => 16 | 17 => 17 | 18 => 18 | 19 => 19 | 20 => 20 | 21 => 21 | 37 => 43 | 46 => 76 | 51 => 96 | 53 => 86 | 75 => 60 | 80 => 47 | 85 => 80 | 127 => 66 | 143 => 114 | 145 => 116 | 167 => 100 | 168 => 103 | 171 => 85 | 173 => 89 | 175 => 101 | 210 => 110 | 212 => 95 | 213 => 97 | 232 => 112 | 233 => 113 | n => n, fun | 15 => 2 | 16 => 3 | 17 => 0 | 18 => 4 | 19 => 5 | n => n⟩
theorem piLays : Go.Proofs.LaysC.n174 Tryd.prog piRen := {
  mixed := by kernel_rfl,
  f129 := Tryd.func67.trans (congrArg some (by kernel_rfl)),
  f171 := Tryd.func83.trans (congrArg some (by kernel_rfl)),
  f174 := Tryd.func55.trans (congrArg some (by kernel_rfl)),
  f205 := Tryd.func82.trans (congrArg some (by kernel_rfl)),
  f243 := Tryd.func84.trans (congrArg some (by kernel_rfl)),
  f245 := Tryd.func65.trans (congrArg some (by kernel_rfl)),
  f246 := Tryd.func48.trans (congrArg some (by kernel_rfl)),
  f247 := Tryd.func64.trans (congrArg some (by kernel_rfl)),
  f279 := Tryd.func73.trans (congrArg some (by kernel_rfl)),
  f280 := Tryd.func74.trans (congrArg some (by kernel_rfl)),
  f281 := Tryd.func75.trans (congrArg some (by kernel_rfl)),
  f282 := Tryd.func76.trans (congrArg some (by kernel_rfl)),
  f283 := Tryd.func57.trans (congrArg some (by kernel_rfl)),
  f284 := Tryd.func58.trans (congrArg some (by kernel_rfl)),
  f285 := Tryd.func59.trans (congrArg some (by kernel_rfl)),
  f286 := Tryd.func60.trans (congrArg some (by kernel_rfl)),
  f287 := Tryd.func72.trans (congrArg some (by kernel_rfl)),
  f316 := Tryd.func81.trans (congrArg some (by kernel_rfl)),
  f317 := Tryd.func66.trans (congrArg some (by kernel_rfl)),
  f318 := Tryd.func68.trans (congrArg some (by kernel_rfl)),
  f319 := Tryd.func69.trans (congrArg some (by kernel_rfl)),
  f320 := Tryd.func70.trans (congrArg some (by kernel_rfl)),
  f321 := Tryd.func79.trans (congrArg some (by kernel_rfl)),
  f322 := Tryd.func80.trans (congrArg some (by kernel_rfl)),
  f337 := Tryd.func77.trans (congrArg some (by kernel_rfl)),
  f338 := Tryd.func78.trans (congrArg some (by kernel_rfl)),
  t0 := Tryd.underlying0,
  a0 := Tryd.isAgg0,
  z0 := Tryd.sizeOf0,
  v0 := Tryd.zeroValue0,
  t2 := Tryd.underlying2,
  a2 := Tryd.isAgg2,
  z2 := Tryd.sizeOf2,
  v2 := Tryd.zeroValue2,
  t3 := Tryd.underlying3,
  a3 := Tryd.isAgg3,
  z3 := Tryd.sizeOf3,
  v3 := Tryd.zeroValue3,
  t4 := Tryd.underlying4,
  a4 := Tryd.isAgg4,
  z4 := Tryd.sizeOf4,
  v4 := Tryd.zeroValue4,
  t5 := Tryd.underlying5,
  a5 := Tryd.isAgg5,
  z5 := Tryd.sizeOf5,
  v5 := Tryd.zeroValue5,
  t9 := Tryd.underlying9,
  a9 := Tryd.isAgg9,
  z9 := Tryd.sizeOf9,
  v9 := Tryd.zeroValue9,
  t20 := Tryd.underlying20,
  a20 := Tryd.isAgg20,
  z20 := Tryd.sizeOf20,
  v20 := Tryd.zeroValue20,
  t21 := Tryd.underlying21,
  a21 := Tryd.isAgg21,
  z21 := Tryd.sizeOf21,
  v21 := Tryd.zeroValue21,
  t37 := Tryd.underlying43,
  a37 := Tryd.isAgg43,
  z37 := Tryd.sizeOf43,
  v37 := Tryd.zeroValue43,
  t46 := Tryd.underlying76,
  a46 := Tryd.isAgg76,
  z46 := Tryd.sizeOf76,
  v46 := Tryd.zeroValue76,
  t51 := Tryd.underlying96,
  a51 := Tryd.isAgg96,
  z51 := Tryd.sizeOf96,
  v51 := Tryd.zeroValue96,
  t53 := Tryd.underlying86,
  a53 := Tryd.isAgg86,
  z53 := Tryd.sizeOf86,
  v53 := Tryd.zeroValue86,
  t75 := Tryd.underlying60,
  a75 := Tryd.isAgg60,
  z75 := Tryd.sizeOf60,
  v75 := Tryd.zeroValue60,
  t85 := Tryd.underlying80,
  a85 := Tryd.isAgg80,
  z85 := Tryd.sizeOf80,
  v85 := Tryd.zeroValue80,
  t127 := Tryd.underlying66,
  a127 := Tryd.isAgg66,
  z127 := Tryd.sizeOf66,
  v127 := Tryd.zeroValue66,
  t143 := Tryd.underlying114,
  a143 := Tryd.isAgg114,
  z143 := Tryd.sizeOf114,
  v143 := Tryd.zeroValue114,
  t145 := Tryd.underlying116,
  a145 := Tryd.isAgg116,
  z145 := Tryd.sizeOf116,
  v145 := Tryd.zeroValue116,
  t167 := Tryd.underlying100,
  a167 := Tryd.isAgg100,
  z167 := Tryd.sizeOf100,
  v167 := Tryd.zeroValue100,
  t168 := Tryd.underlying103,
  a168 := Tryd.isAgg103,
  z168 := Tryd.sizeOf103,
  v168 := Tryd.zeroValue103,
  t171 := Tryd.underlying85,
  a171 := Tryd.isAgg85,
  z171 := Tryd.sizeOf85,
  v171 := Tryd.zeroValue85,
  t173 := Tryd.underlying89,
  a173 := Tryd.isAgg89,
  z173 := Tryd.sizeOf89,
  v173 := Tryd.zeroValue89,
  t175 := Tryd.underlying101,
  a175 := Tryd.isAgg101,
  z175 := Tryd.sizeOf101,
  v175 := Tryd.zeroValue101,
  t210 := Tryd.underlying110,
  a210 := Tryd.isAgg110,
  z210 := Tryd.sizeOf110,
  v210 := Tryd.zeroValue110,
  t212 := Tryd.underlying95,
  a212 := Tryd.isAgg95,
  z212 := Tryd.sizeOf95,
  v212 := Tryd.zeroValue95,
  t213 := Tryd.underlying97,
  a213 := Tryd.isAgg97,
  z213 := Tryd.sizeOf97,
  t232 := Tryd.underlying112,
  a232 := Tryd.isAgg112,
  z232 := Tryd.sizeOf112,
  v232 := Tryd.zeroValue112,
  t233 := Tryd.underlying113,
  a233 := Tryd.isAgg113,
  z233 := Tryd.sizeOf113,
  v233 := Tryd.zeroValue113,
  g15 := by kernel_rfl,
  g16 := by kernel_rfl,
  g17 := by kernel_rfl,
  g18 := by kernel_rfl,
  g19 := by kernel_rfl,
  t80 := Tryd.underlying47,
  a80 := Tryd.isAgg47,
  z80 := Tryd.sizeOf47,
  v80 := Tryd.zeroValue47,
  i0 := by kernel_rfl,
  i2 := by kernel_rfl,
  i3 := by kernel_rfl,
  i4 := by kernel_rfl,
  i5 := by kernel_rfl,
  i9 := by kernel_rfl,
  i20 := by kernel_rfl,
  i21 := by kernel_rfl,
  i37 := by kernel_rfl,
  i46 := by kernel_rfl,
  i51 := by kernel_rfl,
  i53 := by kernel_rfl,
  i75 := by kernel_rfl,
  i80 := by kernel_rfl,
  i85 := by kernel_rfl,
  i127 := by kernel_rfl,
  i143 := by kernel_rfl,
  i145 := by kernel_rfl,
  i167 := by kernel_rfl,
  i168 := by kernel_rfl,
  i171 := by kernel_rfl,
  i173 := by kernel_rfl,
  i175 := by kernel_rfl,
  i210 := by kernel_rfl,
  i212 := by kernel_rfl,
  i232 := by kernel_rfl,
  i233 := by kernel_rfl,
  m15 := by kernel_rfl,
  m16 := by kernel_rfl,
  m17 := by kernel_rfl,
  m18 := by kernel_rfl,
  m19 := by kernel_rfl,
  c0 := by kernel_rfl,
  c2 := by kernel_rfl,
  c3 := by kernel_rfl,
  c4 := by kernel_rfl,
  c5 := by kernel_rfl,
  c9 := by kernel_rfl,
  c20 := by kernel_rfl,
  c21 := by kernel_rfl,
  c37 := by kernel_rfl,
  c46 := by kernel_rfl,
  c51 := by kernel_rfl,
  c53 := by kernel_rfl,
  c75 := by kernel_rfl,
  c80 := by kernel_rfl,
  c85 := by kernel_rfl,
  c127 := by kernel_rfl,
  c143 := by kernel_rfl,
  c145 := by kernel_rfl,
  c167 := by kernel_rfl,
  c168 := by kernel_rfl,
  c171 := by kernel_rfl,
  c173 := by kernel_rfl,
  c175 := by kernel_rfl,
  c210 := by kernel_rfl,
  c212 := by kernel_rfl,
  c213 := by kernel_rfl,
  c232 := by kernel_rfl,
  c233 := by kernel_rfl }

/-- the library's variables that are read: as laid, in whatever world turns nothing below B -/
def JVars (B : Nat) (w : World) : Prop := ∀ w', Below B w w' → Lib.TabIs Tryd.prog w' "internal/strconv.uint64pow10" .u64 Lib.pow10Tab ∧ ∃ tp p, w'.var? Tryd.prog "strconv.ErrRange" = some #[.iface tp p]
theorem JVars.step {B : Nat} {w w' : World} (h : JVars B w) (hb : Below B w w') : JVars B w' := fun w'' h2 => h w'' (hb.trans h2)
theorem JVars.mod {B : Nat} {F : List Nat} {w w' : World} (h : JVars B w) (m : Mod F w w') (hB : B ≤ w.heap.size) (hF : ∀ x ∈ F, B ≤ x) : JVars B w' := h.step (m.below hB hF)

/-! ### plain -/
theorem jnum_ge : ∀ (l : List UInt8) (a : Nat), a ≤ jnum l a
  | [], a => Nat.le_refl _
  | c :: t, a => Nat.le_trans (by omega) (jnum_ge t (a * 10 + (c.toNat - 48)))
theorem di_nat {c : UInt8} (h : isDi c = true) : 48 ≤ c.toNat ∧ c.toNat ≤ 57 := by
  unfold isDi at h
  simp only [Bool.and_eq_true, decide_eq_true_eq, UInt8.le_iff_toNat_le] at h
  exact h
theorem uintM_digits : ∀ (l : List UInt8) (a : Nat), l.all isDi = true → Lib.parseUintM 18446744073709551615 a l = if jnum l a ≤ 18446744073709551615 ∨ l = [] then .ok (jnum l a) else .range
  | [], a, _ => by rw [if_pos (.inr rfl)]; rfl
  | c :: t, a, h => by
    simp only [List.all_cons, Bool.and_eq_true] at h
    have hd := di_nat h.1
    have hge := jnum_ge t (a * 10 + (c.toNat - 48))
    rw [Lib.parseUintM, if_pos hd]
    have e : jnum (c :: t) a = jnum t (a * 10 + (c.toNat - 48)) := rfl
    by_cases h1 : 1844674407370955162 ≤ a
    · rw [if_pos h1, if_neg]
      rintro (h2 | h2)
      · rw [e] at h2; omega
      · cases h2
    · rw [if_neg h1]
      by_cases h2 : 18446744073709551615 < a * 10 + (c.toNat - 48)
      · rw [if_pos h2, if_neg]
        rintro (h3 | h3)
        · rw [e] at h3; omega
        · cases h3
      · rw [if_neg h2, uintM_digits t _ h.2, e]
        by_cases h3 : jnum t (a * 10 + (c.toNat - 48)) ≤ 18446744073709551615
        · rw [if_pos (.inl h3), if_pos (.inl h3)]
        · rw [if_neg (by rintro (h4 | h4); exact h3 h4; subst h4; exact h3 (by show a * 10 + (c.toNat - 48) ≤ _; omega)), if_neg (by rintro (h4 | h4); exact h3 h4; cases h4)]
theorem parse_digits {neg : Bool} {ds : List UInt8} (h : ds.all isDi = true) (hne : ds ≠ []) :
    Lib.parseIntB 64 (if neg then 45 :: ds else ds) = if -9223372036854775808 ≤ jnumv (neg, ds) ∧ jnumv (neg, ds) < 9223372036854775808 then .ok (jnumv (neg, ds)) else .range := by
  have hu : Lib.parseUintB 64 ds = if jnum ds 0 ≤ 18446744073709551615 then .ok (jnum ds 0) else .range := by
    unfold Lib.parseUintB
    rw [if_neg hne, show 2 ^ 64 - 1 = 18446744073709551615 from rfl, uintM_digits ds 0 h]
    by_cases h1 : jnum ds 0 ≤ 18446744073709551615
    · rw [if_pos h1, if_pos (.inl h1)]
    · rw [if_neg h1, if_neg (by rintro (h2 | h2); exact h1 h2; exact hne h2)]
  obtain ⟨c, t, rfl⟩ : ∃ c t, ds = c :: t := by
    cases ds with
    | nil => exact absurd rfl hne
    | cons c t => exact ⟨c, t, rfl⟩
  have hd : 48 ≤ c.toNat ∧ c.toNat ≤ 57 := by
    simp only [List.all_cons, Bool.and_eq_true] at h
    exact di_nat h.1
  obtain ⟨n, hn⟩ : ∃ n, jnum (c :: t) 0 = n := ⟨_, rfl⟩
  rw [hn] at hu
  cases neg with
  | true =>
    have e : jnumv (true, c :: t) = -(n : Int) := by unfold jnumv; rw [if_pos rfl, hn]
    rw [e]
    show Lib.parseIntB 64 (45 :: c :: t) = _
    unfold Lib.parseIntB
    simp only [show (45 : UInt8).toNat = 45 from rfl, or_true, if_true, hu, not_true, false_and, if_false, true_and]
    by_cases h1 : n ≤ 18446744073709551615
    · rw [if_pos h1]
      simp only
      by_cases h2 : 2 ^ 63 < n
      · rw [if_pos h2, if_neg]; rintro ⟨h3, _⟩; have : (2 : Nat) ^ 63 = 9223372036854775808 := rfl; omega
      · rw [if_neg h2, if_pos]; have : (2 : Nat) ^ 63 = 9223372036854775808 := rfl; omega
    · rw [if_neg h1, if_neg]; rintro ⟨h3, _⟩; omega
  | false =>
    have e : jnumv (false, c :: t) = (n : Int) := by unfold jnumv; simp only [Bool.false_eq_true, if_false]; rw [hn]
    rw [e]
    show Lib.parseIntB 64 (c :: t) = _
    unfold Lib.parseIntB
    have c1 : ¬ c.toNat = 45 := by omega
    have c2 : ¬ c.toNat = 43 := by omega
    simp only [c1, c2, or_self, if_false, hu, not_false_eq_true, true_and, false_and]
    by_cases h1 : n ≤ 18446744073709551615
    · rw [if_pos h1]
      simp only
      by_cases h2 : 2 ^ 63 ≤ n
      · rw [if_pos h2, if_neg]; rintro ⟨_, h3⟩; have : (2 : Nat) ^ 63 = 9223372036854775808 := rfl; omega
      · rw [if_neg h2, if_pos]; have : (2 : Nat) ^ 63 = 9223372036854775808 := rfl; omega
    · rw [if_neg h1, if_neg]; rintro ⟨_, h3⟩; omega

/-! ### the call -/
theorem parse_ok (w : World) (S : ByteArray) (hS : S.size ≤ 1000000) (v : Int) (h : Lib.parseIntB 64 S.data.toList = .ok v) :
    Calls Tryd.prog 55 #[.string S, .int .i64 10, .int .i64 64] w fun e w' => e = .returned (.tuple #[.int .i64 v, .nilIface]) ∧ Mod [] w w' := by
  have hc : Calls Tryd.prog 55 #[.string S, .int .i64 10, .int .i64 64] w _ := Any.strconv_ParseInt_10_at64_ok piLays S (by omega) v h w
  refine hc.mono ?_
  rintro e w' ⟨rfl, h | ⟨t, h⟩⟩
  · subst h; exact ⟨rfl, Mod.refl _ _⟩
  · subst h; exact ⟨rfl, Mod.of_below (Lib.bytesWorld_below _ _ _)⟩
theorem parse_range (w : World) (S : ByteArray) (hS : S.size ≤ 1000000) (h : Lib.parseIntB 64 S.data.toList = .range) (hv : ∃ tp p, w.var? Tryd.prog "strconv.ErrRange" = some #[.iface tp p]) :
    Calls Tryd.prog 55 #[.string S, .int .i64 10, .int .i64 64] w fun e w' => ∃ N, e = .returned (.tuple #[.int .i64 (Lib.intSat 64 S.data.toList), .iface 103 (.pointer (some ⟨N, 0, none⟩))]) ∧ Mod [] w w' := by
  obtain ⟨tp, p, hv⟩ := hv
  have hc : Calls Tryd.prog 55 #[.string S, .int .i64 10, .int .i64 64] w _ := Any.strconv_ParseInt_10_at64_range_var piLays S (by omega) h tp p w hv
  refine hc.mono ?_
  rintro e w' ⟨N, rfl, _, _, hb⟩
  exact ⟨N, rfl, Mod.of_below hb⟩
end Go.Proofs.YtkbpndohpkcikaaDoor
