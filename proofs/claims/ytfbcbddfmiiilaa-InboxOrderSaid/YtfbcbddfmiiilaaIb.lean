/-
  inbox, plain: what an inbox knows; the parts behind a gap, as a map that covers what came. No program.
-/
import Derived.Test.YtfbcbddfmiiilaaIbLib
import Derived.Lib.Strings
namespace Go.Proofs.Ytfbcbddfmiiilaa
open Go.RowKit

def str (l : List UInt8) : Value := .string ⟨l.toArray⟩
theorem str_inj {a b : List UInt8} (h : str a = str b) : a = b := by simpa [str] using h

theorem ret_bool {a b : Bool} (h : a = b) : Ending.returned (.bool a) = .returned (.bool b) := by rw [h]
theorem ret_i64 {a b : Int} (h : a = b) : Ending.returned (.int .i64 a) = .returned (.int .i64 b) := by rw [h]
theorem str_extract (l : List UInt8) (a b : Nat) : ((⟨l.toArray⟩ : ByteArray).extract a b) = ⟨((l.drop a).take (b - a)).toArray⟩ := by
  apply ByteArray.ext
  apply Array.ext'
  rw [Lib.extract_data]

structure Ib where
  limit : Nat
  taken : Nat
  ready : Nat
  far : Nat
  final : Nat
  known : Bool
  reset : Bool
  B : Nat → Option UInt8
  supp : List Nat

/-- the bytes from a up to b -/
def run (B : Nat → Option UInt8) (a b : Nat) : List UInt8 := (List.range' a (b - a)).map fun n => (B n).getD 0
theorem run_take (B : Nat → Option UInt8) (a b n : Nat) (h : a + n ≤ b) : (run B a b).take n = run B a (a + n) := by
  apply List.ext_getElem
  · simp [run]; omega
  · intro i h1 h2
    simp [run]
theorem run_drop (B : Nat → Option UInt8) (a b n : Nat) : (run B a b).drop n = run B (a + n) b := by
  apply List.ext_getElem
  · simp [run]; omega
  · intro i h1 h2
    simp [run, Nat.add_assoc]
theorem run_empty (B : Nat → Option UInt8) (a : Nat) : run B a a = [] := by simp [run]
theorem run_congr {B B' : Nat → Option UInt8} {a b : Nat} (h : ∀ n, a ≤ n → n < b → B' n = B n) : run B' a b = run B a b := by
  unfold run
  apply List.map_congr_left
  intro n hn
  rw [List.mem_range'_1] at hn
  rw [h n (by omega) (by omega)]
theorem run_length (B : Nat → Option UInt8) (a b : Nat) : (run B a b).length = b - a := by simp [run]

structure Ib.WF (o : Ib) : Prop where
  lim : o.limit ≤ 4611686018427387903
  tk : o.taken ≤ o.ready
  fill : ∀ n, n < o.ready → (o.B n).isSome = true
  gap : o.B o.ready = none
  bound : ∀ n, (o.B n).isSome = true → n < o.far
  top : o.far ≤ o.limit
  fin : o.known = true → o.far ≤ o.final ∧ o.final ≤ o.limit
  fin0 : o.known = false → o.final = 0
  supp : ∀ n, (o.B n).isSome = true → n ∈ o.supp
  cut : o.reset = true → o.ready = o.taken ∧ ∀ n, o.taken ≤ n → o.B n = none
theorem Ib.WF.rd {o : Ib} (h : o.WF) : o.ready ≤ o.far := by
  rcases Nat.eq_zero_or_pos o.ready with h0 | h0
  · omega
  · have := h.bound (o.ready - 1) (h.fill _ (by omega)); omega

/-- The map f covers what C says: each part lies at its place, none is empty, no two have a place in common. -/
structure Cov (f : Int → Option Value) (C : Nat → Option UInt8) : Prop where
  val : ∀ x v, f x = some v → ∃ (k : Nat) (s : List UInt8), x = k ∧ v = str s ∧ s ≠ [] ∧ ∀ i c, s[i]? = some c → C (k + i) = some c
  cov : ∀ n, (C n).isSome = true → ∃ (k : Nat) (s : List UInt8), f k = some (str s) ∧ k ≤ n ∧ n < k + s.length
  apart : ∀ (k k' : Nat) (s s' : List UInt8), f k = some (str s) → f k' = some (str s') → k < k' → k + s.length ≤ k'

section
variable {f : Int → Option Value} {C : Nat → Option UInt8}
theorem Cov.at_ (h : Cov f C) {k : Nat} {s : List UInt8} (hk : f k = some (str s)) : s ≠ [] ∧ ∀ i c, s[i]? = some c → C (k + i) = some c := by
  obtain ⟨k', s', h1, h2, h3, h4⟩ := h.val _ _ hk
  obtain rfl : k = k' := by omega
  obtain rfl := str_inj h2
  exact ⟨h3, h4⟩
theorem Cov.in_ (h : Cov f C) {k n : Nat} {s : List UInt8} (hk : f k = some (str s)) (h1 : k ≤ n) (h2 : n < k + s.length) : C n = some s[n - k] := by
  have := (h.at_ hk).2 (n - k) s[n - k] (List.getElem?_eq_getElem (by omega))
  rwa [Nat.add_sub_cancel' h1] at this
theorem Cov.key (h : Cov f C) {x : Int} (hx : (f x).isSome = true) : ∃ (k : Nat) (s : List UInt8), x = k ∧ f k = some (str s) ∧ s ≠ [] ∧ (C k).isSome = true := by
  obtain ⟨v, hv⟩ := Option.isSome_iff_exists.1 hx
  obtain ⟨k, s, rfl, rfl, h3, h4⟩ := h.val _ _ hv
  refine ⟨k, s, rfl, hv, h3, ?_⟩
  cases s with
  | nil => exact absurd rfl h3
  | cons c t => rw [show k = k + 0 from rfl, h4 0 c rfl]; rfl
theorem Cov.empty : Cov (fun _ => none) (fun _ => none) := ⟨fun _ _ h => (by cases h), fun _ h => (by cases h), fun _ _ _ _ h => (by cases h)⟩
theorem Cov.congr {C' : Nat → Option UInt8} (h : Cov f C) (hc : ∀ n, C' n = C n) : Cov f C' := by
  have : C' = C := funext hc
  rw [this]; exact h
/-- a part more, where nothing was -/
theorem Cov.add (h : Cov f C) (a : Nat) (s : List UInt8) (hs : s ≠ []) (hfree : ∀ i, i < s.length → C (a + i) = none) :
    Cov (upd f a (some (str s))) (fun n => if a ≤ n ∧ n < a + s.length then s[n - a]? else C n) := by
  have hpos : 0 < s.length := List.length_pos_iff.2 hs
  have old : ∀ (k : Nat) (t : List UInt8), f k = some (str t) → k ≠ a → k + t.length ≤ a ∨ a + s.length ≤ k := fun k t hk hne => by
    rcases Nat.lt_or_ge k a with h1 | h1
    · left
      refine Decidable.byContradiction fun h2 => ?_
      have := h.in_ hk (n := a) (by omega) (by omega)
      have h0 : C a = none := hfree 0 hpos
      rw [h0] at this
      cases this
    · right
      refine Decidable.byContradiction fun h2 => ?_
      have hp := List.length_pos_iff.2 (h.at_ hk).1
      have := h.in_ hk (n := k) (by omega) (by omega)
      have h0 := hfree (k - a) (by omega)
      rw [show a + (k - a) = k by omega] at h0
      rw [h0] at this
      cases this
  refine ⟨?_, ?_, ?_⟩
  · intro x v hx
    unfold upd at hx
    split at hx
    · rename_i e
      cases hx
      refine ⟨a, s, e, rfl, hs, fun i c hc => ?_⟩
      have hi : i < s.length := by
        rcases Nat.lt_or_ge i s.length with h1 | h1
        · exact h1
        · rw [List.getElem?_eq_none h1] at hc; cases hc
      rw [if_pos ⟨by omega, by omega⟩, Nat.add_sub_cancel_left]
      exact hc
    · rename_i e
      obtain ⟨k, t, rfl, rfl, h3, h4⟩ := h.val _ _ hx
      refine ⟨k, t, rfl, rfl, h3, fun i c hc => ?_⟩
      have hi : i < t.length := by
        rcases Nat.lt_or_ge i t.length with h1 | h1
        · exact h1
        · rw [List.getElem?_eq_none h1] at hc; cases hc
      have := old k t hx (fun e' => e (by rw [e']))
      rw [if_neg (by omega)]
      exact h4 i c hc
  · intro n hn
    split at hn
    · rename_i hr
      exact ⟨a, s, by simp [upd], hr.1, hr.2⟩
    · obtain ⟨k, t, h1, h2, h3⟩ := h.cov n hn
      refine ⟨k, t, ?_, h2, h3⟩
      unfold upd
      rw [if_neg, h1]
      intro e
      have e' : k = a := by omega
      subst e'
      have := h.in_ h1 (n := k) (Nat.le_refl _) (by omega)
      have h0 : C k = none := hfree 0 hpos
      rw [h0] at this
      cases this
  · intro k k' t t' h1 h2 hlt
    unfold upd at h1 h2
    split at h1
    · rename_i e1
      have e1' : k = a := by omega
      subst e1'
      have := str_inj (Option.some.inj h1)
      subst this
      rw [if_neg (by omega)] at h2
      rcases old k' t' h2 (by omega) with h3 | h3
      · omega
      · exact h3
    · rename_i e1
      split at h2
      · rename_i e2
        have e2' : k' = a := by omega
        subst e2'
        rcases old k t h1 (by omega) with h3 | h3
        · exact h3
        · omega
      · exact h.apart k k' t t' h1 h2 hlt
/-- a part less -/
theorem Cov.del (h : Cov f C) {k : Nat} {s : List UInt8} (hk : f k = some (str s)) : Cov (upd f k none) (fun n => if k ≤ n ∧ n < k + s.length then none else C n) := by
  refine ⟨?_, ?_, ?_⟩
  · intro x v hx
    unfold upd at hx
    split at hx
    · cases hx
    · rename_i e
      obtain ⟨j, t, rfl, rfl, h3, h4⟩ := h.val _ _ hx
      refine ⟨j, t, rfl, rfl, h3, fun i c hc => ?_⟩
      have hi : i < t.length := by
        rcases Nat.lt_or_ge i t.length with h1 | h1
        · exact h1
        · rw [List.getElem?_eq_none h1] at hc; cases hc
      have hne : j ≠ k := fun e' => e (by rw [e'])
      have : j + t.length ≤ k ∨ k + s.length ≤ j := by
        rcases Nat.lt_or_ge j k with h1 | h1
        · exact .inl (h.apart j k t s hx hk h1)
        · exact .inr (h.apart k j s t hk hx (by omega))
      rw [if_neg (by omega)]
      exact h4 i c hc
  · intro n hn
    split at hn
    · cases hn
    · rename_i hr
      obtain ⟨j, t, h1, h2, h3⟩ := h.cov n hn
      refine ⟨j, t, ?_, h2, h3⟩
      unfold upd
      rw [if_neg, h1]
      intro e
      have e' : j = k := by omega
      subst e'
      rw [hk] at h1
      have := str_inj (Option.some.inj h1)
      subst this
      exact hr ⟨h2, h3⟩
  · intro j j' t t' h1 h2 hlt
    unfold upd at h1 h2
    split at h1
    · cases h1
    · split at h2
      · cases h2
      · exact h.apart j j' t t' h1 h2 hlt
/-- no part begins where nothing came -/
theorem Cov.none_of (h : Cov f C) {n : Nat} (hn : C n = none) : f n = none := by
  cases hf : f n with
  | none => rfl
  | some v =>
    obtain ⟨k, s, h1, h2, h3, h4⟩ := h.key (x := n) (by rw [hf]; rfl)
    obtain rfl : n = k := by omega
    rw [hn] at h4
    cases h4
end

/-- what came, and D at a behind it: bytes that came first stay -/
def over (C : Nat → Option UInt8) (a : Nat) (D : List UInt8) (n : Nat) : Option UInt8 := (C n).or (if a ≤ n then D[n - a]? else none)
theorem over_some {C : Nat → Option UInt8} {a : Nat} {D : List UInt8} {n : Nat} {c : UInt8} (h : C n = some c) : over C a D n = some c := by simp [over, h]
theorem over_none {C : Nat → Option UInt8} {a : Nat} {D : List UInt8} {n : Nat} (h : C n = none) : over C a D n = if a ≤ n then D[n - a]? else none := by simp [over, h]
end Go.Proofs.Ytfbcbddfmiiilaa
