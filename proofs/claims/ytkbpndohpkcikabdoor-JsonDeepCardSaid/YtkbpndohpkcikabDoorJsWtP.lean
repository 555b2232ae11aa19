/-
  json, plain: what a value weighs, and how long it is written.
-/
import Derived.Test.YtkbpndohpkcikabDoorJsP2
namespace Go.Proofs.YtkbpndohpkcikabDoor
open Go.RowKit Js
set_option linter.unusedVariables false
set_option linter.unusedSimpArgs false
def jwk : List ByteArray → Nat → Nat
  | [], n => n
  | k :: ks, n => if n < 2048 then jwk ks (n + min k.size 2048) else n
mutual
/-- how much a value weighs, with so many depths left -/
def jwt : Nat → JV → Nat
  | d, .mk k i t l ks => if d = 0 then 2048 else jwl (d - 1) l (jwk ks (1 + min t.size 2048 + ks.length))
def jwl : Nat → List JV → Nat → Nat
  | _, [], n => n
  | d, x :: l, n => if n < 2048 then jwl d l (n + jwt d x) else n
end
def ksz (ks : List ByteArray) : Nat := (ks.map ByteArray.size).sum
theorem jwk_ge : ∀ (ks : List ByteArray) (n : Nat), n ≤ jwk ks n
  | [], n => Nat.le_refl _
  | k :: ks, n => by
    rw [jwk]; split
    · exact Nat.le_trans (Nat.le_add_right _ _) (jwk_ge ks _)
    · exact Nat.le_refl _
theorem jwk_lt : ∀ (ks : List ByteArray) (n : Nat), jwk ks n < 2048 → jwk ks n = n + ksz ks
  | [], n, _ => by simp [jwk, ksz]
  | k :: ks, n, h => by
    rw [jwk] at h ⊢
    split at h
    · rename_i hn
      rw [if_pos hn]
      have h1 := jwk_lt ks _ h
      have h2 := jwk_ge ks (n + min k.size 2048)
      rw [h1]
      have h3 : ksz (k :: ks) = k.size + ksz ks := by simp [ksz]
      omega
    · omega
theorem jwl_ge : ∀ (d : Nat) (l : List JV) (n : Nat), n ≤ jwl d l n
  | d, [], n => by rw [jwl]; exact Nat.le_refl _
  | d, x :: l, n => by
    rw [jwl]; split
    · exact Nat.le_trans (Nat.le_add_right _ _) (jwl_ge d l _)
    · exact Nat.le_refl _
def jws (d : Nat) (l : List JV) : Nat := (l.map (jwt d)).sum
theorem jws_cons (d : Nat) (x : JV) (l : List JV) : jws d (x :: l) = jwt d x + jws d l := by simp [jws]
theorem jwl_lt : ∀ (d : Nat) (l : List JV) (n : Nat), jwl d l n < 2048 → jwl d l n = n + jws d l
  | d, [], n, _ => by simp [jwl, jws]
  | d, x :: l, n, h => by
    rw [jwl] at h ⊢
    split at h
    · rename_i hn
      rw [if_pos hn, jwl_lt d l _ h, jws_cons]; omega
    · omega
/-- a value that isn't large: what it weighs, in parts -/
theorem jwt_parts {d : Nat} {k i : Int} {t : ByteArray} {l : List JV} {ks : List ByteArray} (h : jwt d (.mk k i t l ks) < 2048) :
    d ≠ 0 ∧ jwt d (.mk k i t l ks) = 1 + t.size + ks.length + ksz ks + jws (d - 1) l := by
  rw [jwt] at h ⊢
  split at h
  · omega
  · rename_i h0
    rw [if_neg h0]
    refine ⟨h0, ?_⟩
    have h1 := jwl_lt _ _ _ h
    have h2 := jwl_ge (d - 1) l (jwk ks (1 + min t.size 2048 + ks.length))
    have h3 := jwk_lt ks (1 + min t.size 2048 + ks.length) (by omega)
    have h4 := jwk_ge ks (1 + min t.size 2048 + ks.length)
    omega
theorem jwt_pos {d : Nat} {v : JV} (h : jwt d v < 2048) : 1 ≤ jwt d v := by
  cases v with
  | mk k i t l ks => have := (jwt_parts h).2; omega
theorem jws_len {d : Nat} : ∀ {l : List JV}, jws d l < 2048 → l.length ≤ jws d l
  | [], _ => by simp
  | x :: l, h => by
    rw [jws_cons] at h ⊢
    have := jwt_pos (d := d) (v := x) (by omega)
    have := jws_len (l := l) (d := d) (by omega)
    simp only [List.length_cons]; omega
theorem jws_mem {d : Nat} {x : JV} : ∀ {l : List JV}, x ∈ l → jwt d x ≤ jws d l
  | y :: l, h => by
    rw [jws_cons]
    rcases List.mem_cons.1 h with rfl | h
    · omega
    · have := jws_mem (d := d) h; omega
theorem esc_le (c : UInt8) : (esc c).length ≤ 6 := by
  unfold esc
  split
  · simp
  · split <;> simp
theorem flat_esc : ∀ s : List UInt8, (s.flatMap esc).length ≤ 6 * s.length
  | [] => by simp
  | c :: s => by
    have h1 := flat_esc s
    have h2 := esc_le c
    rw [List.flatMap_cons, List.length_append, List.length_cons]; omega
theorem quo_le (s : List UInt8) : (quo s).length ≤ 6 * s.length + 2 := by
  have h1 := flat_esc s
  rw [quo, List.length_cons, List.length_append, List.length_singleton]; omega
theorem itoa_le {i : Int} (h : i64B i = true) : (Lib.itoa i).length ≤ 20 := by
  obtain ⟨h1, h2⟩ := i64_parts h
  have key : ∀ (k u : Nat), u < 10 ^ (k + 1) → (Lib.decDigits u).length ≤ k + 1 := by
    intro k
    induction k with
    | zero => intro u hu; rw [Lib.decDigits, dif_pos (by omega)]; simp
    | succ k ih =>
      intro u hu
      rw [Lib.decDigits]
      split
      · simp
      · have := ih (u / 10) (by rw [Nat.pow_succ] at hu; omega)
        simp only [List.length_append, List.length_cons, List.length_nil]; omega
  unfold Lib.itoa
  split
  · have := key 18 i.natAbs (by rw [show (10 : Nat) ^ (18 + 1) = 10000000000000000000 from by decide]; omega)
    simp only [List.length_cons]; omega
  · have := key 18 i.toNat (by rw [show (10 : Nat) ^ (18 + 1) = 10000000000000000000 from by decide]; omega)
    omega
theorem ksz_head (ks : List ByteArray) : (ks.headD ⟨#[]⟩).size + ksz ks.tail = ksz ks := by
  cases ks with
  | nil => simp [ksz]; rfl
  | cons k ks => simp [ksz]
theorem jkeyed_le (obj : Bool) (ks : List ByteArray) : (jkeyed obj ks).length ≤ 6 * (ks.headD ⟨#[]⟩).size + 3 := by
  unfold jkeyed
  split
  · have := quo_le (ks.headD ⟨#[]⟩).data.toList
    have e : (ks.headD ⟨#[]⟩).data.toList.length = (ks.headD ⟨#[]⟩).size := Array.length_toList
    rw [e] at this
    simp only [List.length_append, List.length_cons, List.length_nil]; omega
  · simp
mutual
theorem jwr_le : ∀ (v : JV) (d : Nat), jwt d v < 2048 → jrng v = true → (jwr v).length + 9 ≤ 30 * jwt d v
  | .mk k i t l ks, d, h, hr => by
    obtain ⟨h0, h1⟩ := jwt_parts h
    rw [jrng, Bool.and_eq_true] at hr
    rw [jwr]
    have h2 := jwrs_le true l ks (d - 1) (by omega) hr.2
    have h3 := jwrs_le false l ks (d - 1) (by omega) hr.2
    have h4 := itoa_le hr.1
    have h5 := quo_le t.data.toList
    have e : t.data.toList.length = t.size := Array.length_toList
    rw [e] at h5
    (repeat' split) <;> (try simp only [List.length_append, List.length_cons, List.length_nil]) <;> omega
theorem jwrs_le (obj : Bool) : ∀ (l : List JV) (ks : List ByteArray) (d : Nat), jws d l < 2048 → jrngs l = true → (jwrs obj l ks).length ≤ 30 * jws d l + 6 * ksz ks
  | [], ks, d, _, _ => by simp [jwrs]
  | x :: l, ks, d, h, hr => by
    rw [jws_cons] at h ⊢
    rw [jrngs, Bool.and_eq_true] at hr
    rw [jwrs]
    have h1 := jwr_le x d (by omega) hr.1
    have h2 := jwrsR_le obj l ks.tail d (by omega) hr.2
    have h3 := jkeyed_le obj ks
    have h4 := ksz_head ks
    simp only [List.length_append]
    omega
theorem jwrsR_le (obj : Bool) : ∀ (l : List JV) (ks : List ByteArray) (d : Nat), jws d l < 2048 → jrngs l = true → (jwrsR obj l ks).length ≤ 30 * jws d l + 6 * ksz ks
  | [], ks, d, _, _ => by simp [jwrsR]
  | x :: l, ks, d, h, hr => by
    rw [jws_cons] at h ⊢
    rw [jrngs, Bool.and_eq_true] at hr
    rw [jwrsR]
    have h1 := jwr_le x d (by omega) hr.1
    have h2 := jwrsR_le obj l ks.tail d (by omega) hr.2
    have h3 := jkeyed_le obj ks
    have h4 := ksz_head ks
    simp only [List.length_append, List.length_cons]
    omega
end
/-- a value that isn't large, written, is short -/
theorem jwr_short {v : JV} (h : jwt 21 v < 2048) (hr : jrng v = true) : (jwr v).length ≤ 61410 := by
  have := jwr_le v 21 h hr
  omega
end Go.Proofs.YtkbpndohpkcikabDoor
