/-
  varints, plain: bytes of a number, the short form, taking one off. No program.
-/
import Derived.Test.YtampdiplodhkbaaMem
namespace Go.Proofs.Ytampdiplodhkbaa
open Go.RowKit

/-- k bytes of n, the highest first -/
def be (n : Nat) : Nat → List UInt8
  | 0 => []
  | k + 1 => UInt8.ofNat (n / 256 ^ k % 256) :: be n k
/-- bytes, as a number, behind a -/
def numF (a : Nat) (l : List UInt8) : Nat := l.foldl (fun a c => a * 256 + c.toNat) a

theorem be_length (n k : Nat) : (be n k).length = k := by
  induction k with
  | zero => rfl
  | succ k ih => simp [be, ih]
theorem be_get (n k j : Nat) (h : j < k) : (be n k)[j]? = some (UInt8.ofNat (n / 256 ^ (k - 1 - j) % 256)) := by
  induction k generalizing j with
  | zero => omega
  | succ k ih =>
    cases j with
    | zero => simp [be]
    | succ j =>
      simp only [be, List.getElem?_cons_succ]
      rw [ih j (by omega), show k + 1 - 1 - (j + 1) = k - 1 - j by omega]
theorem numF_cons (a : Nat) (c : UInt8) (l : List UInt8) : numF a (c :: l) = numF (a * 256 + c.toNat) l := rfl
theorem numF_eq (a : Nat) (l : List UInt8) : numF a l = a * 256 ^ l.length + numF 0 l := by
  induction l generalizing a with
  | nil => simp [numF]
  | cons c l ih =>
    rw [numF_cons, numF_cons, ih, ih (0 * 256 + c.toNat), List.length_cons, Nat.pow_succ, Nat.add_mul, Nat.zero_mul, Nat.zero_add, ← Nat.add_assoc]
    congr 2
    rw [Nat.mul_assoc, Nat.mul_comm 256]
theorem numF_lt (l : List UInt8) : numF 0 l < 256 ^ l.length := by
  induction l with
  | nil => simp [numF]
  | cons c l ih =>
    rw [numF_cons, numF_eq, List.length_cons, Nat.pow_succ]
    have := c.toNat_lt
    have h2 : (0 * 256 + c.toNat) * 256 ^ l.length ≤ 255 * 256 ^ l.length := Nat.mul_le_mul_right _ (by omega)
    have := Nat.mul_comm (256 ^ l.length) 256
    omega
theorem numF_be (a n k : Nat) : numF a (be n k) = a * 256 ^ k + n % 256 ^ k := by
  induction k generalizing a with
  | zero => simp [numF, be, Nat.mod_one]
  | succ k ih =>
    rw [be, numF_cons, ih]
    have h1 : (UInt8.ofNat (n / 256 ^ k % 256)).toNat = n / 256 ^ k % 256 := by simp [UInt8.toNat_ofNat']
    rw [h1, Nat.add_mul, Nat.add_assoc, Nat.mul_assoc, Nat.pow_succ, Nat.mul_comm 256 (256 ^ k)]
    congr 1
    rw [Nat.mod_mul, Nat.add_comm, Nat.mul_comm]
theorem be_numF (l : List UInt8) (a : Nat) : be (a * 256 ^ l.length + numF 0 l) l.length = l := by
  induction l generalizing a with
  | nil => rfl
  | cons c l ih =>
    rw [List.length_cons, be]
    have h1 : numF 0 (c :: l) = c.toNat * 256 ^ l.length + numF 0 l := by rw [numF_cons, numF_eq]; congr 2; omega
    have h2 := numF_lt l
    have hp : 0 < 256 ^ l.length := Nat.pow_pos (by omega)
    have h3 : a * 256 ^ (l.length + 1) + numF 0 (c :: l) = (a * 256 + c.toNat) * 256 ^ l.length + numF 0 l := by
      rw [h1, Nat.pow_succ, Nat.add_mul, ← Nat.add_assoc]
      congr 2
      rw [Nat.mul_assoc, Nat.mul_comm 256]
    rw [h3, ih]
    congr 1
    have h4 : ((a * 256 + c.toNat) * 256 ^ l.length + numF 0 l) / 256 ^ l.length = a * 256 + c.toNat := by
      rw [Nat.mul_comm, Nat.mul_add_div hp, Nat.div_eq_of_lt h2, Nat.add_zero]
    rw [h4]
    have := c.toNat_lt
    rw [show (a * 256 + c.toNat) % 256 = c.toNat by omega]
    simp
theorem be_mod (n k : Nat) : be (n % 256 ^ k) k = be n k := by
  have h := be_numF (be n k) 0
  rw [be_length, numF_be] at h
  simpa using h

/-- the mark of the short form -/
def vk (n : Nat) : Nat := if n < 64 then 0 else if n < 16384 then 1 else if n < 1073741824 then 2 else 3
/-- how many bytes a mark says -/
def vmany (k : Nat) : Nat := match k with | 0 => 1 | 1 => 2 | 2 => 4 | _ => 8
/-- the mark, in a number of so many bytes -/
def vmark (k : Nat) : Nat := match k with | 0 => 0 | 1 => 16384 | 2 => 2147483648 | _ => 13835058055282163712
def vlay (n k : Nat) : List UInt8 := be (n + vmark k) (vmany k)
def vput (n : Nat) : List UInt8 := vlay n (vk n)
def vsize (n : Nat) : Nat := vmany (vk n)
/-- what Put tells -/
def vputS (n : Nat) : List UInt8 := if 4611686018427387903 < n then [] else vput n
def vputE (n : Nat) : Int := if 4611686018427387903 < n then 3 else 0

structure VTake where
  n : Nat
  rest : List UInt8
  e : Int
def vtake (s : List UInt8) : VTake :=
  match s with
  | [] => ⟨0, [], 2⟩
  | c :: t => if s.length < vmany (c.toNat / 64) then ⟨0, [], 2⟩ else ⟨numF (c.toNat % 64) (t.take (vmany (c.toNat / 64) - 1)), t.drop (vmany (c.toNat / 64) - 1), 0⟩

theorem vk_le (n : Nat) : vk n ≤ 3 := by unfold vk; repeat' split
                                         all_goals omega
theorem vsize_pos (n : Nat) : 1 ≤ vsize n ∧ vsize n ≤ 8 := by
  unfold vsize vk
  repeat' split
  all_goals simp [vmany]
theorem vput_length (n : Nat) : (vput n).length = vsize n := be_length _ _
theorem vput_ne (n : Nat) : vput n ≠ [] := by
  intro h
  have := vput_length n
  rw [h] at this
  have := vsize_pos n
  simp at *
  omega

theorem vtake_put (n : Nat) (hn : n < 4611686018427387904) (r : List UInt8) : vtake (vput n ++ r) = ⟨n, r, 0⟩ := by
  have key : ∀ k, vk n = k → n < 4611686018427387904 → ∃ m, vmany k = m + 1 ∧ (n + vmark k) / 256 ^ m % 256 / 64 = k ∧ (n + vmark k) / 256 ^ m % 256 % 64 * 256 ^ m + (n + vmark k) % 256 ^ m = n := by
    intro k hk h
    unfold vk at hk
    split at hk
    · subst hk; exact ⟨0, rfl, by simp [vmark]; omega, by simp [vmark]; omega⟩
    · split at hk
      · subst hk; exact ⟨1, rfl, by simp [vmark]; omega, by simp [vmark]; omega⟩
      · split at hk
        · subst hk; exact ⟨3, rfl, by simp [vmark]; omega, by simp [vmark]; omega⟩
        · subst hk; exact ⟨7, rfl, by simp [vmark]; omega, by simp [vmark]; omega⟩
  obtain ⟨m, h1, h2, h3⟩ := key _ rfl hn
  unfold vput vlay
  rw [h1, be, List.cons_append]
  have hc : (UInt8.ofNat ((n + vmark (vk n)) / 256 ^ m % 256)).toNat = (n + vmark (vk n)) / 256 ^ m % 256 := by simp [UInt8.toNat_ofNat']
  unfold vtake
  simp only [hc, h2, h1, Nat.add_sub_cancel]
  rw [if_neg (by simp [be_length])]
  have e1 : (be (n + vmark (vk n)) m ++ r).take m = be (n + vmark (vk n)) m := by
    rw [List.take_append_of_le_length (by rw [be_length]; omega), List.take_of_length_le (by rw [be_length]; omega)]
  have e2 : (be (n + vmark (vk n)) m ++ r).drop m = r := by
    rw [List.drop_append_of_le_length (by rw [be_length]; omega), List.drop_of_length_le (by rw [be_length]; omega), List.nil_append]
  rw [e1, e2, numF_be, h3]

/-- what is taken: so many bytes, a number that fits -/
theorem vtake_some {s : List UInt8} {n : Nat} {r : List UInt8} (h : vtake s = ⟨n, r, 0⟩) :
    ∃ k, k ≤ 3 ∧ s.length = r.length + vmany k ∧ n < 4611686018427387904 ∧ s = vlay n k ++ r ∧ vk n ≤ k := by
  unfold vtake at h
  split at h
  · cases h
  · rename_i c t
    split at h
    · cases h
    · rename_i hlen
      have hcl := c.toNat_lt
      obtain ⟨k, hk⟩ : ∃ k, c.toNat / 64 = k := ⟨_, rfl⟩
      have hk3 : k ≤ 3 := by omega
      rw [hk] at h hlen
      obtain ⟨m, hm⟩ : ∃ m, vmany k = m + 1 := by
        match k, hk3 with
        | 0, _ => exact ⟨0, rfl⟩
        | 1, _ => exact ⟨1, rfl⟩
        | 2, _ => exact ⟨3, rfl⟩
        | 3, _ => exact ⟨7, rfl⟩
      rw [hm, Nat.add_sub_cancel] at h
      simp only [VTake.mk.injEq, and_true] at h
      obtain ⟨h1, h2⟩ := h
      have htl : m ≤ t.length := by simp at hlen; omega
      have hl : (t.take m).length = m := by rw [List.length_take]; omega
      have hlt := numF_lt (t.take m)
      rw [numF_eq, hl] at h1
      rw [hl] at hlt
      obtain ⟨z, hz⟩ : ∃ z, numF 0 (t.take m) = z := ⟨_, rfl⟩
      rw [hz] at h1 hlt
      have hbz : be z m = t.take m := by
        have := be_numF (t.take m) 0
        rw [hl, hz, Nat.zero_mul, Nat.zero_add] at this
        exact this
      have key : (n + vmark k) = c.toNat * 256 ^ m + z ∧ n < 4611686018427387904 ∧ vk n ≤ k := by
        unfold vk
        match k, hk3, hm, hk with
        | 0, _, hm, hk =>
          obtain rfl : m = 0 := by simp [vmany] at hm; omega
          have h0 : n < 64 := by simp at h1 hlt; omega
          rw [if_pos h0]
          simp [vmark] at h1 hlt hk ⊢
          omega
        | 1, _, hm, hk =>
          obtain rfl : m = 1 := by simp [vmany] at hm; omega
          simp [vmark] at *
          refine ⟨by omega, by omega, ?_⟩
          repeat' split
          all_goals omega
        | 2, _, hm, hk =>
          obtain rfl : m = 3 := by simp [vmany] at hm; omega
          simp [vmark] at *
          refine ⟨by omega, by omega, ?_⟩
          repeat' split
          all_goals omega
        | 3, _, hm, hk =>
          obtain rfl : m = 7 := by simp [vmany] at hm; omega
          simp [vmark] at *
          refine ⟨by omega, by omega, ?_⟩
          repeat' split
          all_goals omega
      refine ⟨k, hk3, ?_, key.2.1, ?_, key.2.2⟩
      · rw [hm, ← h2, List.length_cons, List.length_drop]; omega
      · unfold vlay
        rw [hm, key.1, be, ← h2]
        have hp : 0 < 256 ^ m := Nat.pow_pos (by omega)
        have e1 : (c.toNat * 256 ^ m + z) / 256 ^ m = c.toNat := by
          rw [Nat.mul_comm, Nat.mul_add_div hp, Nat.div_eq_of_lt hlt, Nat.add_zero]
        have e2 : be (c.toNat * 256 ^ m + z) m = t.take m := by
          rw [← hbz, ← be_mod, Nat.mul_comm, Nat.mul_add_mod, be_mod]
        rw [e1, e2, show c.toNat % 256 = c.toNat by omega, List.cons_append, List.take_append_drop]
        simp
theorem vtake_e (s : List UInt8) : (vtake s).e = 0 ∨ ((vtake s).e = 2 ∧ (vtake s).n = 0 ∧ (vtake s).rest = []) := by
  unfold vtake
  split
  · exact .inr ⟨rfl, rfl, rfl⟩
  · split
    · exact .inr ⟨rfl, rfl, rfl⟩
    · exact .inl rfl
/-- the short form is the one of its size -/
theorem vlay_short {n k : Nat} (hk : k ≤ 3) (h : vsize n = vmany k) : vlay n k = vput n := by
  unfold vput
  unfold vsize at h
  have := vk_le n
  have : vk n = k := by
    generalize vk n = j at *
    match j, k, this, hk, h with
    | 0, 0, _, _, _ => rfl
    | 1, 1, _, _, _ => rfl
    | 2, 2, _, _, _ => rfl
    | 3, 3, _, _, _ => rfl
    | 0, 1, _, _, h => simp [vmany] at h
    | 0, 2, _, _, h => simp [vmany] at h
    | 0, 3, _, _, h => simp [vmany] at h
    | 1, 0, _, _, h => simp [vmany] at h
    | 1, 2, _, _, h => simp [vmany] at h
    | 1, 3, _, _, h => simp [vmany] at h
    | 2, 0, _, _, h => simp [vmany] at h
    | 2, 1, _, _, h => simp [vmany] at h
    | 2, 3, _, _, h => simp [vmany] at h
    | 3, 0, _, _, h => simp [vmany] at h
    | 3, 1, _, _, h => simp [vmany] at h
    | 3, 2, _, _, h => simp [vmany] at h
  rw [this]
theorem be_add (n c k : Nat) : be (n + c * 256 ^ k) k = be n k := by
  rw [← be_mod, Nat.add_mul_mod_self_right, be_mod]
/-- the short form: a mark on the first byte -/
theorem vlay_eq {n k : Nat} (hk : k ≤ 3) (hv : vk n ≤ k) (hn : n < 4611686018427387904) : ∃ m b, vmany k = m + 1 ∧ m ≤ 7 ∧ n / 256 ^ m % 256 = b ∧ b < 64 ∧ vlay n k = UInt8.ofNat (b + k * 64) :: be n m := by
  unfold vk at hv
  match k, hk, hv with
  | 0, _, hv =>
    have h0 : n < 64 := by
      split at hv
      · assumption
      · split at hv
        · omega
        · split at hv <;> omega
    refine ⟨0, n, rfl, by omega, by simp; omega, h0, ?_⟩
    unfold vlay
    simp only [vmany, vmark, be, Nat.pow_zero, Nat.div_one, Nat.add_zero, Nat.zero_mul]
    rw [show n % 256 = n by omega]
  | 1, _, hv =>
    have h0 : n < 16384 := by
      split at hv
      · omega
      · split at hv
        · assumption
        · split at hv <;> omega
    refine ⟨1, n / 256 ^ 1 % 256, rfl, by omega, rfl, by simp; omega, ?_⟩
    have e := be_add n 64 1
    show UInt8.ofNat ((n + 16384) / 256 ^ 1 % 256) :: be (n + 16384) 1 = _
    rw [show n + 16384 = n + 64 * 256 ^ 1 by omega, e]
    congr 2
    simp; omega
  | 2, _, hv =>
    have h0 : n < 1073741824 := by
      split at hv
      · omega
      · split at hv
        · omega
        · split at hv <;> omega
    refine ⟨3, n / 256 ^ 3 % 256, rfl, by omega, rfl, by simp; omega, ?_⟩
    have e := be_add n 128 3
    show UInt8.ofNat ((n + 2147483648) / 256 ^ 3 % 256) :: be (n + 2147483648) 3 = _
    rw [show n + 2147483648 = n + 128 * 256 ^ 3 by omega, e]
    congr 2
    simp; omega
  | 3, _, hv =>
    refine ⟨7, n / 256 ^ 7 % 256, rfl, by omega, rfl, by simp; omega, ?_⟩
    have e := be_add n 192 7
    show UInt8.ofNat ((n + 13835058055282163712) / 256 ^ 7 % 256) :: be (n + 13835058055282163712) 7 = _
    rw [show n + 13835058055282163712 = n + 192 * 256 ^ 7 by omega, e]
    congr 2
    simp; omega
/-- the first number that doesn't fit by a mark -/
def vbound (k : Nat) : Nat := match k with | 0 => 64 | 1 => 16384 | 2 => 1073741824 | _ => 4611686018427387904
theorem vk_step {n j : Nat} (hj : j < 3) (h : j ≤ vk n) : (n < vbound j → vk n = j) ∧ (¬ n < vbound j → j + 1 ≤ vk n) := by
  unfold vk at h ⊢
  match j, hj with
  | 0, _ => simp only [vbound]; constructor <;> intro h2 <;> (repeat' split) <;> omega
  | 1, _ => simp only [vbound]; constructor <;> intro h2 <;> (repeat' split at h) <;> (repeat' split) <;> omega
  | 2, _ => simp only [vbound]; constructor <;> intro h2 <;> (repeat' split at h) <;> (repeat' split) <;> omega
end Go.Proofs.Ytampdiplodhkbaa
