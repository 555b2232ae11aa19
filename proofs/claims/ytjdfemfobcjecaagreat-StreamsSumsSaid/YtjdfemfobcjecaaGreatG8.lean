/-
  Contracts and plain laws that the proofs of this seat share, part 8 of 11: VarP, FrP, App, FrD, Cells, StJ, StL, StR, StO, StM, ObGood.
-/
import Derived.Test.YtjdfemfobcjecaaGreatG1
import Derived.Test.YtjdfemfobcjecaaGreatProg
import Derived.Outline
import Derived.Lib.Strings
import Derived.Laws.ResultCell
import Derived.Test.YtjdfemfobcjecaaGreatG7
import Derived.Deep.RegionWith

/-
  varints, plain: bytes of a number, the short form, taking one off. No program.
-/
namespace Go.Proofs.YtjdfemfobcjecaaGreat
open Go.RowKit

/-- k bytes of n, the highest first -/
def be (n : Nat) : Nat → List UInt8
  | 0 => []
  | k + 1 => UInt8.ofNat (n / 256 ^ k % 256) :: be n k
/-- bytes, as a number, behind a -/
def numF (a : Nat) (l : List UInt8) : Nat := l.foldl (fun a c => a * 256 + c.toNat) a

theorem be_length (n k : Nat) : (be n k).length = k := by
  induction k with
  | zero => rfl
  | succ k ih => simp [be, ih]
theorem be_get (n k j : Nat) (h : j < k) : (be n k)[j]? = some (UInt8.ofNat (n / 256 ^ (k - 1 - j) % 256)) := by
  induction k generalizing j with
  | zero => omega
  | succ k ih =>
    cases j with
    | zero => simp [be]
    | succ j =>
      simp only [be, List.getElem?_cons_succ]
      rw [ih j (by omega), show k + 1 - 1 - (j + 1) = k - 1 - j by omega]
theorem numF_cons (a : Nat) (c : UInt8) (l : List UInt8) : numF a (c :: l) = numF (a * 256 + c.toNat) l := rfl
theorem numF_eq (a : Nat) (l : List UInt8) : numF a l = a * 256 ^ l.length + numF 0 l := by
  induction l generalizing a with
  | nil => simp [numF]
  | cons c l ih =>
    rw [numF_cons, numF_cons, ih, ih (0 * 256 + c.toNat), List.length_cons, Nat.pow_succ, Nat.add_mul, Nat.zero_mul, Nat.zero_add, ← Nat.add_assoc]
    congr 2
    rw [Nat.mul_assoc, Nat.mul_comm 256]
theorem numF_lt (l : List UInt8) : numF 0 l < 256 ^ l.length := by
  induction l with
  | nil => simp [numF]
  | cons c l ih =>
    rw [numF_cons, numF_eq, List.length_cons, Nat.pow_succ]
    have := c.toNat_lt
    have h2 : (0 * 256 + c.toNat) * 256 ^ l.length ≤ 255 * 256 ^ l.length := Nat.mul_le_mul_right _ (by omega)
    have := Nat.mul_comm (256 ^ l.length) 256
    omega
theorem numF_be (a n k : Nat) : numF a (be n k) = a * 256 ^ k + n % 256 ^ k := by
  induction k generalizing a with
  | zero => simp [numF, be, Nat.mod_one]
  | succ k ih =>
    rw [be, numF_cons, ih]
    have h1 : (UInt8.ofNat (n / 256 ^ k % 256)).toNat = n / 256 ^ k % 256 := by simp [UInt8.toNat_ofNat']
    rw [h1, Nat.add_mul, Nat.add_assoc, Nat.mul_assoc, Nat.pow_succ, Nat.mul_comm 256 (256 ^ k)]
    congr 1
    rw [Nat.mod_mul, Nat.add_comm, Nat.mul_comm]
theorem be_numF (l : List UInt8) (a : Nat) : be (a * 256 ^ l.length + numF 0 l) l.length = l := by
  induction l generalizing a with
  | nil => rfl
  | cons c l ih =>
    rw [List.length_cons, be]
    have h1 : numF 0 (c :: l) = c.toNat * 256 ^ l.length + numF 0 l := by rw [numF_cons, numF_eq]; congr 2; omega
    have h2 := numF_lt l
    have hp : 0 < 256 ^ l.length := Nat.pow_pos (by omega)
    have h3 : a * 256 ^ (l.length + 1) + numF 0 (c :: l) = (a * 256 + c.toNat) * 256 ^ l.length + numF 0 l := by
      rw [h1, Nat.pow_succ, Nat.add_mul, ← Nat.add_assoc]
      congr 2
      rw [Nat.mul_assoc, Nat.mul_comm 256]
    rw [h3, ih]
    congr 1
    have h4 : ((a * 256 + c.toNat) * 256 ^ l.length + numF 0 l) / 256 ^ l.length = a * 256 + c.toNat := by
      rw [Nat.mul_comm, Nat.mul_add_div hp, Nat.div_eq_of_lt h2, Nat.add_zero]
    rw [h4]
    have := c.toNat_lt
    rw [show (a * 256 + c.toNat) % 256 = c.toNat by omega]
    simp
theorem be_mod (n k : Nat) : be (n % 256 ^ k) k = be n k := by
  have h := be_numF (be n k) 0
  rw [be_length, numF_be] at h
  simpa using h

/-- the mark of the short form -/
def vk (n : Nat) : Nat := if n < 64 then 0 else if n < 16384 then 1 else if n < 1073741824 then 2 else 3
/-- how many bytes a mark says -/
def vmany (k : Nat) : Nat := match k with | 0 => 1 | 1 => 2 | 2 => 4 | _ => 8
/-- the mark, in a number of so many bytes -/
def vmark (k : Nat) : Nat := match k with | 0 => 0 | 1 => 16384 | 2 => 2147483648 | _ => 13835058055282163712
def vlay (n k : Nat) : List UInt8 := be (n + vmark k) (vmany k)
def vput (n : Nat) : List UInt8 := vlay n (vk n)
def vsize (n : Nat) : Nat := vmany (vk n)
/-- what Put tells -/
def vputS (n : Nat) : List UInt8 := if 4611686018427387903 < n then [] else vput n
def vputE (n : Nat) : Int := if 4611686018427387903 < n then 3 else 0

structure VTake where
  n : Nat
  rest : List UInt8
  e : Int
def vtake (s : List UInt8) : VTake :=
  match s with
  | [] => ⟨0, [], 2⟩
  | c :: t => if s.length < vmany (c.toNat / 64) then ⟨0, [], 2⟩ else ⟨numF (c.toNat % 64) (t.take (vmany (c.toNat / 64) - 1)), t.drop (vmany (c.toNat / 64) - 1), 0⟩

theorem vk_le (n : Nat) : vk n ≤ 3 := by unfold vk; repeat' split
                                         all_goals omega
theorem vsize_pos (n : Nat) : 1 ≤ vsize n ∧ vsize n ≤ 8 := by
  unfold vsize vk
  repeat' split
  all_goals simp [vmany]
theorem vput_length (n : Nat) : (vput n).length = vsize n := be_length _ _
theorem vput_ne (n : Nat) : vput n ≠ [] := by
  intro h
  have := vput_length n
  rw [h] at this
  have := vsize_pos n
  simp at *
  omega

theorem vtake_put (n : Nat) (hn : n < 4611686018427387904) (r : List UInt8) : vtake (vput n ++ r) = ⟨n, r, 0⟩ := by
  have key : ∀ k, vk n = k → n < 4611686018427387904 → ∃ m, vmany k = m + 1 ∧ (n + vmark k) / 256 ^ m % 256 / 64 = k ∧ (n + vmark k) / 256 ^ m % 256 % 64 * 256 ^ m + (n + vmark k) % 256 ^ m = n := by
    intro k hk h
    unfold vk at hk
    split at hk
    · subst hk; exact ⟨0, rfl, by simp [vmark]; omega, by simp [vmark]; omega⟩
    · split at hk
      · subst hk; exact ⟨1, rfl, by simp [vmark]; omega, by simp [vmark]; omega⟩
      · split at hk
        · subst hk; exact ⟨3, rfl, by simp [vmark]; omega, by simp [vmark]; omega⟩
        · subst hk; exact ⟨7, rfl, by simp [vmark]; omega, by simp [vmark]; omega⟩
  obtain ⟨m, h1, h2, h3⟩ := key _ rfl hn
  unfold vput vlay
  rw [h1, be, List.cons_append]
  have hc : (UInt8.ofNat ((n + vmark (vk n)) / 256 ^ m % 256)).toNat = (n + vmark (vk n)) / 256 ^ m % 256 := by simp [UInt8.toNat_ofNat']
  unfold vtake
  simp only [hc, h2, h1, Nat.add_sub_cancel]
  rw [if_neg (by simp [be_length])]
  have e1 : (be (n + vmark (vk n)) m ++ r).take m = be (n + vmark (vk n)) m := by
    rw [List.take_append_of_le_length (by rw [be_length]; omega), List.take_of_length_le (by rw [be_length]; omega)]
  have e2 : (be (n + vmark (vk n)) m ++ r).drop m = r := by
    rw [List.drop_append_of_le_length (by rw [be_length]; omega), List.drop_of_length_le (by rw [be_length]; omega), List.nil_append]
  rw [e1, e2, numF_be, h3]

/-- what is taken: so many bytes, a number that fits -/
theorem vtake_some {s : List UInt8} {n : Nat} {r : List UInt8} (h : vtake s = ⟨n, r, 0⟩) :
    ∃ k, k ≤ 3 ∧ s.length = r.length + vmany k ∧ n < 4611686018427387904 ∧ s = vlay n k ++ r ∧ vk n ≤ k := by
  unfold vtake at h
  split at h
  · cases h
  · rename_i c t
    split at h
    · cases h
    · rename_i hlen
      have hcl := c.toNat_lt
      obtain ⟨k, hk⟩ : ∃ k, c.toNat / 64 = k := ⟨_, rfl⟩
      have hk3 : k ≤ 3 := by omega
      rw [hk] at h hlen
      obtain ⟨m, hm⟩ : ∃ m, vmany k = m + 1 := by
        match k, hk3 with
        | 0, _ => exact ⟨0, rfl⟩
        | 1, _ => exact ⟨1, rfl⟩
        | 2, _ => exact ⟨3, rfl⟩
        | 3, _ => exact ⟨7, rfl⟩
      rw [hm, Nat.add_sub_cancel] at h
      simp only [VTake.mk.injEq, and_true] at h
      obtain ⟨h1, h2⟩ := h
      have htl : m ≤ t.length := by simp at hlen; omega
      have hl : (t.take m).length = m := by rw [List.length_take]; omega
      have hlt := numF_lt (t.take m)
      rw [numF_eq, hl] at h1
      rw [hl] at hlt
      obtain ⟨z, hz⟩ : ∃ z, numF 0 (t.take m) = z := ⟨_, rfl⟩
      rw [hz] at h1 hlt
      have hbz : be z m = t.take m := by
        have := be_numF (t.take m) 0
        rw [hl, hz, Nat.zero_mul, Nat.zero_add] at this
        exact this
      have key : (n + vmark k) = c.toNat * 256 ^ m + z ∧ n < 4611686018427387904 ∧ vk n ≤ k := by
        unfold vk
        match k, hk3, hm, hk with
        | 0, _, hm, hk =>
          obtain rfl : m = 0 := by simp [vmany] at hm; omega
          have h0 : n < 64 := by simp at h1 hlt; omega
          rw [if_pos h0]
          simp [vmark] at h1 hlt hk ⊢
          omega
        | 1, _, hm, hk =>
          obtain rfl : m = 1 := by simp [vmany] at hm; omega
          simp [vmark] at *
          refine ⟨by omega, by omega, ?_⟩
          repeat' split
          all_goals omega
        | 2, _, hm, hk =>
          obtain rfl : m = 3 := by simp [vmany] at hm; omega
          simp [vmark] at *
          refine ⟨by omega, by omega, ?_⟩
          repeat' split
          all_goals omega
        | 3, _, hm, hk =>
          obtain rfl : m = 7 := by simp [vmany] at hm; omega
          simp [vmark] at *
          refine ⟨by omega, by omega, ?_⟩
          repeat' split
          all_goals omega
      refine ⟨k, hk3, ?_, key.2.1, ?_, key.2.2⟩
      · rw [hm, ← h2, List.length_cons, List.length_drop]; omega
      · unfold vlay
        rw [hm, key.1, be, ← h2]
        have hp : 0 < 256 ^ m := Nat.pow_pos (by omega)
        have e1 : (c.toNat * 256 ^ m + z) / 256 ^ m = c.toNat := by
          rw [Nat.mul_comm, Nat.mul_add_div hp, Nat.div_eq_of_lt hlt, Nat.add_zero]
        have e2 : be (c.toNat * 256 ^ m + z) m = t.take m := by
          rw [← hbz, ← be_mod, Nat.mul_comm, Nat.mul_add_mod, be_mod]
        rw [e1, e2, show c.toNat % 256 = c.toNat by omega, List.cons_append, List.take_append_drop]
        simp
theorem vtake_e (s : List UInt8) : (vtake s).e = 0 ∨ ((vtake s).e = 2 ∧ (vtake s).n = 0 ∧ (vtake s).rest = []) := by
  unfold vtake
  split
  · exact .inr ⟨rfl, rfl, rfl⟩
  · split
    · exact .inr ⟨rfl, rfl, rfl⟩
    · exact .inl rfl
/-- the short form is the one of its size -/
theorem vlay_short {n k : Nat} (hk : k ≤ 3) (h : vsize n = vmany k) : vlay n k = vput n := by
  unfold vput
  unfold vsize at h
  have := vk_le n
  have : vk n = k := by
    generalize vk n = j at *
    match j, k, this, hk, h with
    | 0, 0, _, _, _ => rfl
    | 1, 1, _, _, _ => rfl
    | 2, 2, _, _, _ => rfl
    | 3, 3, _, _, _ => rfl
    | 0, 1, _, _, h => simp [vmany] at h
    | 0, 2, _, _, h => simp [vmany] at h
    | 0, 3, _, _, h => simp [vmany] at h
    | 1, 0, _, _, h => simp [vmany] at h
    | 1, 2, _, _, h => simp [vmany] at h
    | 1, 3, _, _, h => simp [vmany] at h
    | 2, 0, _, _, h => simp [vmany] at h
    | 2, 1, _, _, h => simp [vmany] at h
    | 2, 3, _, _, h => simp [vmany] at h
    | 3, 0, _, _, h => simp [vmany] at h
    | 3, 1, _, _, h => simp [vmany] at h
    | 3, 2, _, _, h => simp [vmany] at h
  rw [this]
theorem be_add (n c k : Nat) : be (n + c * 256 ^ k) k = be n k := by
  rw [← be_mod, Nat.add_mul_mod_self_right, be_mod]
/-- the short form: a mark on the first byte -/
theorem vlay_eq {n k : Nat} (hk : k ≤ 3) (hv : vk n ≤ k) (hn : n < 4611686018427387904) : ∃ m b, vmany k = m + 1 ∧ m ≤ 7 ∧ n / 256 ^ m % 256 = b ∧ b < 64 ∧ vlay n k = UInt8.ofNat (b + k * 64) :: be n m := by
  unfold vk at hv
  match k, hk, hv with
  | 0, _, hv =>
    have h0 : n < 64 := by
      split at hv
      · assumption
      · split at hv
        · omega
        · split at hv <;> omega
    refine ⟨0, n, rfl, by omega, by simp; omega, h0, ?_⟩
    unfold vlay
    simp only [vmany, vmark, be, Nat.pow_zero, Nat.div_one, Nat.add_zero, Nat.zero_mul]
    rw [show n % 256 = n by omega]
  | 1, _, hv =>
    have h0 : n < 16384 := by
      split at hv
      · omega
      · split at hv
        · assumption
        · split at hv <;> omega
    refine ⟨1, n / 256 ^ 1 % 256, rfl, by omega, rfl, by simp; omega, ?_⟩
    have e := be_add n 64 1
    show UInt8.ofNat ((n + 16384) / 256 ^ 1 % 256) :: be (n + 16384) 1 = _
    rw [show n + 16384 = n + 64 * 256 ^ 1 by omega, e]
    congr 2
    simp; omega
  | 2, _, hv =>
    have h0 : n < 1073741824 := by
      split at hv
      · omega
      · split at hv
        · omega
        · split at hv <;> omega
    refine ⟨3, n / 256 ^ 3 % 256, rfl, by omega, rfl, by simp; omega, ?_⟩
    have e := be_add n 128 3
    show UInt8.ofNat ((n + 2147483648) / 256 ^ 3 % 256) :: be (n + 2147483648) 3 = _
    rw [show n + 2147483648 = n + 128 * 256 ^ 3 by omega, e]
    congr 2
    simp; omega
  | 3, _, hv =>
    refine ⟨7, n / 256 ^ 7 % 256, rfl, by omega, rfl, by simp; omega, ?_⟩
    have e := be_add n 192 7
    show UInt8.ofNat ((n + 13835058055282163712) / 256 ^ 7 % 256) :: be (n + 13835058055282163712) 7 = _
    rw [show n + 13835058055282163712 = n + 192 * 256 ^ 7 by omega, e]
    congr 2
    simp; omega
/-- the first number that doesn't fit by a mark -/
def vbound (k : Nat) : Nat := match k with | 0 => 64 | 1 => 16384 | 2 => 1073741824 | _ => 4611686018427387904
theorem vk_step {n j : Nat} (hj : j < 3) (h : j ≤ vk n) : (n < vbound j → vk n = j) ∧ (¬ n < vbound j → j + 1 ≤ vk n) := by
  unfold vk at h ⊢
  match j, hj with
  | 0, _ => simp only [vbound]; constructor <;> intro h2 <;> (repeat' split) <;> omega
  | 1, _ => simp only [vbound]; constructor <;> intro h2 <;> (repeat' split at h) <;> (repeat' split) <;> omega
  | 2, _ => simp only [vbound]; constructor <;> intro h2 <;> (repeat' split at h) <;> (repeat' split) <;> omega
end Go.Proofs.YtjdfemfobcjecaaGreat

/-
  frames, plain: which may be, and their bytes. No program.
-/
namespace Go.Proofs.YtjdfemfobcjecaaGreat
open Go.RowKit

structure Fr where
  kind : Nat
  a : Nat
  b : Nat
  c : Nat
  fin : Bool
  data : ByteArray
  more : ByteArray
  list : List (Nat × Nat)
def fr0 : Fr := ⟨0, 0, 0, 0, false, ⟨#[]⟩, ⟨#[]⟩, []⟩
theorem Fr.ext' {f g : Fr} (h1 : f.kind = g.kind) (h2 : f.a = g.a) (h3 : f.b = g.b) (h4 : f.c = g.c) (h5 : f.fin = g.fin) (h6 : f.data = g.data) (h7 : f.more = g.more) (h8 : f.list = g.list) : f = g := by
  obtain ⟨_, _, _, _, _, _, _, _⟩ := f
  obtain ⟨_, _, _, _, _, _, _, _⟩ := g
  simp only at h1 h2 h3 h4 h5 h6 h7 h8
  subst h1 h2 h3 h4 h5 h6 h7 h8
  rfl

/-- how many numbers, is there a text, how many bytes -/
structure Shp where
  n : Nat
  t : Bool
  x : Nat
def fshape (k : Nat) : Option Shp :=
  if k = 1 ∨ k = 30 then some ⟨0, false, 0⟩
  else if k = 4 then some ⟨3, false, 0⟩
  else if k = 5 ∨ k = 17 ∨ k = 21 then some ⟨2, false, 0⟩
  else if k = 16 ∨ k = 18 ∨ k = 19 ∨ k = 20 ∨ k = 22 ∨ k = 23 ∨ k = 25 then some ⟨1, false, 0⟩
  else if k = 6 ∨ k = 29 then some ⟨1, true, 0⟩
  else if k = 28 then some ⟨2, true, 0⟩
  else if k = 7 then some ⟨0, true, 0⟩
  else if k = 26 ∨ k = 27 then some ⟨0, false, 8⟩
  else none

def rngOk : Option Nat → List (Nat × Nat) → Bool
  | _, [] => true
  | prev, r :: t => decide (r.1 ≤ r.2) && decide (r.2 < 4611686018427387904) && (match prev with | none => true | some p => decide (2 ≤ p) && decide (r.2 ≤ p - 2)) && rngOk (some r.1) t
def rngs (l : List (Nat × Nat)) : Bool := rngOk none l && (decide (1 ≤ l.length) && decide (l.length ≤ 64))
def facks (f : Fr) : Bool :=
  (if f.kind = 3 then decide (f.more.size = 8) && decide (numF 0 f.more.data.toList < 4611686018427387904) else decide (f.b = 0) && decide (f.c = 0) && decide (f.more.size = 0)) &&
    (!f.fin && decide (f.data.size = 0) && rngs f.list)
def flimits (f : Fr) : Bool :=
  if f.kind = 18 ∨ f.kind = 19 ∨ f.kind = 22 ∨ f.kind = 23 then decide (f.a ≤ 1152921504606846976)
  else if f.kind = 7 then decide (f.data.size ≠ 0)
  else if f.kind = 6 then decide (f.a + f.data.size < 4611686018427387904)
  else true
def fown (f : Fr) : Bool :=
  if f.kind = 0 then decide (1 ≤ f.a) && decide (f.a ≤ 16384) && decide (f.list = []) && decide (f.b = 0) && decide (f.c = 0) && !f.fin && decide (f.data.size = 0) && decide (f.more.size = 0)
  else if f.kind = 2 ∨ f.kind = 3 then facks f
  else if f.kind = 8 then decide (f.list = []) && decide (f.c = 0) && decide (f.more.size = 0) && decide (f.b + f.data.size < 4611686018427387904)
  else if f.kind = 24 then decide (f.list = []) && decide (f.c = 0) && !f.fin && decide (f.b ≤ f.a) && decide (1 ≤ f.data.size) && decide (f.data.size ≤ 20) && decide (f.more.size = 16)
  else false
def fclear (s : Shp) (f : Fr) : Bool :=
  (decide (1 ≤ s.n) || decide (f.a = 0)) && (decide (2 ≤ s.n) || decide (f.b = 0)) && (decide (3 ≤ s.n) || decide (f.c = 0)) && !f.fin && (s.t || decide (0 < s.x) || decide (f.data.size = 0)) && decide (f.more.size = 0) && decide (f.list = [])
def fmay (f : Fr) : Bool :=
  decide (f.a < 4611686018427387904) && decide (f.b < 4611686018427387904) && decide (f.c < 4611686018427387904) && decide (f.data.size ≤ 16384) &&
    match fshape f.kind with
    | none => fown f
    | some s => fclear s f && (decide (s.x = 0) || decide (f.data.size = s.x)) && flimits f

def ftext (s : ByteArray) : List UInt8 := vputS s.size ++ s.data.toList
/-- the bytes of ranges behind one -/
def rbytes : Nat → List (Nat × Nat) → List UInt8
  | _, [] => []
  | p, r :: t => vputS (p - r.2 - 2) ++ (vputS (r.2 - r.1) ++ rbytes r.1 t)
def fack (f : Fr) : List UInt8 := match f.list with
  | [] => []
  | r :: t => vputS f.kind ++ (vputS r.2 ++ (vputS f.a ++ (vputS t.length ++ (vputS (r.2 - r.1) ++ (rbytes r.1 t ++ (if f.kind = 3 then vputS f.b ++ (vputS f.c ++ vputS (numF 0 f.more.data.toList)) else []))))))
def fstream (f : Fr) : List UInt8 := vputS (10 + (if f.b = 0 then 0 else 4) + (if f.fin then 1 else 0)) ++ (vputS f.a ++ ((if f.b = 0 then [] else vputS f.b) ++ ftext f.data))
def fcid (f : Fr) : List UInt8 := vputS 24 ++ (vputS f.a ++ (vputS f.b ++ (UInt8.ofNat f.data.size :: (f.data.data.toList ++ f.more.data.toList))))
def fway (f : Fr) : List UInt8 :=
  if f.kind = 0 then List.replicate f.a 0
  else if f.kind = 8 then fstream f
  else if f.kind = 24 then fcid f
  else fack f
def fnums (n : Nat) (f : Fr) : List UInt8 := (([f.a, f.b, f.c].take n).map vputS).flatten
def ftail (s : Shp) (f : Fr) : List UInt8 := if s.t then ftext f.data else if 0 < s.x then f.data.data.toList else []
def fbytes (f : Fr) : List UInt8 := match fshape f.kind with
  | some s => vputS f.kind ++ (fnums s.n f ++ ftail s f)
  | none => fway f
/-- what Write tells -/
def fwS (f : Fr) : List UInt8 := if fmay f then fbytes f else []
def fwE (f : Fr) : Int := if fmay f then 0 else 2
end Go.Proofs.YtjdfemfobcjecaaGreat

/-
  append of one element, of any element type, to a slice of one's own.
-/
namespace Go.Proofs.YtjdfemfobcjecaaGreat
open Go.RowKit

theorem info_split {P : Program} {e : TypeId} {z : Value} {size bytes : Nat} (h : (P.info? e).map (fun i => (i.zero, i.size, i.bytes)) = some (some z, size, bytes)) :
    ∃ i, P.info? e = some i ∧ i.zero = some z ∧ i.size = size ∧ i.bytes = bytes := by
  obtain ⟨i, hi, hzz⟩ := Option.map_eq_some_iff.1 h
  simp only [Prod.mk.injEq] at hzz
  exact ⟨i, hi, hzz.1, hzz.2.1, hzz.2.2⟩
theorem owned_slice {w : World} {base : Nat} {e : TypeId} {size n : Nat} {v : Value} {xs : List Value} (h : w.ownsRow base e size v n xs) : ∃ A c, v = .slice A n c := by
  rcases h.2 with ⟨rfl, rfl⟩ | ⟨g, cap, cur, rfl, _⟩
  · exact ⟨_, _, rfl⟩
  · exact ⟨_, _, rfl⟩
theorem app_one {P : Program} {T e : TypeId} {z : Value} {size bytes : Nat} (hT : P.underlying T = some (.slice e)) (hinfo : (P.info? e).map (fun i => (i.zero, i.size, i.bytes)) = some (some z, size, bytes)) (hzs : z.cells.size = size)
    (w : World) (ty : TypeId) (base : Nat) (v : Value) (n : Nat) (xs : List Value) (h : w.ownsRow base e size v n xs) (hbase : base ≤ w.heap.size) (news : List Value) (hnl : news.length = size) (hone : ∀ u ∈ news, u.oneCell' = true)
    (hb : (n + 1) * bytes ≤ 140737488355328) (hb63 : n < 9223372036854775807) (g : Nat) (hc : ∀ j u, news[j]? = some u → w.cell? ⟨g, j, none⟩ = some u) :
    ∃ A c w', (Builtin.append_ #[T, T] ty #[v, .slice (some ⟨g, 0, none⟩) 1 1]).run P w = .ok (.slice A (n + 1) c) w' ∧ w'.ownsRow base e size (.slice A (n + 1) c) (n + 1) (xs ++ news) ∧ Mod v.ownBlock.toList w w' ∧
      ((Value.slice A (n + 1) c).ownBlock = v.ownBlock ∨ (Value.slice A (n + 1) c).ownBlock = some w.heap.size) := by
  obtain ⟨i0, hi, hz0, hz1, hz2⟩ := info_split hinfo
  have hsrc : Src P size T (.slice (some ⟨g, 0, none⟩) 1 1) 1 news w := Src.ofSlice w hT _ 1 1 _ (by rw [hnl]; omega) (fun j u hu => by
    have := hc j u hu
    rwa [Addr.add_lit, Nat.zero_add]) hone
  obtain ⟨v', w', h1, h2, h3, h4⟩ := run_app (P := P) ty base hi hz1 hzs v n _ h (AppSrc.of_src hT hi hz0 hz1 hsrc) (by simp only [maxLen]; omega) (by rw [hz2]; exact hb) hbase
  obtain ⟨A, c, rfl⟩ := owned_slice h2
  exact ⟨A, c, w', h1, h2, Mod.of_grown h3, h4⟩
/-- an owned row, in a world in which nothing older turned -/
theorem Mod.keep {a w w' : World} {v : Value} {base : Nat} {e : TypeId} {size n : Nat} {xs : List Value} (h : Mod [] a w) (hm : Mod v.ownBlock.toList w w') (ho : w.ownsRow base e size v n xs) (hb : a.heap.size ≤ base) : Mod [] a w' :=
  h.trans hm (fun x hx => by
    right
    simp at hx
    have := (ho.lt x hx).1
    omega)
end Go.Proofs.YtjdfemfobcjecaaGreat

/-
  frames in memory; frames that are the same.
-/
namespace Go.Proofs.YtjdfemfobcjecaaGreat
open Go.RowKit

/-- the slice at A, of n ranges, reads as l -/
def Rngs (w : World) (A : Option Addr) (n : Nat) (l : List (Nat × Nat)) : Prop :=
  l.length = n ∧ n ≤ 4611686018427387904 ∧ (n = 0 ∨ ∃ g o, A = some ⟨g, o, none⟩ ∧ g < w.heap.size ∧ ∀ i x, l[i]? = some x → w.cell? ⟨g, o + i * 2, none⟩ = some (.int .u64 (x.1 : Nat)) ∧ w.cell? ⟨g, o + i * 2 + 1, none⟩ = some (.int .u64 (x.2 : Nat)))
def fcs (A : Option Addr) (n c : Nat) (f : Fr) : Array Value := #[.int .u64 (f.kind : Nat), .int .u64 (f.a : Nat), .int .u64 (f.b : Nat), .int .u64 (f.c : Nat), .bool f.fin, .string f.data, .string f.more, .slice A n c]
def fval (A : Option Addr) (n c : Nat) (f : Fr) : Value := .agg (fcs A n c f)
theorem Rngs.nil (w : World) : Rngs w none 0 [] := ⟨rfl, by omega, .inl rfl⟩
theorem Rngs.mod {F : List Nat} {w w' : World} {A : Option Addr} {n : Nat} {l : List (Nat × Nat)} (h : Rngs w A n l) (hm : Mod F w w') (hF : ∀ g o, A = some ⟨g, o, none⟩ → g ∉ F) : Rngs w' A n l := by
  refine ⟨h.1, h.2.1, ?_⟩
  rcases h.2.2 with h0 | ⟨g, o, hA, hg, hc⟩
  · exact .inl h0
  · refine .inr ⟨g, o, hA, Nat.lt_of_lt_of_le hg hm.size, fun i x hx => ?_⟩
    obtain ⟨h1, h2⟩ := hc i x hx
    exact ⟨(hm.cell (p := ⟨g, o + i * 2, none⟩) hg (hF g o hA)).trans h1, (hm.cell (p := ⟨g, o + i * 2 + 1, none⟩) hg (hF g o hA)).trans h2⟩
theorem Rngs.new {w w' : World} {A : Option Addr} {n : Nat} {l : List (Nat × Nat)} (h : Rngs w A n l) (hm : Mod [] w w') : Rngs w' A n l := h.mod hm (by simp)
/-- the i-th range -/
theorem Rngs.at_ {w : World} {A : Option Addr} {n : Nat} {l : List (Nat × Nat)} (h : Rngs w A n l) {i : Nat} (hi : i < n) :
    ∃ g o, ∃ hl : i < l.length, A = some ⟨g, o, none⟩ ∧ g < w.heap.size ∧ w.cell? ⟨g, o + i * 2, none⟩ = some (.int .u64 (l[i].1 : Nat)) ∧ w.cell? ⟨g, o + i * 2 + 1, none⟩ = some (.int .u64 (l[i].2 : Nat)) := by
  rcases h.2.2 with h0 | ⟨g, o, hA, hg, hc⟩
  · omega
  · have hl : i < l.length := by have := h.1; omega
    obtain ⟨h1, h2⟩ := hc i _ (List.getElem?_eq_getElem hl)
    exact ⟨g, o, hl, hA, hg, h1, h2⟩

def fsame (f g : Fr) : Bool := decide (f.kind = g.kind) && decide (f.a = g.a) && decide (f.b = g.b) && decide (f.c = g.c) && decide (f.fin = g.fin) && decide (f.data = g.data) && decide (f.more = g.more) && decide (f.list = g.list)
theorem fsame_iff {f g : Fr} : fsame f g = true ↔ f = g := by
  unfold fsame
  simp only [Bool.and_eq_true, decide_eq_true_eq]
  constructor
  · rintro ⟨⟨⟨⟨⟨⟨⟨h1, h2⟩, h3⟩, h4⟩, h5⟩, h6⟩, h7⟩, h8⟩
    exact Fr.ext' h1 h2 h3 h4 h5 h6 h7 h8
  · rintro rfl
    simp
theorem fsame_self (f : Fr) : fsame f f = true := fsame_iff.2 rfl
theorem fsame_ne {f g : Fr} (h : f ≠ g) : fsame f g = false := by
  cases hs : fsame f g
  · rfl
  · exact absurd (fsame_iff.1 hs) h
theorem toList_ne {a b : ByteArray} (h : a ≠ b) : (a.toList == b.toList) = false := by
  rw [beq_eq_false_iff_ne]
  intro e
  rw [Lib.toList_data, Lib.toList_data] at e
  exact h (ByteArray.ext (Array.ext' e))

def RPost (w : World) (v : Bool) (e : Ending) (w' : World) : Prop := e = .returned (.bool v) ∧ Mod [] w w'
end Go.Proofs.YtjdfemfobcjecaaGreat

/-
  results that lie in cells; cells stored anew, one by one.
-/
namespace Go.Proofs.YtjdfemfobcjecaaGreat
open Go.RowKit

theorem results_cell_tmp_row {P : Program} {fn : Func} {p u : Tmp} {ty : TypeId} (h : fn.results = #[.cell p ty, .tmp u]) (tmps : Array Value) (w : World) (g : Nat) (t : TypeId) (cs : Array Value) (d : TypeDesc)
    (hp : tmps.getD p undef = .pointer (some ⟨g, 0, none⟩)) (hg : Blk w g t cs) (hu : P.underlying ty = some d) (hd : (match d with | .struct _ | .array _ _ => true | _ => false) = true) (hi : (P.info? ty).map (·.size) = some cs.size) :
    (results fn tmps).run P w = .ok (.tuple #[.agg cs, tmps.getD u undef]) w := by
  rw [results_cell_tmp h, hp]
  show ((loadVar ty ⟨g, 0, none⟩).run P w).andThen _ = _
  rw [run_loadVar_row w g t ty cs (0, 0) d hg hu hd hi]
  rfl
theorem sets_fold (cs vs : Array Value) (h : cs.size = vs.size) : ∀ k, k ≤ vs.size → (((List.range k).foldl (fun c i => c.setIfInBounds i (vs.getD i undef)) cs).size = vs.size ∧
    ∀ i, i < vs.size → ((List.range k).foldl (fun c i => c.setIfInBounds i (vs.getD i undef)) cs)[i]? = if i < k then vs[i]? else cs[i]?) := by
  intro k
  induction k with
  | zero => intro _; exact ⟨by simpa using h, fun i hi => by simp⟩
  | succ k ih =>
    intro hk
    obtain ⟨h1, h2⟩ := ih (by omega)
    rw [List.range_succ, List.foldl_append]
    simp only [List.foldl_cons, List.foldl_nil]
    refine ⟨by simpa using h1, fun i hi => ?_⟩
    rw [Array.getElem?_setIfInBounds]
    by_cases e : k = i
    · subst e
      rw [if_pos rfl, if_pos (by omega), if_pos (by omega)]
      simp [Array.getD, hi]
    · rw [if_neg e, h2 i hi]
      by_cases h3 : i < k
      · rw [if_pos h3, if_pos (by omega)]
      · rw [if_neg h3, if_neg (by omega)]
theorem sets_eq (cs vs : Array Value) (n : Nat) (h : cs.size = n) (k : vs.size = n) : (List.range n).foldl (fun c i => c.setIfInBounds i (vs.getD i undef)) cs = vs := by
  subst k
  obtain ⟨h1, h2⟩ := sets_fold cs vs h vs.size (Nat.le_refl _)
  apply Array.ext_getElem?
  intro i
  by_cases hi : i < vs.size
  · rw [h2 i hi, if_pos hi]
  · rw [Array.getElem?_eq_none (by omega), Array.getElem?_eq_none (by omega)]
theorem Blk.sets {w : World} {g : Nat} {t : TypeId} {cs : Array Value} (h : Blk w g t cs) (vs : Nat → Value) : ∀ l : List Nat, Blk (l.foldl (fun w i => w.setCell ⟨g, i, none⟩ (vs i)) w) g t (l.foldl (fun c i => c.setIfInBounds i (vs i)) cs)
  | [] => h
  | i :: l => Blk.sets (h.set_ i (vs i)) vs l
theorem Mod.sets {F : List Nat} {a w : World} {g : Nat} (h : Mod F a w) (hg : g ∈ F ∨ a.heap.size ≤ g) (vs : Nat → Value) : ∀ l : List Nat, Mod F a (l.foldl (fun w i => w.setCell ⟨g, i, none⟩ (vs i)) w)
  | [] => h
  | i :: l => Mod.sets (h.setCell (p := ⟨g, i, none⟩) hg (vs i)) hg vs l
end Go.Proofs.YtjdfemfobcjecaaGreat

/-
  streams: raised, stopped, gone, control.
-/
namespace Go.Proofs.YtjdfemfobcjecaaGreat
open Go.RowKit Go.Sort
set_option linter.unusedVariables false
set_option linter.unusedSimpArgs false
/-- a frame that tells numbers alone -/
def fnum (k a b c : Nat) : Fr := ⟨k, a, b, c, false, ⟨#[]⟩, ⟨#[]⟩, []⟩
def fnone : Fr := fr0
def St.stoppedSt (x : St) : St := { x with stop := { x.stop with must := false } }
def St.stoppedFr (x : St) : Fr := if x.stop.must then fnum 5 x.id x.stop.code (0) else fnone
set_option maxRecDepth 100000 in
set_option maxHeartbeats 4000000 in
theorem ststopped_any (w : World) (sb : Nat) (s : Ss) (h : SBox w sb s) (hn : (s.l.map St.id).Nodup) (x : St) (hx : x ∈ s.l) :
    Calls Tryz.prog 65 #[.pointer (some ⟨x.xb, 0, none⟩)] w fun e w' => e = .returned (.tuple #[fval none 0 0 x.stoppedFr, .bool x.stop.must]) ∧ SStep w sb s (s.put x.stoppedSt) w' := by
  have HB := hide h
  have HN := hide hn
  have HX := hide hx
  have hxb := (h.all x hx).blk
  have HXb := hide hxb
  have x0 : w.cell? ⟨x.xb, 0, none⟩ = some (.int .u64 (x.id : Int)) := hxb.cell 0
  have xm : w.cell? ⟨x.xb, 7, none⟩ = some (.bool x.stop.must) := hxb.cell 7
  have xf : w.frozen? ⟨x.xb, 7, none⟩ = false := hxb.frozen 7
  have xc : w.cell? ⟨x.xb, 5, none⟩ = some (.int .u64 (x.stop.code : Int)) := hxb.cell 5
  have xl : w.cell? ⟨x.xb, 11, none⟩ = some (.int .u64 (x.final : Int)) := hxb.cell 11
  have hxl : x.xb < w.heap.size := hxb.lt
  obtain ⟨mu, hmu⟩ : ∃ mu, x.stop.must = mu := ⟨_, rfl⟩
  have HMu := hide hmu
  rw [hmu] at xm
  clear h hn hx hxb hmu
  cases mu with
  | true =>
    go_enter Tryz.func65, Tryz.ntmps65
    go_wp2_with fail
    go_region
    go_wp2_with fail
    refine bodyPost_ret (results_cell_tmp_row rfl _ _ w.heap.size 31 (fcs none 0 0 (fnum 5 x.id x.stop.code (0))) _ rfl ?_ Tryz.underlying31 rfl (by kernel_rfl)) rfl ?_
    · have hb := Blk.new (w.setCell ⟨x.xb, 7, none⟩ (.bool false)) 31 (fcs none 0 0 (fnum 5 x.id x.stop.code (0)))
      rw [World.size_setCell] at hb
      exact hb
    · have hm : Mod [x.xb] w (w.setCell ⟨x.xb, 7, none⟩ (.bool false)) := (Mod.refl [x.xb] w).setCell (p := ⟨x.xb, 7, none⟩) (.inl (by simp)) _
      have hb := HXb.out.set_ 7 (.bool false)
      refine ⟨?_, SBox.cellStep HB.out HN.out HX.out (x' := x.stoppedSt) (hm.alloc _).drew (hb.alloc _).drew rfl rfl rfl rfl⟩
      unfold St.stoppedFr
      rw [HMu.out]
      rfl
  | false =>
    go_enter Tryz.func65, Tryz.ntmps65
    go_wp2_with fail
    refine bodyPost_ret (results_cell_tmp_row rfl _ _ w.heap.size 31 (fcs none 0 0 fr0) _ rfl ?_ Tryz.underlying31 rfl (by kernel_rfl)) rfl ?_
    · have hb := Blk.new (w.setCell ⟨x.xb, 7, none⟩ (.bool false)) 31 (fcs none 0 0 fr0)
      rwa [World.size_setCell] at hb
    · have hm : Mod [x.xb] w (w.setCell ⟨x.xb, 7, none⟩ (.bool false)) := (Mod.refl [x.xb] w).setCell (p := ⟨x.xb, 7, none⟩) (.inl (by simp)) _
      have hb := HXb.out.set_ 7 (.bool false)
      refine ⟨?_, SBox.cellStep HB.out HN.out HX.out (x' := x.stoppedSt) (hm.alloc _) (hb.alloc _) rfl rfl rfl rfl⟩
      unfold St.stoppedFr
      rw [HMu.out]
      rfl
def St.goneSt (x : St) : St := { x with rst := { x.rst with must := false } }
def St.goneFr (x : St) : Fr := if x.rst.must then fnum 4 x.id x.rst.code (x.final) else fnone
set_option maxRecDepth 100000 in
set_option maxHeartbeats 4000000 in
theorem stgone_any (w : World) (sb : Nat) (s : Ss) (h : SBox w sb s) (hn : (s.l.map St.id).Nodup) (x : St) (hx : x ∈ s.l) :
    Calls Tryz.prog 66 #[.pointer (some ⟨x.xb, 0, none⟩)] w fun e w' => e = .returned (.tuple #[fval none 0 0 x.goneFr, .bool x.rst.must]) ∧ SStep w sb s (s.put x.goneSt) w' := by
  have HB := hide h
  have HN := hide hn
  have HX := hide hx
  have hxb := (h.all x hx).blk
  have HXb := hide hxb
  have x0 : w.cell? ⟨x.xb, 0, none⟩ = some (.int .u64 (x.id : Int)) := hxb.cell 0
  have xm : w.cell? ⟨x.xb, 10, none⟩ = some (.bool x.rst.must) := hxb.cell 10
  have xf : w.frozen? ⟨x.xb, 10, none⟩ = false := hxb.frozen 10
  have xc : w.cell? ⟨x.xb, 8, none⟩ = some (.int .u64 (x.rst.code : Int)) := hxb.cell 8
  have xl : w.cell? ⟨x.xb, 11, none⟩ = some (.int .u64 (x.final : Int)) := hxb.cell 11
  have hxl : x.xb < w.heap.size := hxb.lt
  obtain ⟨mu, hmu⟩ : ∃ mu, x.rst.must = mu := ⟨_, rfl⟩
  have HMu := hide hmu
  rw [hmu] at xm
  clear h hn hx hxb hmu
  cases mu with
  | true =>
    go_enter Tryz.func66, Tryz.ntmps66
    go_wp2_with fail
    go_region
    go_wp2_with fail
    refine bodyPost_ret (results_cell_tmp_row rfl _ _ w.heap.size 31 (fcs none 0 0 (fnum 4 x.id x.rst.code (x.final))) _ rfl ?_ Tryz.underlying31 rfl (by kernel_rfl)) rfl ?_
    · have hb := Blk.new (w.setCell ⟨x.xb, 10, none⟩ (.bool false)) 31 (fcs none 0 0 (fnum 4 x.id x.rst.code (x.final)))
      rw [World.size_setCell] at hb
      exact hb
    · have hm : Mod [x.xb] w (w.setCell ⟨x.xb, 10, none⟩ (.bool false)) := (Mod.refl [x.xb] w).setCell (p := ⟨x.xb, 10, none⟩) (.inl (by simp)) _
      have hb := HXb.out.set_ 10 (.bool false)
      refine ⟨?_, SBox.cellStep HB.out HN.out HX.out (x' := x.goneSt) (hm.alloc _).drew (hb.alloc _).drew rfl rfl rfl rfl⟩
      unfold St.goneFr
      rw [HMu.out]
      rfl
  | false =>
    go_enter Tryz.func66, Tryz.ntmps66
    go_wp2_with fail
    refine bodyPost_ret (results_cell_tmp_row rfl _ _ w.heap.size 31 (fcs none 0 0 fr0) _ rfl ?_ Tryz.underlying31 rfl (by kernel_rfl)) rfl ?_
    · have hb := Blk.new (w.setCell ⟨x.xb, 10, none⟩ (.bool false)) 31 (fcs none 0 0 fr0)
      rwa [World.size_setCell] at hb
    · have hm : Mod [x.xb] w (w.setCell ⟨x.xb, 10, none⟩ (.bool false)) := (Mod.refl [x.xb] w).setCell (p := ⟨x.xb, 10, none⟩) (.inl (by simp)) _
      have hb := HXb.out.set_ 10 (.bool false)
      refine ⟨?_, SBox.cellStep HB.out HN.out HX.out (x' := x.goneSt) (hm.alloc _) (hb.alloc _) rfl rfl rfl rfl⟩
      unfold St.goneFr
      rw [HMu.out]
      rfl
def St.limit (x : St) : Nat := match x.inn with
  | some p => p.2.2.limit
  | none => 0
def St.raisedSt (x : St) : St := { x with raise := false }
def St.raisedFr (x : St) : Fr := if x.raise then fnum 17 x.id x.limit 0 else fnone
set_option maxRecDepth 100000 in
set_option maxHeartbeats 4000000 in
theorem straised_any (w : World) (sb : Nat) (s : Ss) (h : SBox w sb s) (hn : (s.l.map St.id).Nodup) (x : St) (hx : x ∈ s.l) (hri : x.raise = true → x.inn.isSome = true) :
    Calls Tryz.prog 64 #[.pointer (some ⟨x.xb, 0, none⟩)] w fun e w' => e = .returned (.tuple #[fval none 0 0 x.raisedFr, .bool x.raise]) ∧ SStep w sb s (s.put x.raisedSt) w' := by
  have HB := hide h
  have HN := hide hn
  have HX := hide hx
  have hxb := (h.all x hx).blk
  have HXb := hide hxb
  have x0 : w.cell? ⟨x.xb, 0, none⟩ = some (.int .u64 (x.id : Int)) := hxb.cell 0
  have x1 : w.cell? ⟨x.xb, 1, none⟩ = some x.inV := hxb.cell 1
  have xm : w.cell? ⟨x.xb, 4, none⟩ = some (.bool x.raise) := hxb.cell 4
  have xf : w.frozen? ⟨x.xb, 4, none⟩ = false := hxb.frozen 4
  have hxl : x.xb < w.heap.size := hxb.lt
  cases hmu : x.raise with
  | true =>
    obtain ⟨p, hp⟩ := Option.isSome_iff_exists.1 (hri hmu)
    obtain ⟨b, m, o⟩ := p
    have x1' : w.cell? ⟨x.xb, 1, none⟩ = some (.pointer (some ⟨b, 0, none⟩)) := by rw [x1]; unfold St.inV; rw [hp]; rfl
    have hob := (h.all x hx).inn b m o hp
    have hlim : x.limit = o.limit := by unfold St.limit; rw [hp]
    have hne : x.xb ≠ b ∧ x.xb ≠ m := by have := (h.all x hx).xi; unfold St.ifoot at this; rw [hp] at this; simpa using this
    have hm1 : Mod [x.xb] w ((w.setCell ⟨x.xb, 4, none⟩ (.bool false)).alloc (.cells (fcs none 0 0 fr0) 31)) := ((Mod.refl [x.xb] w).setCell (p := ⟨x.xb, 4, none⟩) (.inl (by simp)) _).alloc _
    have HL := hide (fun (W : World) (hm : Mod [x.xb] w W) => ilimit_any W b m o (hob.mod hm (by simpa using hne.1.symm) (by simpa using hne.2.symm)))
    have HM1 := hide hm1
    have HMu := hide hmu
    have HLim := hide hlim
    rw [hmu] at xm
    clear h hn hx hxb hmu hri x1 hp hob hne hlim hm1
    go_enter Tryz.func64, Tryz.ntmps64
    go_wp2_with fail
    go_region_with (go_at_call 47; refine (HL.out _ ?_).mono ?_; exact HM1.out.drew; rintro e w9 ⟨rfl, n9, rfl⟩)
    all_goals go_wp2_with fail
    all_goals
      have hb00 := Blk.new (w.setCell ⟨x.xb, 4, none⟩ (.bool false)) 31 (fcs none 0 0 fr0)
      rw [World.size_setCell] at hb00
      have hb0 : Blk (((w.setCell ⟨x.xb, 4, none⟩ (.bool false)).alloc (.cells (fcs none 0 0 fr0) 31)).drewN (1 + n9)) w.heap.size 31 (fcs none 0 0 fr0) := hb00
      have hx0 : Blk (((w.setCell ⟨x.xb, 4, none⟩ (.bool false)).alloc (.cells (fcs none 0 0 fr0) 31)).drewN (1 + n9)) x.xb 83 x.raisedSt.cells := (HXb.out.set_ 4 (.bool false)).alloc _
      refine bodyPost_ret (results_cell_tmp_row rfl _ _ w.heap.size 31 (fcs none 0 0 (fnum 17 x.id o.limit 0)) _ rfl ?_ Tryz.underlying31 rfl (by kernel_rfl)) rfl ?_
      · exact ((((((((hb0.set_ 0 (.int .u64 17)).set_ 1 (.int .u64 (x.id : Int))).set_ 2 (.int .u64 (o.limit : Int))).set_ 3 (.int .u64 0)).set_ 4 (.bool false)).set_ 5 (.string ⟨#[]⟩)).set_ 6 (.string ⟨#[]⟩)).set_ 7 (.slice none 0 0))
      · refine ⟨?_, SBox.cellStep HB.out HN.out HX.out (x' := x.raisedSt) (((((((((HM1.out.drewN (1 + n9)).setCell (p := ⟨w.heap.size, 0, none⟩) (.inr (Nat.le_refl _)) (.int .u64 17)).setCell (p := ⟨w.heap.size, 1, none⟩) (.inr (Nat.le_refl _)) (.int .u64 (x.id : Int))).setCell (p := ⟨w.heap.size, 2, none⟩) (.inr (Nat.le_refl _)) (.int .u64 (o.limit : Int))).setCell (p := ⟨w.heap.size, 3, none⟩) (.inr (Nat.le_refl _)) (.int .u64 0)).setCell (p := ⟨w.heap.size, 4, none⟩) (.inr (Nat.le_refl _)) (.bool false)).setCell (p := ⟨w.heap.size, 5, none⟩) (.inr (Nat.le_refl _)) (.string ⟨#[]⟩)).setCell (p := ⟨w.heap.size, 6, none⟩) (.inr (Nat.le_refl _)) (.string ⟨#[]⟩)).setCell (p := ⟨w.heap.size, 7, none⟩) (.inr (Nat.le_refl _)) (.slice none 0 0)) ((((((((hx0.far (p := ⟨w.heap.size, 0, none⟩) (by show x.xb ≠ w.heap.size; omega) (.int .u64 17)).far (p := ⟨w.heap.size, 1, none⟩) (by show x.xb ≠ w.heap.size; omega) (.int .u64 (x.id : Int))).far (p := ⟨w.heap.size, 2, none⟩) (by show x.xb ≠ w.heap.size; omega) (.int .u64 (o.limit : Int))).far (p := ⟨w.heap.size, 3, none⟩) (by show x.xb ≠ w.heap.size; omega) (.int .u64 0)).far (p := ⟨w.heap.size, 4, none⟩) (by show x.xb ≠ w.heap.size; omega) (.bool false)).far (p := ⟨w.heap.size, 5, none⟩) (by show x.xb ≠ w.heap.size; omega) (.string ⟨#[]⟩)).far (p := ⟨w.heap.size, 6, none⟩) (by show x.xb ≠ w.heap.size; omega) (.string ⟨#[]⟩)).far (p := ⟨w.heap.size, 7, none⟩) (by show x.xb ≠ w.heap.size; omega) (.slice none 0 0)) rfl rfl rfl rfl⟩
        unfold St.raisedFr
        rw [HMu.out, HLim.out]
        rfl
  | false =>
    have HMu := hide hmu
    rw [hmu] at xm
    clear h hn hx hxb hmu hri x1
    go_enter Tryz.func64, Tryz.ntmps64
    go_wp2_with fail
    refine bodyPost_ret (results_cell_tmp_row rfl _ _ w.heap.size 31 (fcs none 0 0 fr0) _ rfl ?_ Tryz.underlying31 rfl (by kernel_rfl)) rfl ?_
    · have hb := Blk.new (w.setCell ⟨x.xb, 4, none⟩ (.bool false)) 31 (fcs none 0 0 fr0)
      rwa [World.size_setCell] at hb
    · have hm : Mod [x.xb] w (w.setCell ⟨x.xb, 4, none⟩ (.bool false)) := (Mod.refl [x.xb] w).setCell (p := ⟨x.xb, 4, none⟩) (.inl (by simp)) _
      have hb := HXb.out.set_ 4 (.bool false)
      refine ⟨?_, SBox.cellStep HB.out HN.out HX.out (x' := x.raisedSt) (hm.alloc _) (hb.alloc _) rfl rfl rfl rfl⟩
      unfold St.raisedFr
      rw [HMu.out]
      rfl
end Go.Proofs.YtjdfemfobcjecaaGreat

/-
  streams: control.
-/
namespace Go.Proofs.YtjdfemfobcjecaaGreat
open Go.RowKit Go.Sort
set_option linter.unusedVariables false
set_option linter.unusedSimpArgs false
/-- a step whose frame lies beside it: the frame's block may be turned -/
theorem SStep.beside {w w1 W : World} {sb : Nat} {s s' : Ss} {o : Obj} (h0 : SBox w sb s) (hst : SStep (w.alloc o) sb s s' w1) (m : Mod [w.heap.size] w1 W) : SStep w sb s s' W := by
  have hlt0 : ∀ k ∈ s.foot sb, k < w.heap.size := fun k hk => by
    rcases Ss.mem_foot.1 hk with rfl | rfl | ⟨y, hy, hky⟩
    · exact h0.blk.lt
    · exact h0.map.lt
    · exact h0.lt y hy k hky
  refine ⟨hst.1.mod m (fun k hk hm => ?_), ((((Mod.refl (s.foot sb) w).alloc o).trans hst.2.1 (fun k hk => .inl hk)).trans m (fun k hk => ?_)), fun k hk => ?_⟩
  · simp at hm
    rcases hst.2.2 k hk with h1 | h1
    · have := hlt0 k h1; omega
    · rw [World.size_alloc] at h1; omega
  · simp at hk; exact .inr (by omega)
  · rcases hst.2.2 k hk with h1 | h1
    · exact .inl h1
    · rw [World.size_alloc] at h1; exact .inr (by omega)
/-- a frame's block filled anew -/
theorem put8_blk {w : World} {g t : Nat} {cs : Array Value} (h : Blk w g t cs) (hs : cs.size = 8) (v0 v1 v2 v3 v4 v5 v6 v7 : Value) :
    Blk ((((((((w.setCell ⟨g, 0, none⟩ v0).setCell ⟨g, 1, none⟩ v1).setCell ⟨g, 2, none⟩ v2).setCell ⟨g, 3, none⟩ v3).setCell ⟨g, 4, none⟩ v4).setCell ⟨g, 5, none⟩ v5).setCell ⟨g, 6, none⟩ v6).setCell ⟨g, 7, none⟩ v7) g t #[v0, v1, v2, v3, v4, v5, v6, v7] := by
  have hb := h.sets (fun i => (#[v0, v1, v2, v3, v4, v5, v6, v7] : Array Value).getD i undef) (List.range 8)
  rw [sets_eq _ _ 8 hs rfl] at hb
  exact hb
theorem put8_mod {w0 w : World} {F : List Nat} {g : Nat} (h : Mod F w0 w) (hg : g ∈ F ∨ w0.heap.size ≤ g) (v0 v1 v2 v3 v4 v5 v6 v7 : Value) :
    Mod F w0 ((((((((w.setCell ⟨g, 0, none⟩ v0).setCell ⟨g, 1, none⟩ v1).setCell ⟨g, 2, none⟩ v2).setCell ⟨g, 3, none⟩ v3).setCell ⟨g, 4, none⟩ v4).setCell ⟨g, 5, none⟩ v5).setCell ⟨g, 6, none⟩ v6).setCell ⟨g, 7, none⟩ v7) :=
  (((((((h.setCell (p := ⟨g, 0, none⟩) hg v0).setCell (p := ⟨g, 1, none⟩) hg v1).setCell (p := ⟨g, 2, none⟩) hg v2).setCell (p := ⟨g, 3, none⟩) hg v3).setCell (p := ⟨g, 4, none⟩) hg v4).setCell (p := ⟨g, 5, none⟩) hg v5).setCell (p := ⟨g, 6, none⟩) hg v6).setCell (p := ⟨g, 7, none⟩) hg v7
theorem SBox.foot_lt {w : World} {sb : Nat} {s : Ss} (h : SBox w sb s) : ∀ k ∈ s.foot sb, k < w.heap.size := fun k hk => by
  rcases Ss.mem_foot.1 hk with rfl | rfl | ⟨y, hy, hky⟩
  · exact h.blk.lt
  · exact h.map.lt
  · exact h.lt y hy k hky
theorem put8_far {w : World} {b g t : Nat} {cs : Array Value} (h : Blk w b t cs) (hne : b ≠ g) (v0 v1 v2 v3 v4 v5 v6 v7 : Value) :
    Blk ((((((((w.setCell ⟨g, 0, none⟩ v0).setCell ⟨g, 1, none⟩ v1).setCell ⟨g, 2, none⟩ v2).setCell ⟨g, 3, none⟩ v3).setCell ⟨g, 4, none⟩ v4).setCell ⟨g, 5, none⟩ v5).setCell ⟨g, 6, none⟩ v6).setCell ⟨g, 7, none⟩ v7) b t cs :=
  (((((((h.far (p := ⟨g, 0, none⟩) hne v0).far (p := ⟨g, 1, none⟩) hne v1).far (p := ⟨g, 2, none⟩) hne v2).far (p := ⟨g, 3, none⟩) hne v3).far (p := ⟨g, 4, none⟩) hne v4).far (p := ⟨g, 5, none⟩) hne v5).far (p := ⟨g, 6, none⟩) hne v6).far (p := ⟨g, 7, none⟩) hne v7
/-- what control tells, and the stream then -/
def St.ctlFr (x : St) : Fr := if x.raise then fnum 17 x.id x.limit 0 else if x.stop.must then fnum 5 x.id x.stop.code 0 else x.goneFr
def St.ctlIs (x : St) : Bool := x.raise || x.stop.must || x.rst.must
def St.ctlSt (x : St) : St := if x.raise then x.raisedSt else if x.stop.must then x.raisedSt.stoppedSt else x.raisedSt.stoppedSt.goneSt
set_option maxRecDepth 100000 in
set_option maxHeartbeats 4000000 in
theorem stcontrol_any (w : World) (sb : Nat) (s : Ss) (h : SBox w sb s) (hn : (s.l.map St.id).Nodup) (x : St) (hx : x ∈ s.l) (hri : x.raise = true → x.inn.isSome = true) :
    Calls Tryz.prog 38 #[.pointer (some ⟨x.xb, 0, none⟩)] w fun e w' => e = .returned (.tuple #[fval none 0 0 x.ctlFr, .bool x.ctlIs]) ∧ SStep w sb s (s.put x.ctlSt) w' := by
  have HB := hide h
  have HR := hide (fun (W : World) (m : Mod [] w W) => straised_any W sb s (h.new m) hn x hx hri)
  have HS := hide (fun (W : World) (hb : SBox W sb (s.put x.raisedSt)) => show Calls Tryz.prog 65 #[.pointer (some ⟨x.xb, 0, none⟩)] W fun e w' => e = .returned (.tuple #[fval none 0 0 x.raisedSt.stoppedFr, .bool x.stop.must]) ∧ SStep W sb (s.put x.raisedSt) ((s.put x.raisedSt).put x.raisedSt.stoppedSt) w' from ststopped_any W sb (s.put x.raisedSt) hb (by rw [Ss.put_ids]; exact hn) x.raisedSt (Ss.put_mem hx rfl))
  have HG := hide (fun (W : World) (hb : SBox W sb ((s.put x.raisedSt).put x.raisedSt.stoppedSt)) => show Calls Tryz.prog 66 #[.pointer (some ⟨x.xb, 0, none⟩)] W fun e w' => e = .returned (.tuple #[fval none 0 0 x.goneFr, .bool x.rst.must]) ∧ SStep W sb ((s.put x.raisedSt).put x.raisedSt.stoppedSt) (((s.put x.raisedSt).put x.raisedSt.stoppedSt).put x.raisedSt.stoppedSt.goneSt) w' from stgone_any W sb ((s.put x.raisedSt).put x.raisedSt.stoppedSt) hb (by rw [Ss.put_ids, Ss.put_ids]; exact hn) x.raisedSt.stoppedSt (Ss.put_mem (Ss.put_mem hx rfl) rfl))
  have HP1 : Hid ((s.put x.raisedSt).put x.raisedSt.stoppedSt = s.put x.raisedSt.stoppedSt) := hide (Ss.put_put s x.raisedSt x.raisedSt.stoppedSt rfl)
  have HP2 : Hid (((s.put x.raisedSt).put x.raisedSt.stoppedSt).put x.raisedSt.stoppedSt.goneSt = s.put x.raisedSt.stoppedSt.goneSt) := hide (by rw [Ss.put_put s x.raisedSt x.raisedSt.stoppedSt rfl, Ss.put_put s x.raisedSt.stoppedSt x.raisedSt.stoppedSt.goneSt rfl])
  have HFt := hide h.foot_lt
  clear h hn hx hri
  go_enter Tryz.func38, Tryz.ntmps38
  go_wp2_with fail
  refine (HR.out _ ((Mod.refl [] w).alloc _)).mono ?_
  rintro e w1 ⟨rfl, hst⟩
  have hb2 : Blk w1 w.heap.size 31 (fcs none 0 0 fr0) := hst.2.1.blk (Blk.new w 31 (fcs none 0 0 fr0)) (fun hm => by have := HFt.out _ hm; omega)
  have HSt := hide hst
  have HB2 := hide hb2
  have hl2 := hb2.lt
  have f0 : w1.frozen? ⟨w.heap.size, 0, none⟩ = false := hb2.frozen 0
  have f1 : w1.frozen? ⟨w.heap.size, 1, none⟩ = false := hb2.frozen 1
  have f2 : w1.frozen? ⟨w.heap.size, 2, none⟩ = false := hb2.frozen 2
  have f3 : w1.frozen? ⟨w.heap.size, 3, none⟩ = false := hb2.frozen 3
  have f4 : w1.frozen? ⟨w.heap.size, 4, none⟩ = false := hb2.frozen 4
  have f5 : w1.frozen? ⟨w.heap.size, 5, none⟩ = false := hb2.frozen 5
  have f6 : w1.frozen? ⟨w.heap.size, 6, none⟩ = false := hb2.frozen 6
  have f7 : w1.frozen? ⟨w.heap.size, 7, none⟩ = false := hb2.frozen 7
  have c0 : w1.cell? ⟨w.heap.size, 0, none⟩ = some (.int .u64 0) := hb2.cell 0
  have c1 : w1.cell? ⟨w.heap.size, 1, none⟩ = some (.int .u64 0) := hb2.cell 1
  have c2 : w1.cell? ⟨w.heap.size, 2, none⟩ = some (.int .u64 0) := hb2.cell 2
  have c3 : w1.cell? ⟨w.heap.size, 3, none⟩ = some (.int .u64 0) := hb2.cell 3
  have c4 : w1.cell? ⟨w.heap.size, 4, none⟩ = some (.bool false) := hb2.cell 4
  have c5 : w1.cell? ⟨w.heap.size, 5, none⟩ = some (.string ⟨#[]⟩) := hb2.cell 5
  have c6 : w1.cell? ⟨w.heap.size, 6, none⟩ = some (.string ⟨#[]⟩) := hb2.cell 6
  have c7 : w1.cell? ⟨w.heap.size, 7, none⟩ = some (.slice none 0 0) := hb2.cell 7
  clear hst hb2
  cases hra : x.raise with
  | true =>
    have HRa := hide hra
    unfold fval fcs
    clear hra
    go_wp2_with fail
    refine bodyPost_ret (results_cell_tmp_row rfl _ _ w.heap.size 31 (fcs none 0 0 x.raisedFr) _ rfl ?_ Tryz.underlying31 rfl (by kernel_rfl)) rfl ?_
    · exact (put8_blk HB2.out rfl _ _ _ _ _ _ _ _).alloc _
    · refine ⟨?_, ?_⟩
      · unfold St.ctlFr St.ctlIs St.raisedFr; rw [HRa.out]; rfl
      · have e : x.ctlSt = x.raisedSt := by unfold St.ctlSt; rw [if_pos HRa.out]
        rw [e]
        exact SStep.beside HB.out HSt.out ((put8_mod (Mod.refl _ w1) (.inl (by simp)) _ _ _ _ _ _ _ _).alloc _)
  | false =>
    have HRa := hide hra
    unfold fval fcs
    clear hra
    clear f0 f1 f2 f3 f4 f5 f6 f7 c0 c1 c2 c3 c4 c5 c6 c7
    go_wp2_with fail
    refine (HS.out _ (HSt.out.1.new ((Mod.refl [] w1).alloc _))).mono ?_
    rintro e w2 ⟨rfl, hst2⟩
    have hs2 := HSt.out.trans ((SStep.refl HSt.out.1 ((Mod.refl [] w1).alloc _)).trans hst2)
    have hb3 : Blk w2 w.heap.size 31 (fcs none 0 0 fr0) := hs2.2.1.blk (Blk.new w 31 (fcs none 0 0 fr0)) (fun hm => by have := HFt.out _ hm; omega)
    have HSt2 := hide hs2
    have HB3 := hide hb3
    have hl3 := hb3.lt
    have f0 : w2.frozen? ⟨w.heap.size, 0, none⟩ = false := hb3.frozen 0
    have f1 : w2.frozen? ⟨w.heap.size, 1, none⟩ = false := hb3.frozen 1
    have f2 : w2.frozen? ⟨w.heap.size, 2, none⟩ = false := hb3.frozen 2
    have f3 : w2.frozen? ⟨w.heap.size, 3, none⟩ = false := hb3.frozen 3
    have f4 : w2.frozen? ⟨w.heap.size, 4, none⟩ = false := hb3.frozen 4
    have f5 : w2.frozen? ⟨w.heap.size, 5, none⟩ = false := hb3.frozen 5
    have f6 : w2.frozen? ⟨w.heap.size, 6, none⟩ = false := hb3.frozen 6
    have f7 : w2.frozen? ⟨w.heap.size, 7, none⟩ = false := hb3.frozen 7
    have c0 : w2.cell? ⟨w.heap.size, 0, none⟩ = some (.int .u64 0) := hb3.cell 0
    have c1 : w2.cell? ⟨w.heap.size, 1, none⟩ = some (.int .u64 0) := hb3.cell 1
    have c2 : w2.cell? ⟨w.heap.size, 2, none⟩ = some (.int .u64 0) := hb3.cell 2
    have c3 : w2.cell? ⟨w.heap.size, 3, none⟩ = some (.int .u64 0) := hb3.cell 3
    have c4 : w2.cell? ⟨w.heap.size, 4, none⟩ = some (.bool false) := hb3.cell 4
    have c5 : w2.cell? ⟨w.heap.size, 5, none⟩ = some (.string ⟨#[]⟩) := hb3.cell 5
    have c6 : w2.cell? ⟨w.heap.size, 6, none⟩ = some (.string ⟨#[]⟩) := hb3.cell 6
    have c7 : w2.cell? ⟨w.heap.size, 7, none⟩ = some (.slice none 0 0) := hb3.cell 7
    clear hst2 hb3 hs2
    cases hsm : x.stop.must with
    | true =>
      have HSm := hide hsm
      unfold fval fcs
      clear hsm
      go_wp2_with fail
      refine bodyPost_ret (results_cell_tmp_row rfl _ _ w.heap.size 31 (fcs none 0 0 x.raisedSt.stoppedFr) _ rfl ?_ Tryz.underlying31 rfl (by kernel_rfl)) rfl ?_
      · exact (put8_blk HB3.out rfl _ _ _ _ _ _ _ _).alloc _
      · refine ⟨?_, ?_⟩
        · unfold St.ctlFr St.ctlIs St.stoppedFr; rw [HRa.out, HSm.out, show x.raisedSt.stop = x.stop from rfl, HSm.out]; rfl
        · have e : x.ctlSt = x.raisedSt.stoppedSt := by unfold St.ctlSt; rw [HRa.out, HSm.out]; rfl
          rw [e, ← HP1.out]
          exact SStep.beside HB.out HSt2.out ((put8_mod (Mod.refl _ w2) (.inl (by simp)) _ _ _ _ _ _ _ _).alloc _)
    | false =>
      have HSm := hide hsm
      unfold fval fcs
      clear hsm
      clear f0 f1 f2 f3 f4 f5 f6 f7 c0 c1 c2 c3 c4 c5 c6 c7
      go_wp2_with fail
      refine (HG.out _ (HSt2.out.1.new ((Mod.refl [] w2).alloc _))).mono ?_
      rintro e w3 ⟨rfl, hst3⟩
      have hs3 := HSt2.out.trans ((SStep.refl HSt2.out.1 ((Mod.refl [] w2).alloc _)).trans hst3)
      have hb4 : Blk w3 w.heap.size 31 (fcs none 0 0 fr0) := hs3.2.1.blk (Blk.new w 31 (fcs none 0 0 fr0)) (fun hm => by have := HFt.out _ hm; omega)
      have HSt3 := hide hs3
      have HB4 := hide hb4
      have hl4 := hb4.lt
      have f0 : w3.frozen? ⟨w.heap.size, 0, none⟩ = false := hb4.frozen 0
      have f1 : w3.frozen? ⟨w.heap.size, 1, none⟩ = false := hb4.frozen 1
      have f2 : w3.frozen? ⟨w.heap.size, 2, none⟩ = false := hb4.frozen 2
      have f3 : w3.frozen? ⟨w.heap.size, 3, none⟩ = false := hb4.frozen 3
      have f4 : w3.frozen? ⟨w.heap.size, 4, none⟩ = false := hb4.frozen 4
      have f5 : w3.frozen? ⟨w.heap.size, 5, none⟩ = false := hb4.frozen 5
      have f6 : w3.frozen? ⟨w.heap.size, 6, none⟩ = false := hb4.frozen 6
      have f7 : w3.frozen? ⟨w.heap.size, 7, none⟩ = false := hb4.frozen 7
      have c0 : w3.cell? ⟨w.heap.size, 0, none⟩ = some (.int .u64 0) := hb4.cell 0
      have c1 : w3.cell? ⟨w.heap.size, 1, none⟩ = some (.int .u64 0) := hb4.cell 1
      have c2 : w3.cell? ⟨w.heap.size, 2, none⟩ = some (.int .u64 0) := hb4.cell 2
      have c3 : w3.cell? ⟨w.heap.size, 3, none⟩ = some (.int .u64 0) := hb4.cell 3
      have c4 : w3.cell? ⟨w.heap.size, 4, none⟩ = some (.bool false) := hb4.cell 4
      have c5 : w3.cell? ⟨w.heap.size, 5, none⟩ = some (.string ⟨#[]⟩) := hb4.cell 5
      have c6 : w3.cell? ⟨w.heap.size, 6, none⟩ = some (.string ⟨#[]⟩) := hb4.cell 6
      have c7 : w3.cell? ⟨w.heap.size, 7, none⟩ = some (.slice none 0 0) := hb4.cell 7
      clear hst3 hb4 hs3
      unfold fval fcs
      go_wp2_with fail
      refine bodyPost_ret (results_cell_tmp_row rfl _ _ w.heap.size 31 (fcs none 0 0 x.goneFr) _ rfl ?_ Tryz.underlying31 rfl (by kernel_rfl)) rfl ?_
      · exact put8_blk HB4.out rfl _ _ _ _ _ _ _ _
      · refine ⟨?_, ?_⟩
        · unfold St.ctlFr St.ctlIs; rw [HRa.out, HSm.out]; rfl
        · have e : x.ctlSt = x.raisedSt.stoppedSt.goneSt := by unfold St.ctlSt; rw [HRa.out, HSm.out]; rfl
          rw [e, ← HP2.out]
          exact SStep.beside HB.out HSt3.out (put8_mod (Mod.refl _ w3) (.inl (by simp)) _ _ _ _ _ _ _ _)
end Go.Proofs.YtjdfemfobcjecaaGreat

/-
  streams: the set's own cells turned.
-/
namespace Go.Proofs.YtjdfemfobcjecaaGreat
open Go.RowKit
set_option linter.unusedVariables false
set_option linter.unusedSimpArgs false
theorem SBox.rootStep {w w' : World} {sb : Nat} {s s' : Ss} (h : SBox w sb s) (hm : Mod [sb] w w') (hb : Blk w' sb 69 s'.cells) (hl : s'.l = s.l) (hmb : s'.mb = s.mb) : SStep w sb s s' w' := by
  have hlk : s'.look = s.look := by unfold Ss.look; rw [hl]
  have hft : s'.foot sb = s.foot sb := by unfold Ss.foot; rw [hl, hmb]
  refine ⟨⟨hb, ?_, fun x hx => ?_, fun x hx y hy => ?_, ?_, fun x hx k hk => ?_⟩, hm.mono (fun k hk => ?_), fun k hk => ?_⟩
  · rw [hlk, hmb]
    exact h.map.mod hm (by simp; exact fun e => h.sm.1 e.symm)
  · rw [hl] at hx
    exact (h.all x hx).mod hm (fun k hk hm2 => by simp at hm2; subst hm2; exact (h.sm.2 x hx).1 hk)
  · rw [hl] at hx hy; exact h.dis x hx y hy
  · rw [hl, hmb]; exact h.sm
  · rw [hl] at hx
    exact Nat.lt_of_lt_of_le (h.lt x hx k hk) hm.size
  · simp at hk; subst hk; exact .inl (by simp [Ss.foot])
  · exact .inl (hft ▸ hk)
end Go.Proofs.YtjdfemfobcjecaaGreat

/-
  streams: piece.
-/
namespace Go.Proofs.YtjdfemfobcjecaaGreat
open Go.RowKit Go.Sort
set_option linter.unusedVariables false
set_option linter.unusedSimpArgs false
theorem Ob.next_sent_le (o : Ob) (most : Int) : o.sent ≤ (o.next most).sent := by
  unfold Ob.next
  split
  · exact Nat.le_refl _
  · split
    · unfold Ob.takeEnd
      split
      · unfold Ob.take; simp only; omega
      · unfold Ob.take; simp only; omega
    · exact Nat.le_refl _
/-- how much may go -/
def Ss.much (s : Ss) (o : Ob) (most : Int) : Int := if o.again then most else ((min (max most 0).toNat (s.other.data - s.sent) : Nat) : Int)
/-- the frame of what an outbox tells -/
def Told.fr (t : Told) (id : Nat) : Fr := ⟨8, id, t.at_, 0, t.fin, ⟨t.s.toArray⟩, ⟨#[]⟩, []⟩
def Ss.pieced (s : Ss) (x : St) (b : Nat) (dv sv : Value) (o : Ob) (most : Int) : Ss := { s.put (x.withOut b dv sv (o.next (s.much o most))) with sent := s.sent + ((o.next (s.much o most)).sent - o.sent) }
/-- what piece does -/
inductive Ss.Pieces (s : Ss) (x : St) (most : Int) : Fr → Bool → Ss → Prop
  | none (h : x.out = none) : s.Pieces x most fr0 false s
  | goes (b : Nat) (dv sv dv' sv' : Value) (o : Ob) (ho : x.out = some (b, dv, sv, o)) : s.Pieces x most ((o.nextTold (s.much o most)).fr x.id) (o.nextTold (s.much o most)).is_ (s.pieced x b dv' sv' o most)
set_option maxRecDepth 100000 in
set_option maxHeartbeats 8000000 in
theorem stpiece_any (w : World) (sb : Nat) (s : Ss) (h : SBox w sb s) (hw : s.WF) (x : St) (hx : x ∈ s.l) (most : Int) (hm1 : -9223372036854775808 ≤ most) (hm2 : most ≤ 9223372036854775807) :
    Calls Tryz.prog 39 #[.pointer (some ⟨sb, 0, none⟩), .pointer (some ⟨x.xb, 0, none⟩), .int .i64 most] w fun e w' => ∃ f is s', e = .returned (.tuple #[fval none 0 0 f, .bool is]) ∧ s.Pieces x most f is s' ∧ SStep w sb s s' w' := by
  have HB := hide h
  have HX := hide hx
  have x2 : w.cell? ⟨x.xb, 2, none⟩ = some x.outV := (h.all x hx).blk.cell 2
  have hxl := (h.all x hx).blk.lt
  cases hxo : x.out with
  | none =>
    have x2' : w.cell? ⟨x.xb, 2, none⟩ = some (.pointer none) := by rw [x2]; unfold St.outV; rw [hxo]; rfl
    have HXo := hide hxo
    clear x2 h hx hxo
    go_enter Tryz.func39, Tryz.ntmps39
    go_wp2_with fail
    refine bodyPost_ret (results_cell_tmp_row rfl _ _ w.heap.size 31 (fcs none 0 0 fr0) _ rfl ?_ Tryz.underlying31 rfl (by kernel_rfl)) rfl ?_
    · exact Blk.new w 31 (fcs none 0 0 fr0)
    · exact ⟨fr0, false, s, rfl, .none HXo.out, SStep.refl HB.out ((Mod.refl [] w).alloc _)⟩
  | some p =>
    obtain ⟨b, dv, sv, o⟩ := p
    have x2' : w.cell? ⟨x.xb, 2, none⟩ = some (.pointer (some ⟨b, 0, none⟩)) := by rw [x2]; unfold St.outV; rw [hxo]; rfl
    have HXo := hide hxo
    have hsd := hw.sentl
    have hod : s.other.data ≤ 4611686018427387903 := hw.other.data
    have hM0 : Mod [] w (w.alloc (.cells (fcs none 0 0 fr0) 31)) := (Mod.refl [] w).alloc _
    have hob := (h.all x hx).out b dv sv o hxo
    have HAg := hide (fun W (m : Mod [] w W) => again_any W b o dv sv (hob.mod m (by simp)))
    have HSe := hide (fun W (m : Mod [] w W) => sent_any W b o dv sv (hob.mod m (by simp)))
    have HNx := hide (fun W (m : Mod [] w W) (q : Int) h1 h2 => next_any W b o dv sv (hob.mod m (by simp)) q h1 h2)
    have HM0 := hide hM0
    have HA := hide (Blk.new w 31 (fcs none 0 0 fr0))
    have HFt := hide h.foot_lt
    have HI := hide hw.ids
    clear x2 h hx hxo hM0 hob hw
    go_enter Tryz.func39, Tryz.ntmps39
    go_wp2_with fail
    refine (HAg.out _ HM0.out).mono ?_
    rintro e w1 ⟨rfl, n1, rfl⟩
    have HMx := hide (HM0.out.drewN n1)
    have HMa : Hid (Mod [] (w.alloc (.cells (fcs none 0 0 fr0) 31)) ((w.alloc (.cells (fcs none 0 0 fr0) 31)).drewN n1)) := hide ((Mod.refl [] _).drewN n1)
    obtain ⟨wx, hwx⟩ : ∃ wx, (w.alloc (.cells (fcs none 0 0 fr0) 31)).drewN n1 = wx := ⟨_, rfl⟩
    rw [hwx] at HMx HMa ⊢
    have hbx := HB.out.new HMx.out
    have v7 : wx.cell? ⟨sb, 7, none⟩ = some (.int .u64 (s.other.data : Int)) := hbx.blk.cell 7
    have v20 : wx.cell? ⟨sb, 20, none⟩ = some (.int .u64 (s.sent : Int)) := hbx.blk.cell 20
    have x2 : wx.cell? ⟨x.xb, 2, none⟩ = some (.pointer (some ⟨b, 0, none⟩)) := by rw [(hbx.all x HX.out).blk.cell]; unfold St.cells St.outV; rw [HXo.out]; rfl
    clear hwx hbx x2'
    cases hag : o.again with
    | true =>
      have HMu : Hid (s.much o most = most) := hide (by unfold Ss.much; rw [hag]; rfl)
      clear hag
      go_wp2_with fail
      refine (HSe.out wx HMx.out).mono ?_
      rintro e w2 ⟨rfl, n2, rfl⟩
      go_wp2_with fail
      refine (HNx.out _ (HMx.out.drewN n2) most hm1 hm2).mono ?_
      rintro e w3 ⟨rfl, ho⟩
      obtain ⟨dv', sv', hst⟩ := (HB.out.new (HMx.out.drewN n2)).outStep HI.out HX.out HXo.out ho
      have hx3 := hst.1.all _ (Ss.put_mem (x' := x.withOut b dv' sv' (o.next most)) HX.out rfl)
      have hob3 := hx3.out b dv' sv' _ rfl
      have hS3 : SStep (w.alloc (.cells (fcs none 0 0 fr0) 31)) sb s (s.put (x.withOut b dv' sv' (o.next most))) w3 := (SStep.refl (HB.out.new HM0.out) (HMa.out.drewN n2)).trans hst
      have hA3 : Blk w3 w.heap.size 31 (fcs none 0 0 fr0) := hS3.2.1.blk HA.out (fun hm => by have := HFt.out _ hm; omega)
      obtain ⟨o', ho'⟩ : ∃ o', o.next most = o' := ⟨_, rfl⟩
      obtain ⟨t, ht⟩ : ∃ t, o.nextTold most = t := ⟨_, rfl⟩
      have hle : o.sent ≤ o'.sent := by rw [← ho']; exact Ob.next_sent_le _ _
      rw [ho'] at hst hob3 hx3 hS3
      have hsz3 := hob3.wf.size
      have hsn3 := hob3.wf.sent
      have y2 : w3.cell? ⟨x.xb, 2, none⟩ = some (.pointer (some ⟨b, 0, none⟩)) := hx3.blk.cell 2
      have y0 : w3.cell? ⟨x.xb, 0, none⟩ = some (.int .u64 (x.id : Int)) := hx3.blk.cell 0
      have y20 : w3.cell? ⟨sb, 20, none⟩ = some (.int .u64 (s.sent : Int)) := hst.1.blk.cell 20
      have z20 : w3.frozen? ⟨sb, 20, none⟩ = false := hst.1.blk.frozen 20
      have f0 : w3.frozen? ⟨w.heap.size, 0, none⟩ = false := hA3.frozen 0
      have f1 : w3.frozen? ⟨w.heap.size, 1, none⟩ = false := hA3.frozen 1
      have f2 : w3.frozen? ⟨w.heap.size, 2, none⟩ = false := hA3.frozen 2
      have f3 : w3.frozen? ⟨w.heap.size, 3, none⟩ = false := hA3.frozen 3
      have f4 : w3.frozen? ⟨w.heap.size, 4, none⟩ = false := hA3.frozen 4
      have f5 : w3.frozen? ⟨w.heap.size, 5, none⟩ = false := hA3.frozen 5
      have f6 : w3.frozen? ⟨w.heap.size, 6, none⟩ = false := hA3.frozen 6
      have f7 : w3.frozen? ⟨w.heap.size, 7, none⟩ = false := hA3.frozen 7
      have d0 : w3.cell? ⟨w.heap.size, 0, none⟩ = some (.int .u64 0) := hA3.cell 0
      have d1 : w3.cell? ⟨w.heap.size, 1, none⟩ = some (.int .u64 0) := hA3.cell 1
      have d2 : w3.cell? ⟨w.heap.size, 2, none⟩ = some (.int .u64 0) := hA3.cell 2
      have d3 : w3.cell? ⟨w.heap.size, 3, none⟩ = some (.int .u64 0) := hA3.cell 3
      have d4 : w3.cell? ⟨w.heap.size, 4, none⟩ = some (.bool false) := hA3.cell 4
      have d5 : w3.cell? ⟨w.heap.size, 5, none⟩ = some (.string ⟨#[]⟩) := hA3.cell 5
      have d6 : w3.cell? ⟨w.heap.size, 6, none⟩ = some (.string ⟨#[]⟩) := hA3.cell 6
      have d7 : w3.cell? ⟨w.heap.size, 7, none⟩ = some (.slice none 0 0) := hA3.cell 7
      have hl3 := hA3.lt
      have hne1 : sb ≠ w.heap.size := by have := HFt.out sb (Ss.mem_foot.2 (.inl rfl)); omega
      have hne2 : x.xb ≠ w.heap.size := by omega
      have hsb3 := hst.1.blk.lt
      have hxb3 := hx3.blk.lt
      have HSe3 := hide (fun W (m : Mod [] w3 W) => sent_any W b o' dv' sv' (hob3.mod m (by simp)))
      obtain ⟨ds, hds⟩ : ∃ ds, o'.sent - o.sent = ds := ⟨_, rfl⟩
      obtain ⟨os', hos'⟩ : ∃ os', o'.sent = os' := ⟨_, rfl⟩
      obtain ⟨os, hos⟩ : ∃ os, o.sent = os := ⟨_, rfl⟩
      rw [hos'] at HSe3 hsn3 hle hds
      rw [hos] at hle hds ⊢
      have e1 : IntKind.u64.wrap ((os' : Int) - (os : Int)) = (ds : Int) := by rw [show (os' : Int) - (os : Int) = (ds : Int) by omega]; exact IntWalk.u64_in _ (by omega)
      have e2 : IntKind.u64.wrap ((s.sent : Int) + (ds : Int)) = ((s.sent + ds : Nat) : Int) := by rw [show (s.sent : Int) + (ds : Int) = ((s.sent + ds : Nat) : Int) by omega]; exact IntWalk.u64_in _ (by omega)
      have HSt := hide hst
      have HS3 := hide hS3
      have HA3 := hide hA3
      have HSb := hide hst.1.blk
      have HDs : Hid (s.pieced x b dv' sv' o most = { s.put (x.withOut b dv' sv' o') with sent := s.sent + ds }) := hide (by unfold Ss.pieced; rw [HMu.out, ho', hos', hos, hds])
      have HTd : Hid (o.nextTold (s.much o most) = t) := hide (by rw [HMu.out, ht])
      rw [ht]
      unfold Told.val str
      clear hst hS3 hA3 hob3 hx3 ho' ht hds hos' hos ho
      go_wp2_with fail
      go_region_with (go_at_call 68; refine (HSe3.out _ ?_).mono ?_; exact (Mod.refl [] w3).drew; rintro e w9 ⟨rfl, n9, rfl⟩)
      all_goals go_wp2_with fail
      all_goals
        have hsm : Mod [sb] w3 ((w3.drewN (1 + n9)).setCell ⟨sb, 20, none⟩ (.int .u64 ((s.sent + ds : Nat) : Int))) := ((Mod.refl [sb] w3).drewN (1 + n9)).setCell (p := ⟨sb, 20, none⟩) (.inl (by simp)) _
        have hr := HSt.out.1.rootStep (s' := { s.put (x.withOut b dv' sv' o') with sent := s.sent + ds }) hsm ((HSb.out : Blk (w3.drewN (1 + n9)) sb _ _).set_ 20 _) rfl rfl
        refine bodyPost_ret (results_cell_tmp_row rfl _ _ w.heap.size 31 (fcs none 0 0 (t.fr x.id)) _ rfl ?_ Tryz.underlying31 rfl (by kernel_rfl)) rfl ?_
        · exact put8_blk (hsm.blk HA3.out (by simp; exact fun e => hne1 e.symm)) rfl _ _ _ _ _ _ _ _
        · refine ⟨t.fr x.id, t.is_, { s.put (x.withOut b dv' sv' o') with sent := s.sent + ds }, rfl, ?_, ?_⟩
          · rw [← HDs.out, ← HTd.out]; exact .goes b dv sv dv' sv' o HXo.out
          · exact SStep.beside HB.out (HS3.out.trans hr) (put8_mod (Mod.refl _ _) (.inl (by simp)) _ _ _ _ _ _ _ _)
    | false =>
      obtain ⟨mo, hmo⟩ : ∃ mo : Nat, max most 0 = (mo : Int) := ⟨(max most 0).toNat, by omega⟩
      obtain ⟨df, hdf⟩ : ∃ df, s.other.data - s.sent = df := ⟨_, rfl⟩
      obtain ⟨mn, hmn⟩ : ∃ mn, min mo df = mn := ⟨_, rfl⟩
      have HMu : Hid (s.much o most = (mn : Int)) := hide (by unfold Ss.much; rw [hag, hmo, hdf, Int.toNat_natCast, hmn]; rfl)
      have q1 : IntKind.u64.wrap (mo : Int) = (mo : Int) := IntWalk.u64_in _ (by omega)
      have q2 : IntKind.u64.wrap ((s.other.data : Int) - (s.sent : Int)) = (df : Int) := by rw [show (s.other.data : Int) - (s.sent : Int) = (df : Int) by omega]; exact IntWalk.u64_in _ (by omega)
      have q3 : min (mo : Int) (df : Int) = (mn : Int) := by omega
      have q4 : IntKind.i64.wrap (mn : Int) = (mn : Int) := IntWalk.i64_in _ (by omega)
      have hmn1 : (-9223372036854775808 : Int) ≤ (mn : Int) := by omega
      have hmn2 : (mn : Int) ≤ 9223372036854775807 := by omega
      clear hag hdf hmn
      go_wp2_with fail
      go_quiet (fail)
      have HMx2 := hide (HMx.out.drewN nq)
      have HMa2 := hide (HMa.out.drewN nq)
      have x22 : (wx.drewN nq).cell? ⟨x.xb, 2, none⟩ = some (.pointer (some ⟨b, 0, none⟩)) := x2
      obtain ⟨wy, hwy⟩ : ∃ wy, wx.drewN nq = wy := ⟨_, rfl⟩
      rw [hwy] at HMx2 HMa2 x22 ⊢
      clear q1 q2 q3 q4 hmo v7 v20 x2 HMx HMa hwy
      go_wp2_with fail
      refine (HSe.out wy HMx2.out).mono ?_
      rintro e w2 ⟨rfl, n2, rfl⟩
      go_wp2_with fail
      refine (HNx.out _ (HMx2.out.drewN n2) mn hmn1 hmn2).mono ?_
      rintro e w3 ⟨rfl, ho⟩
      obtain ⟨dv', sv', hst⟩ := (HB.out.new (HMx2.out.drewN n2)).outStep HI.out HX.out HXo.out ho
      have hx3 := hst.1.all _ (Ss.put_mem (x' := x.withOut b dv' sv' (o.next mn)) HX.out rfl)
      have hob3 := hx3.out b dv' sv' _ rfl
      have hS3 : SStep (w.alloc (.cells (fcs none 0 0 fr0) 31)) sb s (s.put (x.withOut b dv' sv' (o.next mn))) w3 := (SStep.refl (HB.out.new HM0.out) (HMa2.out.drewN n2)).trans hst
      have hA3 : Blk w3 w.heap.size 31 (fcs none 0 0 fr0) := hS3.2.1.blk HA.out (fun hm => by have := HFt.out _ hm; omega)
      obtain ⟨o', ho'⟩ : ∃ o', o.next mn = o' := ⟨_, rfl⟩
      obtain ⟨t, ht⟩ : ∃ t, o.nextTold mn = t := ⟨_, rfl⟩
      have hle : o.sent ≤ o'.sent := by rw [← ho']; exact Ob.next_sent_le _ _
      rw [ho'] at hst hob3 hx3 hS3
      have hsz3 := hob3.wf.size
      have hsn3 := hob3.wf.sent
      have y2 : w3.cell? ⟨x.xb, 2, none⟩ = some (.pointer (some ⟨b, 0, none⟩)) := hx3.blk.cell 2
      have y0 : w3.cell? ⟨x.xb, 0, none⟩ = some (.int .u64 (x.id : Int)) := hx3.blk.cell 0
      have y20 : w3.cell? ⟨sb, 20, none⟩ = some (.int .u64 (s.sent : Int)) := hst.1.blk.cell 20
      have z20 : w3.frozen? ⟨sb, 20, none⟩ = false := hst.1.blk.frozen 20
      have f0 : w3.frozen? ⟨w.heap.size, 0, none⟩ = false := hA3.frozen 0
      have f1 : w3.frozen? ⟨w.heap.size, 1, none⟩ = false := hA3.frozen 1
      have f2 : w3.frozen? ⟨w.heap.size, 2, none⟩ = false := hA3.frozen 2
      have f3 : w3.frozen? ⟨w.heap.size, 3, none⟩ = false := hA3.frozen 3
      have f4 : w3.frozen? ⟨w.heap.size, 4, none⟩ = false := hA3.frozen 4
      have f5 : w3.frozen? ⟨w.heap.size, 5, none⟩ = false := hA3.frozen 5
      have f6 : w3.frozen? ⟨w.heap.size, 6, none⟩ = false := hA3.frozen 6
      have f7 : w3.frozen? ⟨w.heap.size, 7, none⟩ = false := hA3.frozen 7
      have d0 : w3.cell? ⟨w.heap.size, 0, none⟩ = some (.int .u64 0) := hA3.cell 0
      have d1 : w3.cell? ⟨w.heap.size, 1, none⟩ = some (.int .u64 0) := hA3.cell 1
      have d2 : w3.cell? ⟨w.heap.size, 2, none⟩ = some (.int .u64 0) := hA3.cell 2
      have d3 : w3.cell? ⟨w.heap.size, 3, none⟩ = some (.int .u64 0) := hA3.cell 3
      have d4 : w3.cell? ⟨w.heap.size, 4, none⟩ = some (.bool false) := hA3.cell 4
      have d5 : w3.cell? ⟨w.heap.size, 5, none⟩ = some (.string ⟨#[]⟩) := hA3.cell 5
      have d6 : w3.cell? ⟨w.heap.size, 6, none⟩ = some (.string ⟨#[]⟩) := hA3.cell 6
      have d7 : w3.cell? ⟨w.heap.size, 7, none⟩ = some (.slice none 0 0) := hA3.cell 7
      have hl3 := hA3.lt
      have hne1 : sb ≠ w.heap.size := by have := HFt.out sb (Ss.mem_foot.2 (.inl rfl)); omega
      have hne2 : x.xb ≠ w.heap.size := by omega
      have hsb3 := hst.1.blk.lt
      have hxb3 := hx3.blk.lt
      have HSe3 := hide (fun W (m : Mod [] w3 W) => sent_any W b o' dv' sv' (hob3.mod m (by simp)))
      obtain ⟨ds, hds⟩ : ∃ ds, o'.sent - o.sent = ds := ⟨_, rfl⟩
      obtain ⟨os', hos'⟩ : ∃ os', o'.sent = os' := ⟨_, rfl⟩
      obtain ⟨os, hos⟩ : ∃ os, o.sent = os := ⟨_, rfl⟩
      rw [hos'] at HSe3 hsn3 hle hds
      rw [hos] at hle hds ⊢
      have e1 : IntKind.u64.wrap ((os' : Int) - (os : Int)) = (ds : Int) := by rw [show (os' : Int) - (os : Int) = (ds : Int) by omega]; exact IntWalk.u64_in _ (by omega)
      have e2 : IntKind.u64.wrap ((s.sent : Int) + (ds : Int)) = ((s.sent + ds : Nat) : Int) := by rw [show (s.sent : Int) + (ds : Int) = ((s.sent + ds : Nat) : Int) by omega]; exact IntWalk.u64_in _ (by omega)
      have HSt := hide hst
      have HS3 := hide hS3
      have HA3 := hide hA3
      have HSb := hide hst.1.blk
      have HDs : Hid (s.pieced x b dv' sv' o most = { s.put (x.withOut b dv' sv' o') with sent := s.sent + ds }) := hide (by unfold Ss.pieced; rw [HMu.out, ho', hos', hos, hds])
      have HTd : Hid (o.nextTold (s.much o most) = t) := hide (by rw [HMu.out, ht])
      rw [ht]
      unfold Told.val str
      clear hst hS3 hA3 hob3 hx3 ho' ht hds hos' hos ho
      go_wp2_with fail
      go_region_with (go_at_call 68; refine (HSe3.out _ ?_).mono ?_; exact (Mod.refl [] w3).drew; rintro e w9 ⟨rfl, n9, rfl⟩)
      all_goals go_wp2_with fail
      all_goals
        have hsm : Mod [sb] w3 ((w3.drewN (1 + n9)).setCell ⟨sb, 20, none⟩ (.int .u64 ((s.sent + ds : Nat) : Int))) := ((Mod.refl [sb] w3).drewN (1 + n9)).setCell (p := ⟨sb, 20, none⟩) (.inl (by simp)) _
        have hr := HSt.out.1.rootStep (s' := { s.put (x.withOut b dv' sv' o') with sent := s.sent + ds }) hsm ((HSb.out : Blk (w3.drewN (1 + n9)) sb _ _).set_ 20 _) rfl rfl
        refine bodyPost_ret (results_cell_tmp_row rfl _ _ w.heap.size 31 (fcs none 0 0 (t.fr x.id)) _ rfl ?_ Tryz.underlying31 rfl (by kernel_rfl)) rfl ?_
        · exact put8_blk (hsm.blk HA3.out (by simp; exact fun e => hne1 e.symm)) rfl _ _ _ _ _ _ _ _
        · refine ⟨t.fr x.id, t.is_, { s.put (x.withOut b dv' sv' o') with sent := s.sent + ds }, rfl, ?_, ?_⟩
          · rw [← HDs.out, ← HTd.out]; exact .goes b dv sv dv' sv' o HXo.out
          · exact SStep.beside HB.out (HS3.out.trans hr) (put8_mod (Mod.refl _ _) (.inl (by simp)) _ _ _ _ _ _ _ _)
end Go.Proofs.YtjdfemfobcjecaaGreat

/-
  streams: beyond.
-/
namespace Go.Proofs.YtjdfemfobcjecaaGreat
open Go.RowKit Go.Sort
set_option linter.unusedVariables false
set_option linter.unusedSimpArgs false
theorem le_sum_of : ∀ {l : List Nat} {a : Nat}, a ∈ l → a ≤ l.sum
  | [], _, h => by cases h
  | b :: l, a, h => by
    rw [List.sum_cons]
    rcases List.mem_cons.1 h with rfl | h
    · omega
    · have := le_sum_of h; omega
theorem St.top_le {s : Ss} {x : St} (hx : x ∈ s.l) : x.top ≤ s.came := by
  unfold Ss.came
  exact le_sum_of (List.mem_map.2 ⟨x, hx, rfl⟩)
/-- would bytes up to an end be too many of all? -/
def Ss.beyondB (s : Ss) (x : St) (e : Nat) : Bool := decide (s.limit < (s.came - x.top + max e x.top) % 18446744073709551616)
set_option maxRecDepth 100000 in
set_option maxHeartbeats 4000000 in
theorem stbeyond_any (w : World) (sb : Nat) (s : Ss) (h : SBox w sb s) (hw : s.WF) (x : St) (hx : x ∈ s.l) (b m : Nat) (o : Ib) (hxi : x.inn = some (b, m, o)) (e : Nat) (he : e ≤ 18446744073709551615) :
    Calls Tryz.prog 55 #[.pointer (some ⟨sb, 0, none⟩), .pointer (some ⟨x.xb, 0, none⟩), .int .u64 (e : Int)] w fun r w' => r = .returned (.bool (s.beyondB x e)) ∧ Mod [] w w' := by
  have x1 : w.cell? ⟨x.xb, 1, none⟩ = some x.inV := (h.all x hx).blk.cell 1
  have x1' : w.cell? ⟨x.xb, 1, none⟩ = some (.pointer (some ⟨b, 0, none⟩)) := by rw [x1]; unfold St.inV; rw [hxi]; rfl
  have s5 : w.cell? ⟨sb, 18, none⟩ = some (.int .u64 (s.limit : Int)) := h.blk.cell 18
  have htop : o.top = x.top := by unfold St.top; rw [hxi]
  have htl : x.top ≤ s.came := St.top_le hx
  have hcl : s.came ≤ 4611686018427387903 := Nat.le_trans hw.came hw.lim
  have hll : s.limit ≤ 4611686018427387903 := hw.lim
  have cc : ∀ d os, Calls Tryz.prog 43 #[.pointer (some ⟨sb, 0, none⟩)] (grow (redrawn w d) os) fun e0 w'' => e0 = .returned (.int .u64 (s.came : Int)) ∧ ∃ p : Regrown, w'' = grow (redrawn w p.d) p.os := fun d os => Calls.regrown_of ((stcame_any _ sb s (h.new (Mod.of_below (F := []) (below_regrown w d os))) hw).mono fun _ _ hh => ⟨hh.1, hh.2.below (Nat.le_refl _) (by simp)⟩)
  have ct : ∀ d os, Calls Tryz.prog 73 #[.pointer (some ⟨b, 0, none⟩)] (grow (redrawn w d) os) fun e0 w'' => e0 = .returned (.int .u64 (x.top : Int)) ∧ ∃ p : Regrown, w'' = grow (redrawn w p.d) p.os := fun d os => Calls.regrown_of ((itop_any _ b m o ((h.new (Mod.of_below (F := []) (below_regrown w d os))).all x hx |>.inn b m o hxi)).mono fun _ _ hh => ⟨by rw [hh.1, htop], by obtain ⟨n, hn⟩ := hh.2; rw [hn]; exact ((Mod.refl [] _).drewN n).below (Nat.le_refl _) (by simp)⟩)
  have CC := hide cc
  have CT := hide ct
  have HBd : Hid (s.beyondB x e = decide (s.limit < (s.came - x.top + max e x.top) % 18446744073709551616)) := hide rfl
  obtain ⟨cm, hcm⟩ : ∃ cm, s.came = cm := ⟨_, rfl⟩
  obtain ⟨tp, htp⟩ : ∃ tp, x.top = tp := ⟨_, rfl⟩
  rw [hcm, htp] at HBd
  rw [hcm] at CC hcl htl
  rw [htp] at CT htl
  obtain ⟨mx, hmx⟩ : ∃ mx, max e tp = mx := ⟨_, rfl⟩
  obtain ⟨su, hsu⟩ : ∃ su, (cm - tp + mx) % 18446744073709551616 = su := ⟨_, rfl⟩
  rw [hmx, hsu] at HBd
  have m1 : max (e : Int) (tp : Int) = (mx : Int) := by omega
  have d1 : IntKind.u64.wrap ((cm : Int) - (tp : Int)) = ((cm - tp : Nat) : Int) := by
    rw [show (cm : Int) - (tp : Int) = ((cm - tp : Nat) : Int) by omega]; exact IntWalk.u64_in _ (by omega)
  have a1 : IntKind.u64.wrap (((cm - tp : Nat) : Int) + (mx : Int)) = (su : Int) := by
    simp only [IntKind.wrap, IntKind.bits, IntKind.signed]
    rw [← hsu]
    simp
  have y1 := cell_regrown x1'
  have y5 := cell_regrown s5
  clear x1 x1' s5 htop htl hcl cc ct hcm htp hmx hsu h hw hx hxi
  go_enter Tryz.func55, Tryz.ntmps55
  go_wp2_with fail
  refine wp_region_below (by kernel_rfl) (by kernel_rfl) (by kernel_rfl) ?_
  repeat (go_big_quiet_step (first | with_reducible exact CC.out _ _ | with_reducible exact CT.out _ _))
  refine wpQuiet_nil ?_
  intro _ hw'
  obtain ⟨⟨dq, osq⟩, hw''⟩ := hw'
  subst hw''
  go_wp2_with fail
  go_ret
  exact ⟨by rw [HBd.out]; exact congrArg (fun q => Ending.returned (.bool q)) (by apply decide_eq_decide.2; omega), Mod.of_below (F := []) (below_regrown w dq osq)⟩
end Go.Proofs.YtjdfemfobcjecaaGreat

/-
  outbox, plain: what holds of every outbox; what a step tells. No program.
-/
namespace Go.Proofs.YtjdfemfobcjecaaGreat

structure Ob.Good (o : Ob) : Prop where
  wf : o.WF
  lim : o.sent ≤ o.limit
  un : ∀ j x, j < o.data.length → o.st[j]? = some x → (x = 0 ↔ o.sent ≤ j)

theorem Ob.Good.fresh (l : Nat) : (Ob.fresh l).Good := ⟨Ob.WF.fresh l, by simp [Ob.fresh], by simp [Ob.fresh]⟩

theorem runOf_all {how : UInt8} : ∀ {L : List UInt8} {k : Nat}, k < runOf how L → L[k]? = some how
  | [], k, h => by simp [runOf] at h
  | x :: r, 0, h => by
    simp only [runOf] at h
    split at h
    · rename_i hx; simp [hx]
    · omega
  | x :: r, k + 1, h => by
    simp only [runOf] at h
    split at h
    · simpa using runOf_all (how := how) (L := r) (k := k) (by omega)
    · omega
theorem runAt_all {st : List UInt8} {a e k : Nat} {how : UInt8} (h : k < runAt st a e how) : st[a + k]? = some how := by
  have := runOf_all h
  rw [List.getElem?_drop, List.getElem?_take] at this
  split at this
  · exact this
  · cases this

/-- what goes is lost, or stands at what was sent -/
theorem Ob.Good.first {o : Ob} (h : o.Good) : (o.first.1 + o.first.2 ≤ o.sent) ∨ (o.first.1 = o.sent ∧ o.sent + o.first.2 ≤ o.limit ∧ o.sent + o.first.2 ≤ o.data.length) := by
  unfold Ob.first
  split
  · rename_i h0
    left
    obtain ⟨i, hi⟩ := Int.eq_ofNat_of_zero_le h0
    obtain ⟨h1, h2⟩ := lostAt_lt hi
    rw [hi]
    simp only [Int.toNat_natCast]
    have hr := runAt_le o.st i o.data.length 2
    rcases Nat.eq_zero_or_pos (runAt o.st i o.data.length 2) with hz | hz
    · rw [hz]
      have := h.un i 2 h1 h2
      simp at this
      omega
    · have h3 := runAt_all (st := o.st) (a := i) (e := o.data.length) (how := 2) (k := runAt o.st i o.data.length 2 - 1) (by omega)
      have := h.un (i + (runAt o.st i o.data.length 2 - 1)) 2 (by omega) h3
      simp at this
      omega
  · right
    have := h.lim
    have := h.wf.sent
    unfold Ob.room
    refine ⟨rfl, ?_, ?_⟩ <;> simp only <;> omega

theorem Ob.Good.take {o : Ob} (h : o.Good) {i n : Nat} (hin : i + n ≤ o.data.length) (hf : i + n ≤ o.sent ∨ (i = o.sent ∧ i + n ≤ o.limit)) : (o.take i n).Good := by
  refine ⟨h.wf.take hin, ?_, ?_⟩
  · simp only [Ob.take]
    have := h.lim
    omega
  · intro j x hj hx
    simp only [Ob.take] at hj hx ⊢
    rw [mapAt_get] at hx
    cases hs : o.st[j]? with
    | none => rw [hs] at hx; cases hx
    | some y =>
      have hu := h.un j y hj hs
      rw [hs] at hx
      simp only [Option.map_some, Option.some.injEq] at hx
      split at hx
      · subst hx
        simp
        omega
      · subst hx
        rw [hu]
        omega

theorem Ob.Good.setEnd {o : Ob} (h : o.Good) (c : UInt8) (hc : c < 4) : ({ o with st := o.st.set o.data.length c } : Ob).Good := by
  refine ⟨⟨h.wf.lim, h.wf.size, by simpa using h.wf.stl, h.wf.sent, ?_⟩, h.lim, ?_⟩
  · intro x hx
    rcases List.mem_or_eq_of_mem_set hx with h1 | h1
    · exact h.wf.low x h1
    · rw [h1]; exact hc
  · intro j x hj hx
    simp only at hj hx ⊢
    rw [List.getElem?_set_ne (by omega)] at hx
    exact h.un j x hj hx

theorem Ob.Good.takeEnd {o : Ob} (h : o.Good) {i n : Nat} (hin : i + n ≤ o.data.length) (hf : i + n ≤ o.sent ∨ (i = o.sent ∧ i + n ≤ o.limit)) : (o.takeEnd i n).Good := by
  unfold Ob.takeEnd
  split
  · exact (h.take hin hf).setEnd 1 (by decide)
  · exact h.take hin hf
theorem Ob.takeEnd_sent (o : Ob) (i n : Nat) : (o.takeEnd i n).sent = max o.sent (i + n) := by unfold Ob.takeEnd Ob.take; split <;> rfl
theorem Ob.takeEnd_data (o : Ob) (i n : Nat) : (o.takeEnd i n).data = o.data := by unfold Ob.takeEnd Ob.take; split <;> rfl
theorem Ob.takeEnd_limit (o : Ob) (i n : Nat) : (o.takeEnd i n).limit = o.limit := by unfold Ob.takeEnd Ob.take; split <;> rfl
theorem Ob.takeEnd_ended (o : Ob) (i n : Nat) : (o.takeEnd i n).ended = o.ended := by unfold Ob.takeEnd Ob.take; split <;> rfl
theorem Ob.takeEnd_reset (o : Ob) (i n : Nat) : (o.takeEnd i n).reset = o.reset := by unfold Ob.takeEnd Ob.take; split <;> rfl

theorem Ob.Good.at_ {o : Ob} (h : o.Good) (most : Int) : o.first.1 + o.much most ≤ o.data.length ∧ (o.first.1 + o.much most ≤ o.sent ∨ (o.first.1 = o.sent ∧ o.first.1 + o.much most ≤ o.limit)) := by
  have h1 := h.wf.first
  have h2 := o.much_le most
  rcases h.first with h3 | ⟨h3, h4, h5⟩
  · exact ⟨by omega, .inl (by omega)⟩
  · exact ⟨by omega, .inr ⟨h3, by omega⟩⟩

theorem Ob.Good.next {o : Ob} (h : o.Good) (most : Int) : (o.next most).Good := by
  unfold Ob.next
  split
  · exact h
  · split
    · exact h.takeEnd (h.at_ most).1 (h.at_ most).2
    · exact h

theorem mapAt_un {f : UInt8 → UInt8} (hf : ∀ c, f c = 0 ↔ c = 0) {st : List UInt8} {i n j : Nat} {x : UInt8} (hx : (mapAt f st i n)[j]? = some x) : ∃ y, st[j]? = some y ∧ (x = 0 ↔ y = 0) := by
  rw [mapAt_get] at hx
  cases hs : st[j]? with
  | none => rw [hs] at hx; cases hx
  | some y =>
    rw [hs] at hx
    simp only [Option.map_some, Option.some.injEq] at hx
    refine ⟨y, rfl, ?_⟩
    rw [← hx]
    split
    · exact hf y
    · exact Iff.rfl
theorem ack_zero (c : UInt8) : ackOf c = 0 ↔ c = 0 := by
  unfold ackOf
  split
  · rename_i h
    constructor
    · intro h2; exact absurd h2 (by decide)
    · rintro rfl; revert h; decide
  · exact Iff.rfl
theorem lose_zero (c : UInt8) : loseOf c = 0 ↔ c = 0 := by
  unfold loseOf
  split
  · rename_i h
    constructor
    · intro h2; exact absurd h2 (by decide)
    · rintro rfl; revert h; decide
  · exact Iff.rfl
theorem Ob.Good.each {o : Ob} (h : o.Good) {f : UInt8 → UInt8} (hf : ∀ c, c < 4 → f c < 4) (h0 : ∀ c, f c = 0 ↔ c = 0) (a n : Nat) (fin : Bool) : (o.each f a n fin).Good := by
  refine ⟨h.wf.each hf a n fin, h.lim, ?_⟩
  intro j x hj hx
  simp only [Ob.each] at hj hx ⊢
  split at hx
  · obtain ⟨y, hy, e1⟩ := mapAt_un h0 hx
    obtain ⟨z, hz, e2⟩ := mapAt_un h0 hy
    rw [e1, e2]
    exact h.un j z hj hz
  · obtain ⟨y, hy, e1⟩ := mapAt_un h0 hx
    rw [e1]
    exact h.un j y hj hy
theorem Ob.Good.write {o : Ob} (h : o.Good) (d : List UInt8) (fin : Bool) : (o.write d fin).Good := by
  have hw := h.wf.write d fin
  unfold Ob.write at hw ⊢
  split
  · rename_i h0
    rw [if_pos h0] at hw
    obtain ⟨he, hr, hl⟩ := Ob.writeErr_zero h0
    refine ⟨hw, h.lim, ?_⟩
    intro j x hj hx
    simp only at hj hx ⊢
    have hst := h.wf.stl
    rw [he] at hst
    simp only [Bool.toNat_false, Nat.add_zero] at hst
    simp only [List.length_append] at hj
    have hse := h.wf.sent
    rw [List.append_assoc] at hx
    by_cases h1 : j < o.data.length
    · rw [List.getElem?_append_left (by omega)] at hx
      exact h.un j x h1 hx
    · rw [List.getElem?_append_right (by omega)] at hx
      have : x = 0 := by
        rw [List.getElem?_append_left (by simp; omega), List.getElem?_replicate] at hx
        split at hx
        · cases hx; rfl
        · cases hx
      rw [this]
      simp
      omega
  · exact h
theorem Ob.Good.raise {o : Ob} (h : o.Good) (l : Nat) : (o.raise l).Good := ⟨h.wf.raise l, by have := h.lim; simp only [Ob.raise]; omega, h.un⟩
theorem Ob.Good.resetNow {o : Ob} (h : o.Good) : o.resetNow.Good := by
  have hw := h.wf.resetNow
  unfold Ob.resetNow at hw ⊢
  split
  · exact h
  · rename_i h1
    rw [if_neg h1] at hw
    exact ⟨hw, h.lim, h.un⟩

/-- what Next tells -/
theorem Ob.Good.told {o : Ob} (h : o.Good) (most : Int) :
    let t := o.nextTold most
    let p := o.next most
    (t = ⟨0, [], false, false⟩ ∧ p = o) ∨
    (o.reset = false ∧ t.is_ = true ∧ t.at_ = o.first.1 ∧ t.s.length = o.much most ∧ t.s = (o.data.drop t.at_).take t.s.length ∧ t.at_ + t.s.length ≤ o.data.length ∧ (t.at_ + t.s.length ≤ o.sent ∨ (t.at_ = o.sent ∧ t.at_ + t.s.length ≤ o.limit)) ∧
      p = o.takeEnd t.at_ t.s.length ∧ t.fin = o.takeFin t.at_ t.s.length ∧ o.goes t.s.length = true) := by
  simp only
  unfold Ob.nextTold Ob.next
  cases hr : o.reset
  · simp only [Bool.false_eq_true, if_false]
    cases hg : o.goes (o.much most)
    · left; simp
    · right
      obtain ⟨h1, h2⟩ := h.at_ most
      have hl : ((o.data.drop o.first.1).take (o.much most)).length = o.much most := by simp; omega
      simp only [if_true, hl]
      exact ⟨trivial, trivial, trivial, trivial, trivial, h1, h2, trivial, trivial, hg⟩
  · left; simp
end Go.Proofs.YtjdfemfobcjecaaGreat
