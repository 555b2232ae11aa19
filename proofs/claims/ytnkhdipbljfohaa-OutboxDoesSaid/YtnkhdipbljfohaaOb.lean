/-
  outbox, plain: what an outbox holds, and what its functions make of it. No program.
-/
import Derived.Test.YtnkhdipbljfohaaMem
import Derived.Lib.Bytealg
import Derived.Lib.IndexLaws
namespace Go.Proofs.Ytnkhdipbljfohaa
open Go.RowKit

def cv (c : UInt8) : Value := .int .u8 (c.toNat : Int)

structure Ob where
  limit : Nat
  data : List UInt8
  st : List UInt8
  sent : Nat
  ended : Bool
  reset : Bool

def Ob.fresh (limit : Nat) : Ob := ⟨min limit 4611686018427387903, [], [], 0, false, false⟩

structure Ob.WF (o : Ob) : Prop where
  lim : o.limit ≤ 4611686018427387903
  size : o.data.length ≤ 65536
  stl : o.st.length = o.data.length + o.ended.toNat
  sent : o.sent ≤ o.data.length
  low : ∀ c ∈ o.st, c < 4

/-- how many of a list stand so, from its head -/
def runOf (how : UInt8) : List UInt8 → Nat
  | [] => 0
  | x :: r => if x = how then runOf how r + 1 else 0
def runAt (st : List UInt8) (at_ end_ : Nat) (how : UInt8) : Nat := runOf how ((st.take end_).drop at_)

theorem runOf_le (how : UInt8) (l : List UInt8) : runOf how l ≤ l.length := by
  induction l with
  | nil => simp [runOf]
  | cons x r ih => simp only [runOf]; split <;> simp <;> omega
theorem runAt_le (st : List UInt8) (a e : Nat) (how : UInt8) : runAt st a e how ≤ e - a := by
  have := runOf_le how ((st.take e).drop a)
  simp only [List.length_drop, List.length_take] at this
  unfold runAt; omega
theorem runOf_yes {how : UInt8} : ∀ {L : List UInt8} {k : Nat}, k ≤ runOf how L → L[k]? = some how → k + 1 ≤ runOf how L
  | [], k, _, h => by simp at h
  | x :: r, 0, _, h => by simp at h; simp [runOf, h]
  | x :: r, k + 1, hk, h => by
    simp only [runOf] at hk ⊢
    split
    · rename_i hx
      rw [if_pos hx] at hk
      have := runOf_yes (how := how) (L := r) (k := k) (by omega) (by simpa using h)
      omega
    · rename_i hx
      rw [if_neg hx] at hk; omega
theorem runOf_no {how : UInt8} : ∀ {L : List UInt8} {k : Nat}, k ≤ runOf how L → L[k]? ≠ some how → runOf how L = k
  | [], k, hk, _ => by simp [runOf] at hk ⊢; omega
  | x :: r, 0, _, h => by simp at h; simp [runOf, h]
  | x :: r, k + 1, hk, h => by
    simp only [runOf] at hk ⊢
    split
    · rename_i hx
      rw [if_pos hx] at hk
      have := runOf_no (how := how) (L := r) (k := k) (by omega) (by simpa using h)
      omega
    · rename_i hx
      rw [if_neg hx] at hk; omega

/-- f, at the places from i on, n of them -/
def mapAt (f : UInt8 → UInt8) (st : List UInt8) (i n : Nat) : List UInt8 := st.mapIdx fun j x => if i ≤ j ∧ j < i + n then f x else x
theorem mapAt_length (f : UInt8 → UInt8) (st : List UInt8) (i n : Nat) : (mapAt f st i n).length = st.length := by simp [mapAt]
theorem mapAt_get (f : UInt8 → UInt8) (st : List UInt8) (i n j : Nat) : (mapAt f st i n)[j]? = st[j]?.map fun x => if i ≤ j ∧ j < i + n then f x else x := by
  simp [mapAt, List.getElem?_mapIdx]
theorem mapAt_zero (f : UInt8 → UInt8) (st : List UInt8) (i : Nat) : mapAt f st i 0 = st := by
  apply List.ext_getElem?
  intro j
  rw [mapAt_get]
  cases st[j]? with
  | none => rfl
  | some x => simp; intro h1 h2; omega
theorem mapAt_next (f : UInt8 → UInt8) (st : List UInt8) (i k : Nat) : (mapAt f st i k)[i + k]? = st[i + k]? := by
  rw [mapAt_get]
  cases st[i + k]? with
  | none => rfl
  | some x => simp
theorem mapAt_succ (f : UInt8 → UInt8) (st : List UInt8) (i k : Nat) {x : UInt8} (hx : st[i + k]? = some x) : mapAt f st i (k + 1) = (mapAt f st i k).set (i + k) (f x) := by
  have hl : i + k < st.length := (List.getElem?_eq_some_iff.1 hx).1
  apply List.ext_getElem?
  intro j
  rw [mapAt_get, List.getElem?_set, mapAt_length, mapAt_get]
  by_cases hj : i + k = j
  · subst hj
    rw [if_pos rfl, if_pos hl, hx]
    simp
  · rw [if_neg hj]
    congr 1
    funext y
    by_cases h1 : i ≤ j ∧ j < i + k
    · rw [if_pos h1, if_pos (by omega)]
    · rw [if_neg h1, if_neg (by omega)]

def Ob.room (o : Ob) : Nat := min o.limit o.data.length
def Ob.lostAt (o : Ob) : Int := Lib.indexByte (o.st.take o.data.length) 2
def Ob.first (o : Ob) : Nat × Nat :=
  if 0 ≤ o.lostAt then (o.lostAt.toNat, runAt o.st o.lostAt.toNat o.data.length 2) else (o.sent, o.room - o.sent)
def Ob.waits (o : Ob) : Bool := o.ended && (o.st[o.data.length]? == some 0 || o.st[o.data.length]? == some 2)

/-- What Next does, the place and how many once known. -/
def Ob.take (o : Ob) (i n : Nat) : Ob := { o with st := mapAt (fun _ => 1) o.st i n, sent := max o.sent (i + n) }
def Ob.takeFin (o : Ob) (i n : Nat) : Bool := (i + n == o.data.length) && (o.take i n).waits
def Ob.takeEnd (o : Ob) (i n : Nat) : Ob := if o.takeFin i n then { o.take i n with st := (o.take i n).st.set o.data.length 1 } else o.take i n
def Ob.goes (o : Ob) (n : Nat) : Bool := !(decide (0 < o.first.2) && n == 0 || o.first.2 == 0 && (!o.waits || decide (o.sent < o.data.length)))
def Ob.much (o : Ob) (most : Int) : Nat := min o.first.2 (max most 0).toNat

structure Told where
  at_ : Nat
  s : List UInt8
  fin : Bool
  is_ : Bool

def Ob.nextTold (o : Ob) (most : Int) : Told :=
  if o.reset then ⟨0, [], false, false⟩ else if o.goes (o.much most) then ⟨o.first.1, (o.data.drop o.first.1).take (o.much most), o.takeFin o.first.1 (o.much most), true⟩ else ⟨0, [], false, false⟩
def Ob.next (o : Ob) (most : Int) : Ob :=
  if o.reset then o else if o.goes (o.much most) then o.takeEnd o.first.1 (o.much most) else o

def ackOf (c : UInt8) : UInt8 := if c = 1 ∨ c = 2 then 3 else c
def loseOf (c : UInt8) : UInt8 := if c = 1 then 2 else c
/-- Acked, Lost: the piece's places, and the end. -/
def Ob.each (o : Ob) (f : UInt8 → UInt8) (at_ n : Nat) (fin : Bool) : Ob :=
  { o with st := let s1 := mapAt f o.st (min at_ o.data.length) (min n (o.data.length - min at_ o.data.length)); if fin && o.ended then mapAt f s1 o.data.length 1 else s1 }
def Ob.done (o : Ob) : Bool := o.ended && (Lib.countByte o.st 3 == o.st.length)
def Ob.blocked (o : Ob) : Bool := !o.reset && (decide (o.sent < o.data.length) && decide (o.room ≤ o.sent))
def Ob.again (o : Ob) : Bool := !o.reset && decide (0 ≤ o.lostAt)
def Ob.writeErr (o : Ob) (d : List UInt8) : Int := if o.ended || o.reset then 22 else if 65536 < o.data.length + d.length then 4 else 0
def Ob.write (o : Ob) (d : List UInt8) (fin : Bool) : Ob :=
  if o.writeErr d = 0 then { o with data := o.data ++ d, st := o.st ++ List.replicate d.length 0 ++ (if fin then [0] else []), ended := fin } else o
def Ob.raise (o : Ob) (limit : Nat) : Ob := { o with limit := max o.limit (min limit 4611686018427387903) }
def Ob.resetErr (o : Ob) : Int := if o.reset || o.done then 22 else 0
def Ob.resetNow (o : Ob) : Ob := if o.reset || o.done then o else { o with reset := true }
def Ob.resetAt (o : Ob) : Nat := if o.reset || o.done then 0 else o.sent

/-! ### the bounds stay -/
theorem Ob.WF.fresh (l : Nat) : (Ob.fresh l).WF := ⟨by simp only [Ob.fresh]; omega, by simp [Ob.fresh], by simp [Ob.fresh], by simp [Ob.fresh], by simp [Ob.fresh]⟩

theorem lostAt_lt {o : Ob} {i : Nat} (h : o.lostAt = i) : i < o.data.length ∧ o.st[i]? = some 2 := by
  have h1 := (Lib.indexByte_some h).1
  rw [List.getElem?_take] at h1
  split at h1
  · exact ⟨by assumption, h1⟩
  · cases h1

theorem Ob.WF.first {o : Ob} (h : o.WF) : o.first.1 + o.first.2 ≤ o.data.length := by
  unfold Ob.first
  split
  · rename_i h0
    obtain ⟨i, hi⟩ := Int.eq_ofNat_of_zero_le h0
    have := lostAt_lt hi
    have h2 := runAt_le o.st o.lostAt.toNat o.data.length 2
    rw [hi] at h2 ⊢
    simp only [Int.toNat_natCast] at h2 ⊢
    omega
  · have := h.sent
    unfold Ob.room
    omega

theorem mapAt_low {f : UInt8 → UInt8} (hf : ∀ c, c < 4 → f c < 4) {st : List UInt8} (h : ∀ c ∈ st, c < 4) (i n : Nat) : ∀ c ∈ mapAt f st i n, c < 4 := by
  intro c hc
  obtain ⟨j, hj⟩ := List.mem_iff_getElem?.1 hc
  rw [mapAt_get] at hj
  cases hx : st[j]? with
  | none => rw [hx] at hj; cases hj
  | some x =>
    have hm := h x (List.mem_iff_getElem?.2 ⟨j, hx⟩)
    rw [hx] at hj
    simp only [Option.map_some, Option.some.injEq] at hj
    rw [← hj]
    split
    · exact hf _ hm
    · exact hm

theorem Ob.WF.take {o : Ob} (h : o.WF) {i n : Nat} (hi : i + n ≤ o.data.length) : (o.take i n).WF := by
  refine ⟨h.lim, h.size, ?_, ?_, ?_⟩
  · simp only [Ob.take, mapAt_length]; exact h.stl
  · simp only [Ob.take]; have := h.sent; omega
  · exact mapAt_low (fun _ _ => by decide) h.low _ _
theorem Ob.WF.takeEnd {o : Ob} (h : o.WF) {i n : Nat} (hi : i + n ≤ o.data.length) : (o.takeEnd i n).WF := by
  have h1 := h.take hi
  unfold Ob.takeEnd
  split
  · refine ⟨h1.lim, h1.size, ?_, h1.sent, ?_⟩
    · simp only [List.length_set]; exact h1.stl
    · intro c hc
      rcases List.mem_or_eq_of_mem_set hc with h2 | h2
      · exact h1.low c h2
      · rw [h2]; decide
  · exact h1
theorem Ob.much_le (o : Ob) (most : Int) : o.much most ≤ o.first.2 := by unfold Ob.much; omega
theorem Ob.WF.next {o : Ob} (h : o.WF) (most : Int) : (o.next most).WF := by
  unfold Ob.next
  split
  · exact h
  · split
    · exact h.takeEnd (by have := h.first; have := o.much_le most; omega)
    · exact h
theorem Ob.WF.each {o : Ob} (h : o.WF) {f : UInt8 → UInt8} (hf : ∀ c, c < 4 → f c < 4) (a n : Nat) (fin : Bool) : (o.each f a n fin).WF := by
  refine ⟨h.lim, h.size, ?_, h.sent, ?_⟩
  · simp only [Ob.each]; split <;> simp only [mapAt_length] <;> exact h.stl
  · simp only [Ob.each]
    split
    · exact mapAt_low hf (mapAt_low hf h.low _ _) _ _
    · exact mapAt_low hf h.low _ _
theorem ack_low : ∀ c : UInt8, c < 4 → ackOf c < 4 := by intro c h; unfold ackOf; split; decide; exact h
theorem lose_low : ∀ c : UInt8, c < 4 → loseOf c < 4 := by intro c h; unfold loseOf; split; decide; exact h
theorem Ob.writeErr_zero {o : Ob} {d : List UInt8} (h : o.writeErr d = 0) : o.ended = false ∧ o.reset = false ∧ o.data.length + d.length ≤ 65536 := by
  unfold Ob.writeErr at h
  cases he : o.ended <;> cases hr : o.reset <;> simp [he, hr] at h ⊢
  exact h
theorem Ob.WF.write {o : Ob} (h : o.WF) (d : List UInt8) (fin : Bool) : (o.write d fin).WF := by
  unfold Ob.write
  split
  · rename_i h0
    obtain ⟨he, hr, hl⟩ := Ob.writeErr_zero h0
    have hs := h.stl
    rw [he] at hs
    refine ⟨h.lim, by simp only [List.length_append]; omega, ?_, ?_, ?_⟩
    · cases fin <;> simp at hs ⊢ <;> omega
    · simp only [List.length_append]; have := h.sent; omega
    · intro c hc
      simp only [List.mem_append] at hc
      rcases hc with (hc | hc) | hc
      · exact h.low c hc
      · rw [List.eq_of_mem_replicate hc]; decide
      · cases fin <;> simp at hc
        rw [hc]; decide
  · exact h
theorem Ob.WF.raise {o : Ob} (h : o.WF) (l : Nat) : (o.raise l).WF := ⟨by have := h.lim; simp only [Ob.raise]; omega, h.size, h.stl, h.sent, h.low⟩
theorem Ob.WF.resetNow {o : Ob} (h : o.WF) : o.resetNow.WF := by
  unfold Ob.resetNow
  split
  · exact h
  · exact ⟨h.lim, h.size, h.stl, h.sent, h.low⟩
end Go.Proofs.Ytnkhdipbljfohaa
