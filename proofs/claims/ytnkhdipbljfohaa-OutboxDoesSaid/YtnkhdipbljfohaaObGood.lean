/-
  outbox, plain: what holds of every outbox; what a step tells. No program.
-/
import Derived.Test.YtnkhdipbljfohaaOb
namespace Go.Proofs.Ytnkhdipbljfohaa

structure Ob.Good (o : Ob) : Prop where
  wf : o.WF
  lim : o.sent ≤ o.limit
  un : ∀ j x, j < o.data.length → o.st[j]? = some x → (x = 0 ↔ o.sent ≤ j)

theorem Ob.Good.fresh (l : Nat) : (Ob.fresh l).Good := ⟨Ob.WF.fresh l, by simp [Ob.fresh], by simp [Ob.fresh]⟩

theorem runOf_all {how : UInt8} : ∀ {L : List UInt8} {k : Nat}, k < runOf how L → L[k]? = some how
  | [], k, h => by simp [runOf] at h
  | x :: r, 0, h => by
    simp only [runOf] at h
    split at h
    · rename_i hx; simp [hx]
    · omega
  | x :: r, k + 1, h => by
    simp only [runOf] at h
    split at h
    · simpa using runOf_all (how := how) (L := r) (k := k) (by omega)
    · omega
theorem runAt_all {st : List UInt8} {a e k : Nat} {how : UInt8} (h : k < runAt st a e how) : st[a + k]? = some how := by
  have := runOf_all h
  rw [List.getElem?_drop, List.getElem?_take] at this
  split at this
  · exact this
  · cases this

/-- what goes is lost, or stands at what was sent -/
theorem Ob.Good.first {o : Ob} (h : o.Good) : (o.first.1 + o.first.2 ≤ o.sent) ∨ (o.first.1 = o.sent ∧ o.sent + o.first.2 ≤ o.limit ∧ o.sent + o.first.2 ≤ o.data.length) := by
  unfold Ob.first
  split
  · rename_i h0
    left
    obtain ⟨i, hi⟩ := Int.eq_ofNat_of_zero_le h0
    obtain ⟨h1, h2⟩ := lostAt_lt hi
    rw [hi]
    simp only [Int.toNat_natCast]
    have hr := runAt_le o.st i o.data.length 2
    rcases Nat.eq_zero_or_pos (runAt o.st i o.data.length 2) with hz | hz
    · rw [hz]
      have := h.un i 2 h1 h2
      simp at this
      omega
    · have h3 := runAt_all (st := o.st) (a := i) (e := o.data.length) (how := 2) (k := runAt o.st i o.data.length 2 - 1) (by omega)
      have := h.un (i + (runAt o.st i o.data.length 2 - 1)) 2 (by omega) h3
      simp at this
      omega
  · right
    have := h.lim
    have := h.wf.sent
    unfold Ob.room
    refine ⟨rfl, ?_, ?_⟩ <;> simp only <;> omega

theorem Ob.Good.take {o : Ob} (h : o.Good) {i n : Nat} (hin : i + n ≤ o.data.length) (hf : i + n ≤ o.sent ∨ (i = o.sent ∧ i + n ≤ o.limit)) : (o.take i n).Good := by
  refine ⟨h.wf.take hin, ?_, ?_⟩
  · simp only [Ob.take]
    have := h.lim
    omega
  · intro j x hj hx
    simp only [Ob.take] at hj hx ⊢
    rw [mapAt_get] at hx
    cases hs : o.st[j]? with
    | none => rw [hs] at hx; cases hx
    | some y =>
      have hu := h.un j y hj hs
      rw [hs] at hx
      simp only [Option.map_some, Option.some.injEq] at hx
      split at hx
      · subst hx
        simp
        omega
      · subst hx
        rw [hu]
        omega

theorem Ob.Good.setEnd {o : Ob} (h : o.Good) (c : UInt8) (hc : c < 4) : ({ o with st := o.st.set o.data.length c } : Ob).Good := by
  refine ⟨⟨h.wf.lim, h.wf.size, by simpa using h.wf.stl, h.wf.sent, ?_⟩, h.lim, ?_⟩
  · intro x hx
    rcases List.mem_or_eq_of_mem_set hx with h1 | h1
    · exact h.wf.low x h1
    · rw [h1]; exact hc
  · intro j x hj hx
    simp only at hj hx ⊢
    rw [List.getElem?_set_ne (by omega)] at hx
    exact h.un j x hj hx

theorem Ob.Good.takeEnd {o : Ob} (h : o.Good) {i n : Nat} (hin : i + n ≤ o.data.length) (hf : i + n ≤ o.sent ∨ (i = o.sent ∧ i + n ≤ o.limit)) : (o.takeEnd i n).Good := by
  unfold Ob.takeEnd
  split
  · exact (h.take hin hf).setEnd 1 (by decide)
  · exact h.take hin hf
theorem Ob.takeEnd_sent (o : Ob) (i n : Nat) : (o.takeEnd i n).sent = max o.sent (i + n) := by unfold Ob.takeEnd Ob.take; split <;> rfl
theorem Ob.takeEnd_data (o : Ob) (i n : Nat) : (o.takeEnd i n).data = o.data := by unfold Ob.takeEnd Ob.take; split <;> rfl
theorem Ob.takeEnd_limit (o : Ob) (i n : Nat) : (o.takeEnd i n).limit = o.limit := by unfold Ob.takeEnd Ob.take; split <;> rfl
theorem Ob.takeEnd_ended (o : Ob) (i n : Nat) : (o.takeEnd i n).ended = o.ended := by unfold Ob.takeEnd Ob.take; split <;> rfl
theorem Ob.takeEnd_reset (o : Ob) (i n : Nat) : (o.takeEnd i n).reset = o.reset := by unfold Ob.takeEnd Ob.take; split <;> rfl

theorem Ob.Good.at_ {o : Ob} (h : o.Good) (most : Int) : o.first.1 + o.much most ≤ o.data.length ∧ (o.first.1 + o.much most ≤ o.sent ∨ (o.first.1 = o.sent ∧ o.first.1 + o.much most ≤ o.limit)) := by
  have h1 := h.wf.first
  have h2 := o.much_le most
  rcases h.first with h3 | ⟨h3, h4, h5⟩
  · exact ⟨by omega, .inl (by omega)⟩
  · exact ⟨by omega, .inr ⟨h3, by omega⟩⟩

theorem Ob.Good.next {o : Ob} (h : o.Good) (most : Int) : (o.next most).Good := by
  unfold Ob.next
  split
  · exact h
  · split
    · exact h.takeEnd (h.at_ most).1 (h.at_ most).2
    · exact h

theorem mapAt_un {f : UInt8 → UInt8} (hf : ∀ c, f c = 0 ↔ c = 0) {st : List UInt8} {i n j : Nat} {x : UInt8} (hx : (mapAt f st i n)[j]? = some x) : ∃ y, st[j]? = some y ∧ (x = 0 ↔ y = 0) := by
  rw [mapAt_get] at hx
  cases hs : st[j]? with
  | none => rw [hs] at hx; cases hx
  | some y =>
    rw [hs] at hx
    simp only [Option.map_some, Option.some.injEq] at hx
    refine ⟨y, rfl, ?_⟩
    rw [← hx]
    split
    · exact hf y
    · exact Iff.rfl
theorem ack_zero (c : UInt8) : ackOf c = 0 ↔ c = 0 := by
  unfold ackOf
  split
  · rename_i h
    constructor
    · intro h2; exact absurd h2 (by decide)
    · rintro rfl; revert h; decide
  · exact Iff.rfl
theorem lose_zero (c : UInt8) : loseOf c = 0 ↔ c = 0 := by
  unfold loseOf
  split
  · rename_i h
    constructor
    · intro h2; exact absurd h2 (by decide)
    · rintro rfl; revert h; decide
  · exact Iff.rfl
theorem Ob.Good.each {o : Ob} (h : o.Good) {f : UInt8 → UInt8} (hf : ∀ c, c < 4 → f c < 4) (h0 : ∀ c, f c = 0 ↔ c = 0) (a n : Nat) (fin : Bool) : (o.each f a n fin).Good := by
  refine ⟨h.wf.each hf a n fin, h.lim, ?_⟩
  intro j x hj hx
  simp only [Ob.each] at hj hx ⊢
  split at hx
  · obtain ⟨y, hy, e1⟩ := mapAt_un h0 hx
    obtain ⟨z, hz, e2⟩ := mapAt_un h0 hy
    rw [e1, e2]
    exact h.un j z hj hz
  · obtain ⟨y, hy, e1⟩ := mapAt_un h0 hx
    rw [e1]
    exact h.un j y hj hy
theorem Ob.Good.write {o : Ob} (h : o.Good) (d : List UInt8) (fin : Bool) : (o.write d fin).Good := by
  have hw := h.wf.write d fin
  unfold Ob.write at hw ⊢
  split
  · rename_i h0
    rw [if_pos h0] at hw
    obtain ⟨he, hr, hl⟩ := Ob.writeErr_zero h0
    refine ⟨hw, h.lim, ?_⟩
    intro j x hj hx
    simp only at hj hx ⊢
    have hst := h.wf.stl
    rw [he] at hst
    simp only [Bool.toNat_false, Nat.add_zero] at hst
    simp only [List.length_append] at hj
    have hse := h.wf.sent
    rw [List.append_assoc] at hx
    by_cases h1 : j < o.data.length
    · rw [List.getElem?_append_left (by omega)] at hx
      exact h.un j x h1 hx
    · rw [List.getElem?_append_right (by omega)] at hx
      have : x = 0 := by
        rw [List.getElem?_append_left (by simp; omega), List.getElem?_replicate] at hx
        split at hx
        · cases hx; rfl
        · cases hx
      rw [this]
      simp
      omega
  · exact h
theorem Ob.Good.raise {o : Ob} (h : o.Good) (l : Nat) : (o.raise l).Good := ⟨h.wf.raise l, by have := h.lim; simp only [Ob.raise]; omega, h.un⟩
theorem Ob.Good.resetNow {o : Ob} (h : o.Good) : o.resetNow.Good := by
  have hw := h.wf.resetNow
  unfold Ob.resetNow at hw ⊢
  split
  · exact h
  · rename_i h1
    rw [if_neg h1] at hw
    exact ⟨hw, h.lim, h.un⟩

/-- what Next tells -/
theorem Ob.Good.told {o : Ob} (h : o.Good) (most : Int) :
    let t := o.nextTold most
    let p := o.next most
    (t = ⟨0, [], false, false⟩ ∧ p = o) ∨
    (o.reset = false ∧ t.is_ = true ∧ t.at_ = o.first.1 ∧ t.s.length = o.much most ∧ t.s = (o.data.drop t.at_).take t.s.length ∧ t.at_ + t.s.length ≤ o.data.length ∧ (t.at_ + t.s.length ≤ o.sent ∨ (t.at_ = o.sent ∧ t.at_ + t.s.length ≤ o.limit)) ∧
      p = o.takeEnd t.at_ t.s.length ∧ t.fin = o.takeFin t.at_ t.s.length ∧ o.goes t.s.length = true) := by
  simp only
  unfold Ob.nextTold Ob.next
  cases hr : o.reset
  · simp only [Bool.false_eq_true, if_false]
    cases hg : o.goes (o.much most)
    · left; simp
    · right
      obtain ⟨h1, h2⟩ := h.at_ most
      have hl : ((o.data.drop o.first.1).take (o.much most)).length = o.much most := by simp; omega
      simp only [if_true, hl]
      exact ⟨trivial, trivial, trivial, trivial, trivial, h1, h2, trivial, trivial, hg⟩
  · left; simp
end Go.Proofs.Ytnkhdipbljfohaa
