/-
  outbox, plain: what is under way taken for lost, all goes again and is acknowledged: then it is done. No program.
-/
import Derived.Test.YtnkhdipbljfohaaObGood
namespace Go.Proofs.Ytnkhdipbljfohaa

structure Ob.Closing (o : Ob) : Prop where
  good : o.Good
  en : o.ended = true
  re : o.reset = false
  lim : o.limit = 4611686018427387903
  nofly : ∀ c ∈ o.st, c ≠ 1

def Ob.missing (o : Ob) : Nat := o.st.length - Lib.countByte o.st 3

theorem count_up : ∀ (a b : List UInt8), a.length = b.length → (∀ (j : Nat) (x y : UInt8), a[j]? = some x → b[j]? = some y → y = x ∨ y = 3) →
    a.count 3 ≤ b.count 3 ∧ ((∃ (j : Nat) (x : UInt8), a[j]? = some x ∧ x ≠ 3 ∧ b[j]? = some 3) → a.count 3 + 1 ≤ b.count 3)
  | [], [], _, _ => ⟨Nat.le_refl _, fun ⟨j, x, h, _⟩ => by simp at h⟩
  | [], y :: b, h, _ => by simp at h
  | x :: a, [], h, _ => by simp at h
  | x :: a, y :: b, hl, h => by
    obtain ⟨h1, h2⟩ := count_up a b (by simpa using hl) (fun j u v hu hv => h (j + 1) u v (by simpa using hu) (by simpa using hv))
    have h0 := h 0 x y rfl rfl
    simp only [List.count_cons]
    constructor
    · rcases h0 with rfl | rfl
      · omega
      · simp; split <;> omega
    · rintro ⟨j, u, hu, hne, hv⟩
      match j, hu, hv with
      | 0, hu, hv =>
        simp at hu hv
        subst hu hv
        have : (x == 3) = false := by simpa using hne
        rw [this]
        simp
        omega
      | j + 1, hu, hv =>
        have := h2 ⟨j, u, by simpa using hu, hne, by simpa using hv⟩
        rcases h0 with rfl | rfl
        · omega
        · simp; split <;> omega

theorem count_le (l : List UInt8) : l.count 3 ≤ l.length := List.count_le_length

theorem ack_flying : ackOf 1 = 3 := by decide

/-- behind Next and Acked of what it told -/
theorem Ob.Closing.round {o : Ob} (h : o.Closing) (most : Int) (hi : (o.nextTold most).is_ = true) :
    let t := o.nextTold most
    let q := (o.next most).each ackOf t.at_ t.s.length t.fin
    q.Closing ∧ q.missing + 1 ≤ o.missing ∧ q.data = o.data := by
  simp only
  rcases h.good.told most with ⟨t1, _⟩ | ⟨_, _, t2, t3, t4, t5, t6, t7, t8, t9⟩
  · rw [t1] at hi; cases hi
  obtain ⟨i, hia⟩ : ∃ i, i = (o.nextTold most).at_ := ⟨_, rfl⟩
  obtain ⟨n, hna⟩ : ∃ n, n = (o.nextTold most).s.length := ⟨_, rfl⟩
  obtain ⟨f, hfa⟩ : ∃ f, f = (o.nextTold most).fin := ⟨_, rfl⟩
  rw [← hia, ← hna] at t5 t6 t7 t8
  rw [← hna] at t3 t9
  rw [← hia] at t2
  rw [← hfa] at t8
  rw [← hia, ← hna, ← hfa, t7]
  have hg1 := h.good.next most
  rw [t7] at hg1
  have hg2 := hg1.each ack_low ack_zero i n f
  have hlo : min i o.data.length = i := by omega
  have hhi : min n (o.data.length - i) = n := by omega
  -- the states, place by place
  have hst : ∀ j, ((o.takeEnd i n).each ackOf i n f).st[j]? = o.st[j]?.map fun x => if (i ≤ j ∧ j < i + n) ∨ (f = true ∧ j = o.data.length) then 3 else x := by
    intro j
    have hte : ∀ j, (o.takeEnd i n).st[j]? = o.st[j]?.map fun x => if (i ≤ j ∧ j < i + n) ∨ (f = true ∧ j = o.data.length) then 1 else x := by
      intro j
      unfold Ob.takeEnd
      rw [← t8]
      cases f
      · simp only [Bool.false_eq_true, if_false, false_and, or_false]
        simp only [Ob.take]
        rw [mapAt_get]
      · simp only [if_true, true_and, Ob.take]
        rw [List.getElem?_set, mapAt_length, mapAt_get]
        by_cases hj : o.data.length = j
        · subst hj
          rw [if_pos rfl]
          have hlen : o.data.length < o.st.length := by have := h.good.wf.stl; rw [h.en] at this; simp at this; omega
          rw [if_pos hlen, List.getElem?_eq_getElem hlen]
          simp
        · rw [if_neg hj]
          congr 1
          funext x
          by_cases h1 : i ≤ j ∧ j < i + n
          · simp [h1]
          · rw [if_neg h1, if_neg (by omega)]
    have hen : (o.takeEnd i n).ended = true := by rw [Ob.takeEnd_ended]; exact h.en
    unfold Ob.each
    simp only [Ob.takeEnd_data, hlo, hhi, hen, Bool.and_true]
    cases f
    · simp only [Bool.false_eq_true, if_false]
      rw [mapAt_get, hte]
      cases o.st[j]? with
      | none => rfl
      | some x =>
        simp only [Option.map_some, Bool.false_eq_true, false_and, or_false]
        congr 1
        by_cases h1 : i ≤ j ∧ j < i + n
        · rw [if_pos h1, if_pos h1, if_pos h1]; exact ack_flying
        · rw [if_neg h1, if_neg h1, if_neg h1]
    · simp only [if_true]
      rw [mapAt_get, mapAt_get, hte]
      cases o.st[j]? with
      | none => rfl
      | some x =>
        simp only [Option.map_some, true_and]
        congr 1
        by_cases h1 : i ≤ j ∧ j < i + n
        · have h2 : ¬ (o.data.length ≤ j ∧ j < o.data.length + 1) := by omega
          rw [if_pos h1, if_neg h2, if_pos (.inl h1), if_pos (.inl h1)]; exact ack_flying
        · by_cases h2 : j = o.data.length
          · rw [if_neg h1, if_pos (by omega), if_pos (.inr h2), if_pos (.inr h2)]; exact ack_flying
          · rw [if_neg h1, if_neg (by omega), if_neg (by omega), if_neg (by omega)]
  have hlen2 : ((o.takeEnd i n).each ackOf i n f).st.length = o.st.length := by
    have a1 := hg2.wf.stl
    have a2 := h.good.wf.stl
    have e1 : ((o.takeEnd i n).each ackOf i n f).data = o.data := by unfold Ob.each; simp only [Ob.takeEnd_data]
    have e2 : ((o.takeEnd i n).each ackOf i n f).ended = o.ended := by unfold Ob.each; simp only [Ob.takeEnd_ended]
    rw [e1, e2] at a1
    omega
  refine ⟨⟨hg2, ?_, ?_, ?_, ?_⟩, ?_, ?_⟩
  · unfold Ob.each; simp only [Ob.takeEnd_ended]; exact h.en
  · unfold Ob.each; simp only [Ob.takeEnd_reset]; exact h.re
  · unfold Ob.each; simp only [Ob.takeEnd_limit]; exact h.lim
  · intro c hc
    obtain ⟨j, hj⟩ := List.mem_iff_getElem?.1 hc
    rw [hst] at hj
    cases hx : o.st[j]? with
    | none => rw [hx] at hj; cases hj
    | some x =>
      rw [hx] at hj
      simp only [Option.map_some, Option.some.injEq] at hj
      rw [← hj]
      split
      · decide
      · exact h.nofly x (List.mem_iff_getElem?.2 ⟨j, hx⟩)
  · have hup := count_up o.st ((o.takeEnd i n).each ackOf i n f).st hlen2.symm (fun j x y hx hy => by
      rw [hst, hx] at hy
      simp only [Option.map_some, Option.some.injEq] at hy
      split at hy
      · right; exact hy.symm
      · left; exact hy.symm)
    -- a place that was not acknowledged, and is
    have hex : ∃ (j : Nat) (x : UInt8), o.st[j]? = some x ∧ x ≠ 3 ∧ ((o.takeEnd i n).each ackOf i n f).st[j]? = some 3 := by
      have hstl := h.good.wf.stl
      rw [h.en] at hstl
      simp only [Bool.toNat_true] at hstl
      rcases Nat.eq_zero_or_pos n with hn0 | hn0
      · -- the end alone
        rw [hn0] at t9 t8
        have hmf : o.first.2 = 0 ∧ o.waits = true ∧ o.data.length ≤ o.sent := by
          unfold Ob.goes at t9
          rcases Nat.eq_zero_or_pos o.first.2 with h0 | h0
          · rw [h0] at t9
            simp at t9
            exact ⟨h0, t9.1, by omega⟩
          · have e1 : (o.first.2 == 0) = false := by simpa using (by omega : ¬ o.first.2 = 0)
            rw [e1] at t9
            simp at t9
            omega
        obtain ⟨h1, h2, h3⟩ := hmf
        have hw := h2
        unfold Ob.waits at hw
        obtain ⟨_, hw⟩ := Bool.and_eq_true_iff.1 hw
        obtain ⟨x, hx⟩ : ∃ x, o.st[o.data.length]? = some x := ⟨_, List.getElem?_eq_getElem (by omega)⟩
        have hfin : f = true := by
          rw [t8]
          have h4 := h.good.wf.sent
          have h5 : i = o.sent := by
            rw [t2]
            unfold Ob.first at h1 ⊢
            split
            · rename_i h0
              rw [if_pos h0] at h1
              simp only at h1
              obtain ⟨i', hi'⟩ := Int.eq_ofNat_of_zero_le h0
              obtain ⟨h6, h7⟩ := lostAt_lt hi'
              rw [hi'] at h1
              simp only [Int.toNat_natCast] at h1
              have : 0 + 1 ≤ runAt o.st i' o.data.length 2 := runOf_yes (how := 2) (k := 0) (Nat.zero_le _) (by rw [List.getElem?_drop, List.getElem?_take, if_pos (by omega)]; exact h7)
              omega
            · rfl
          have e : (o.take i 0).waits = o.waits := by unfold Ob.take Ob.waits; simp only [mapAt_zero]
          unfold Ob.takeFin
          rw [e, h2]
          simp
          omega
        refine ⟨o.data.length, x, hx, ?_, ?_⟩
        · rw [hx] at hw
          rintro rfl
          revert hw; decide
        · rw [hst, hx]
          simp [hfin]
      · obtain ⟨x, hx⟩ : ∃ x, o.st[i]? = some x := ⟨_, List.getElem?_eq_getElem (by omega)⟩
        refine ⟨i, x, hx, ?_, ?_⟩
        · -- it was lost, or unsent
          have hm2 : n ≤ o.first.2 := by rw [t3]; exact o.much_le most
          rcases h.good.first with h4 | ⟨h4, _, _⟩
          · unfold Ob.first at t2 hm2 h4
            split at t2
            · rename_i h0
              rw [if_pos h0] at hm2
              simp only at t2 hm2
              have := runAt_all (st := o.st) (a := o.lostAt.toNat) (e := o.data.length) (how := 2) (k := 0) (by omega)
              rw [← t2, Nat.add_zero, hx] at this
              cases this
              decide
            · rename_i h0
              rw [if_neg h0] at h4 hm2
              simp only at t2 h4 hm2
              omega
          · have := (h.good.un i x (by omega) hx).2 (by omega)
            rw [this]; decide
        · rw [hst, hx]
          have : i ≤ i ∧ i < i + n := by omega
          simp [this]
    have := hup.2 hex
    have c1 := count_le ((o.takeEnd i n).each ackOf i n f).st
    unfold Ob.missing Lib.countByte
    omega
  · unfold Ob.each; simp only [Ob.takeEnd_data]

/-- nothing goes any more: it is done -/
theorem Ob.Closing.last {o : Ob} (h : o.Closing) (most : Int) (hm : 1 ≤ most) (hi : (o.nextTold most).is_ = false) :
    o.next most = o ∧ o.done = true ∧ o.sent = o.data.length ∧ o.blocked = false := by
  have hgo : o.goes (o.much most) = false ∧ o.next most = o := by
    unfold Ob.nextTold at hi
    unfold Ob.next
    rw [h.re] at hi ⊢
    simp only [Bool.false_eq_true, if_false] at hi ⊢
    cases hg : o.goes (o.much most)
    · simp
    · rw [hg] at hi; simp at hi
  obtain ⟨hgo, hnx⟩ := hgo
  have hstl := h.good.wf.stl
  rw [h.en] at hstl
  simp only [Bool.toNat_true] at hstl
  have hse := h.good.wf.sent
  have hm0 : o.first.2 = 0 := by
    rcases Nat.eq_zero_or_pos o.first.2 with h0 | h0
    · exact h0
    · exfalso
      have h1 : 0 < o.much most := by unfold Ob.much; omega
      unfold Ob.goes at hgo
      have e1 : (o.much most == 0) = false := by simpa using (by omega : ¬ o.much most = 0)
      have e2 : (o.first.2 == 0) = false := by simpa using (by omega : ¬ o.first.2 = 0)
      rw [e1, e2] at hgo
      simp at hgo
  have hnl : ¬ 0 ≤ o.lostAt := by
    intro h0
    unfold Ob.first at hm0
    rw [if_pos h0] at hm0
    simp only at hm0
    obtain ⟨i, hi⟩ := Int.eq_ofNat_of_zero_le h0
    obtain ⟨h6, h7⟩ := lostAt_lt hi
    rw [hi] at hm0
    simp only [Int.toNat_natCast] at hm0
    have : 0 + 1 ≤ runAt o.st i o.data.length 2 := runOf_yes (how := 2) (k := 0) (Nat.zero_le _) (by rw [List.getElem?_drop, List.getElem?_take, if_pos (by omega)]; exact h7)
    omega
  have hsent : o.sent = o.data.length := by
    unfold Ob.first at hm0
    rw [if_neg hnl] at hm0
    simp only at hm0
    have h1 := h.lim
    have h2 := h.good.wf.size
    have : o.room = o.data.length := by unfold Ob.room; omega
    omega
  have hw : o.waits = false := by
    unfold Ob.goes at hgo
    rw [hm0, hsent] at hgo
    simp at hgo
    exact hgo
  have hlo : o.lostAt = -1 := by
    have := Lib.indexByte_ge (o.st.take o.data.length) 2
    unfold Ob.lostAt at hnl ⊢
    omega
  have hall : ∀ c ∈ o.st, c = 3 := by
    intro c hc
    obtain ⟨j, hj⟩ := List.mem_iff_getElem?.1 hc
    have h4 := h.good.wf.low c hc
    have h1 := h.nofly c hc
    have h02 : c ≠ 0 ∧ c ≠ 2 := by
      have hjl := (List.getElem?_eq_some_iff.1 hj).1
      by_cases hjd : j < o.data.length
      · constructor
        · intro h0
          have := (h.good.un j c hjd hj).1 h0
          omega
        · rintro rfl
          exact Lib.indexByte_none hlo j (by rw [List.getElem?_take, if_pos hjd]; exact hj)
      · have : j = o.data.length := by omega
        subst this
        unfold Ob.waits at hw
        rw [h.en, hj] at hw
        constructor
        · rintro rfl; revert hw; decide
        · rintro rfl; revert hw; decide
    have hb : ∀ c : UInt8, c < 4 → c ≠ 1 → c ≠ 0 → c ≠ 2 → c = 3 := by
      intro c h1 h2 h3 h4
      rw [← UInt8.toNat_inj]
      have e1 : c.toNat < 4 := by simpa [UInt8.lt_iff_toNat_lt] using h1
      have e2 : c.toNat ≠ 1 := fun e => h2 (by rw [← UInt8.toNat_inj]; exact e)
      have e3 : c.toNat ≠ 0 := fun e => h3 (by rw [← UInt8.toNat_inj]; exact e)
      have e4 : c.toNat ≠ 2 := fun e => h4 (by rw [← UInt8.toNat_inj]; exact e)
      show c.toNat = 3
      omega
    exact hb c h4 h1 h02.1 h02.2
  refine ⟨hnx, ?_, hsent, ?_⟩
  · unfold Ob.done Lib.countByte
    rw [h.en, List.count_eq_length.2 (fun c hc => (hall c hc).symm)]
    simp
  · unfold Ob.blocked
    rw [hsent]
    simp

/-- the way there -/
theorem Ob.Good.closing {o : Ob} (h : o.Good) (hr : o.reset = false) :
    let p := if o.ended then o else o.write [] true
    (((p.each loseOf 0 4611686018427387903 true).raise 4611686018427387903).Closing) ∧ ((p.each loseOf 0 4611686018427387903 true).raise 4611686018427387903).data = o.data ∧ (o.ended = false → o.writeErr [] = 0) := by
  have hw : o.ended = false → o.writeErr [] = 0 := by
    intro he
    unfold Ob.writeErr
    rw [he, hr]
    have := h.wf.size
    simp
    omega
  have hp : ∃ p, p = (if o.ended then o else o.write [] true) ∧ p.Good ∧ p.ended = true ∧ p.reset = false ∧ p.data = o.data := by
    cases he : o.ended
    · refine ⟨o.write [] true, by simp, h.write [] true, ?_⟩
      unfold Ob.write
      rw [if_pos (hw he)]
      exact ⟨rfl, hr, by simp⟩
    · exact ⟨o, by simp, h, he, hr, rfl⟩
  obtain ⟨p, hp, hg, he, hr2, hd⟩ := hp
  simp only
  rw [← hp]
  have hg2 := hg.each lose_low lose_zero 0 4611686018427387903 true
  refine ⟨⟨hg2.raise _, ?_, ?_, ?_, ?_⟩, ?_, hw⟩
  · exact he
  · exact hr2
  · unfold Ob.raise
    have := hg2.wf.lim
    simp only
    omega
  · intro c hc
    unfold Ob.raise Ob.each at hc
    simp only [he, Bool.and_true] at hc
    rw [if_pos trivial] at hc
    obtain ⟨j, hj⟩ := List.mem_iff_getElem?.1 hc
    rw [mapAt_get, mapAt_get] at hj
    have hsz := hg.wf.size
    have hstl := hg.wf.stl
    rw [he] at hstl
    simp only [Bool.toNat_true] at hstl
    cases hx : p.st[j]? with
    | none => rw [hx] at hj; cases hj
    | some x =>
      have hjl := (List.getElem?_eq_some_iff.1 hx).1
      rw [hx] at hj
      simp only [Option.map_some, Option.some.injEq] at hj
      rw [← hj]
      have hl1 : loseOf x ≠ 1 := by unfold loseOf; split; decide; assumption
      have hl2 : loseOf (loseOf x) ≠ 1 := by unfold loseOf; split; decide; assumption
      by_cases h1 : min 0 p.data.length ≤ j ∧ j < min 0 p.data.length + min 4611686018427387903 (p.data.length - min 0 p.data.length)
      · rw [if_pos h1]
        split
        · exact hl2
        · exact hl1
      · rw [if_neg h1, if_pos (by omega)]
        exact hl1
  · exact hd
end Go.Proofs.Ytnkhdipbljfohaa
