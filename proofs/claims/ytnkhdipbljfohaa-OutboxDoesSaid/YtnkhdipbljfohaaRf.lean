/-
  the document's outbox (kymographref13) in memory, as a function of the same plain outbox; its readers.
-/
import Derived.Test.YtnkhdipbljfohaaObActs
namespace Go.Proofs.Ytnkhdipbljfohaa
open Go.RowKit

def iv (c : UInt8) : Value := .int .i64 (c.toNat : Int)
def Ob.hows (o : Ob) : List UInt8 := o.st.take o.data.length
def Ob.endv (o : Ob) : Int := if o.ended then ((o.st.getD o.data.length 0).toNat : Int) else 4

structure RBox (w : World) (r : Nat) (o : Ob) (H : Value) : Prop where
  blk : Blk w r 50 #[.int .u64 (o.limit : Int), str o.data, H, .int .i64 o.endv, .bool o.reset]
  how : w.ownsRow 0 3 1 H o.data.length (o.hows.map iv)
  good : o.Good

def rfoot (r : Nat) (H : Value) : List Nat := r :: H.ownBlock.toList
def RStep (w : World) (r : Nat) (H : Value) (o' : Ob) (w' : World) : Prop :=
  ∃ H', RBox w' r o' H' ∧ Mod (rfoot r H) w w' ∧ ∀ k ∈ rfoot r H', k ∈ rfoot r H ∨ w.heap.size ≤ k

theorem RBox.mod {F : List Nat} {w w' : World} {r : Nat} {o : Ob} {H : Value} (h : RBox w r o H) (hm : Mod F w w') (hF : ∀ k ∈ rfoot r H, k ∉ F) : RBox w' r o H :=
  ⟨hm.blk h.blk (hF r (by simp [rfoot])), hm.own h.how (fun k hk => hF k (by simp [rfoot, hk])), h.good⟩
theorem RStep.of_mod {w w' : World} {r : Nat} {o : Ob} {H : Value} (h : RBox w r o H) (hm : Mod [] w w') : RStep w r H o w' :=
  ⟨H, h.mod hm (by simp), hm.mono (by simp), fun _ hk => .inl hk⟩

theorem Ob.Good.hows_len {o : Ob} (h : o.Good) : o.hows.length = o.data.length := by
  have := h.wf.stl
  simp [Ob.hows]; omega
theorem hows_get {o : Ob} {j : Nat} (hj : j < o.data.length) : o.hows[j]? = o.st[j]? := by
  unfold Ob.hows
  rw [List.getElem?_take, if_pos hj]

section
variable {w : World} {r : Nat} {o : Ob} {H : Value}
theorem RBox.c0 (h : RBox w r o H) : w.cell? ⟨r, 0, none⟩ = some (.int .u64 (o.limit : Int)) := h.blk.cell 0
theorem RBox.c1 (h : RBox w r o H) : w.cell? ⟨r, 1, none⟩ = some (.string ⟨o.data.toArray⟩) := h.blk.cell 1
theorem RBox.c2 (h : RBox w r o H) : w.cell? ⟨r, 2, none⟩ = some H := h.blk.cell 2
theorem RBox.c3 (h : RBox w r o H) : w.cell? ⟨r, 3, none⟩ = some (.int .i64 o.endv) := h.blk.cell 3
theorem RBox.c4 (h : RBox w r o H) : w.cell? ⟨r, 4, none⟩ = some (.bool o.reset) := h.blk.cell 4
theorem RBox.size (h : RBox w r o H) : o.data.length ≤ 65536 := h.good.wf.size

theorem rown_form {n : Nat} {L : List UInt8} (hown : w.ownsRow 0 3 1 H n (L.map iv)) :
    (H = .slice none 0 0 ∧ n = 0) ∨
    ∃ g cap, H = .slice (some ⟨g, 0, none⟩) n cap ∧ n ≤ cap ∧ cap ≤ 9223372036854775807 ∧ g < w.heap.size ∧ ∀ j x, L[j]? = some x → w.cell? ⟨g, j, none⟩ = some (.int .i64 (x.toNat : Int)) ∧ w.frozen? ⟨g, j, none⟩ = false := by
  rcases hown.2 with ⟨h1, h0⟩ | ⟨g, cap, cur, hv, _, hg, h1, h2, h3, h4⟩
  · exact .inl ⟨h1, h0⟩
  · refine .inr ⟨g, cap, hv, h1, by simpa [maxLen] using h2, Blk.lt hg, fun j x hx => ⟨?_, Blk.frozen hg j⟩⟩
    have := (Blk.cell hg j)
    rw [this]
    have hj : (L.map iv)[j]? = some (iv x) := by simp [hx]
    rw [← h4, List.getElem?_take] at hj
    split at hj
    · simpa [iv] using hj
    · cases hj
/-- the slice, and its cells -/
theorem RBox.form (h : RBox w r o H) : ∃ A cap, H = .slice A o.data.length cap ∧ o.data.length ≤ cap ∧ cap ≤ 9223372036854775807 ∧
    ∀ j, j < o.data.length → ∃ g x, A = some ⟨g, 0, none⟩ ∧ g < w.heap.size ∧ o.st[j]? = some x ∧ w.cell? ⟨g, j, none⟩ = some (.int .i64 (x.toNat : Int)) ∧ w.frozen? ⟨g, j, none⟩ = false := by
  have hst := h.good.wf.stl
  rcases rown_form h.how with ⟨h1, h2⟩ | ⟨g, cap, h1, h2, h3, h4, h5⟩
  · exact ⟨none, 0, by rw [h1, h2], by omega, by omega, fun j hj => by omega⟩
  · refine ⟨_, cap, h1, h2, h3, fun j hj => ?_⟩
    have hx : o.st[j]? = some o.st[j] := List.getElem?_eq_getElem (by omega)
    exact ⟨g, _, rfl, h4, hx, h5 j _ (by rw [hows_get hj]; exact hx)⟩
end

theorem beq_u8z (x : UInt8) (c : Int) (y : UInt8) (hy : (y.toNat : Int) = c) : ((x.toNat : Int) == c) = (x == y) := by rw [← hy]; exact beq_u8 x y

set_option maxHeartbeats 1000000 in
theorem rsent_any (w : World) (r : Nat) (o : Ob) (H : Value) (h : RBox w r o H) :
    Calls Try.prog 27 #[.pointer (some ⟨r, 0, none⟩)] w fun e w' => e = .returned (.int .i64 (o.sent : Nat)) ∧ ∃ n, w' = w.drewN n := by
  have hc2 := h.c2
  have hsz := h.size
  have hse := h.good.wf.sent
  obtain ⟨A, cap, rfl, hc, hcm, hat⟩ := h.form
  have hun := h.good.un
  clear h
  go_enter Try.func27, Try.ntmps27
  go_wp2
  go_loop [3] (fun n => ∃ k : Nat, k ≤ o.sent ∧ n = .int .i64 k) (fun n => 70000 - (intOf n).toNat)
  case atStart => exact ⟨0, by omega, rfl⟩
  case round =>
    obtain ⟨k, hk, rfl⟩ := hrel
    by_cases hlt : k < o.data.length
    · obtain ⟨g, x, rfl, hg, hx, hcell, _⟩ := hat k hlt
      have hu := hun k x hlt hx
      clear hat hun hx
      by_cases hx' : x = 0
      · subst hx'
        have hks : Hid ((k : Int) = o.sent) := hide (by have := hu.1 rfl; omega)
        clear hu
        go_wp2
        go_ret
        exact ⟨ret_i64 hks.out, 0, rfl⟩
      · have hks : k < o.sent := by
          have : ¬ o.sent ≤ k := fun h => hx' (hu.2 h)
          omega
        have hne : ((x.toNat : Int) == 0) = false := by rw [beq_u8z x 0 0 rfl]; simpa using hx'
        clear hu hx'
        go_wp2
        go_round
        case rel => exact ⟨k + 1, by omega, by go_num⟩
        case measure => simp [intOf]; omega
    · have hks : Hid ((o.data.length : Int) = o.sent) := hide (by omega)
      clear hat hun
      go_wp2
      go_ret
      exact ⟨ret_i64 hks.out, 0, rfl⟩

theorem Ob.lost_none {o : Ob} (h : ¬ 0 ≤ o.lostAt) : ∀ j, j < o.data.length → o.st[j]? ≠ some 2 := by
  intro j hj hx
  have h2 := Lib.indexByte_ge (o.st.take o.data.length) 2
  have h1 : Lib.indexByte (o.st.take o.data.length) 2 = -1 := by unfold Ob.lostAt at h; omega
  have := Lib.indexByte_none h1 j
  rw [List.getElem?_take, if_pos hj] at this
  exact this hx
theorem Ob.lost_some {o : Ob} {j : Nat} (hj : j < o.data.length) (hx : o.st[j]? = some 2) : 0 ≤ o.lostAt :=
  Decidable.byContradiction fun h => Ob.lost_none h j hj hx
theorem Ob.lost_first {o : Ob} {j : Nat} (hj : j < o.data.length) (hx : o.st[j]? = some 2) (hmin : ∀ i, i < j → o.st[i]? ≠ some 2) : o.lostAt = j := by
  obtain ⟨i, hi⟩ := Int.eq_ofNat_of_zero_le (Ob.lost_some hj hx)
  have h1 := (Lib.indexByte_some hi).2 j
  have h2 := (lostAt_lt hi).2
  rcases Nat.lt_trichotomy i j with h3 | h3 | h3
  · exact absurd h2 (hmin i h3)
  · rw [hi, h3]
  · refine absurd ?_ (h1 h3)
    rw [List.getElem?_take, if_pos hj, hx]
theorem Ob.lost_never {o : Ob} (h : ∀ j, j < o.data.length → o.st[j]? ≠ some 2) : ¬ 0 ≤ o.lostAt := by
  intro h0
  obtain ⟨i, hi⟩ := Int.eq_ofNat_of_zero_le h0
  obtain ⟨h1, h2⟩ := lostAt_lt hi
  exact h i h1 h2

set_option maxHeartbeats 1000000 in
theorem ragain_any (w : World) (r : Nat) (o : Ob) (H : Value) (h : RBox w r o H) :
    Calls Try.prog 31 #[.pointer (some ⟨r, 0, none⟩)] w fun e w' => e = .returned (.bool o.again) ∧ ∃ n, w' = w.drewN n := by
  have hc2 := h.c2
  have hc4 := h.c4
  have hsz := h.size
  obtain ⟨A, cap, rfl, hc, hcm, hat⟩ := h.form
  have HA : Hid (o.again = (!o.reset && decide (0 ≤ o.lostAt))) := hide rfl
  clear h
  go_enter Try.func31, Try.ntmps31
  go_wp2
  go_loop [3] (fun n => ∃ k : Nat, k ≤ o.data.length ∧ n = .int .i64 k ∧ (o.reset = false → ∀ j, j < k → o.st[j]? ≠ some 2)) (fun n => 70000 - (intOf n).toNat)
  case atStart => exact ⟨0, by omega, rfl, by intros; omega⟩
  case round =>
    obtain ⟨k, hk, rfl, hno⟩ := hrel
    have Hno := hide hno
    clear hno
    by_cases hlt : k < o.data.length
    · obtain ⟨g, x, rfl, hg, hx, hcell, _⟩ := hat k hlt
      clear hat
      by_cases hx' : x = 2
      · subst hx'
        cases hr : o.reset
        · rw [hr] at hc4
          have hres : Hid (o.again = true) := hide (by rw [HA.out, hr, decide_eq_true (Ob.lost_some hlt hx)]; rfl)
          clear hx hr
          go_wp2
          go_ret
          exact ⟨ret_bool hres.out.symm, 0, rfl⟩
        · rw [hr] at hc4
          have Hr := hide hr
          clear hx hr
          go_wp2
          go_round
          case rel => exact ⟨k + 1, by omega, by go_num, fun h => by cases h⟩
          case measure => simp [intOf]; omega
      · have hne : ((x.toNat : Int) == 2) = false := by rw [beq_u8z x 2 2 rfl]; simpa using hx'
        have Hn : Hid (o.reset = false → ∀ j, j < k + 1 → o.st[j]? ≠ some 2) := hide (fun h j hj => by
          by_cases e : j = k
          · subst e; rw [hx]; simpa using hx'
          · exact Hno.out h j (by omega))
        clear hx hx'
        go_wp2
        go_round
        case rel => exact ⟨k + 1, by omega, by go_num, Hn.out⟩
        case measure => simp [intOf]; omega
    · obtain rfl : o.data.length = k := by omega
      have hres : Hid (o.again = false) := hide (by
        rw [HA.out]
        cases hr : o.reset
        · rw [decide_eq_false (Ob.lost_never (Hno.out hr))]; rfl
        · rfl)
      clear hat
      go_wp2
      go_ret
      exact ⟨ret_bool hres.out.symm, 0, rfl⟩

theorem count_all {l : List UInt8} {c : UInt8} : Lib.countByte l c = l.length ↔ ∀ x ∈ l, x = c := by
  unfold Lib.countByte
  rw [List.count_eq_length]
  exact ⟨fun h x hx => (h x hx).symm, fun h x hx => (h x hx).symm⟩

theorem Ob.Good.done_iff {o : Ob} (h : o.Good) : o.done = true ↔ o.endv = 3 ∧ ∀ j, j < o.data.length → o.st[j]? = some 3 := by
  have hst := h.wf.stl
  unfold Ob.done Ob.endv
  cases he : o.ended
  · simp
  · rw [he] at hst
    simp only [Bool.toNat_true] at hst
    simp only [Bool.true_and, beq_iff_eq, if_true]
    rw [count_all]
    have hget : o.st.getD o.data.length 0 = o.st[o.data.length]'(by omega) := by simp [List.getD, List.getElem?_eq_getElem (show o.data.length < o.st.length by omega)]
    rw [hget]
    constructor
    · intro h
      refine ⟨?_, fun j hj => ?_⟩
      · rw [h _ (List.getElem_mem _)]; rfl
      · rw [List.getElem?_eq_getElem (by omega), h _ (List.getElem_mem _)]
    · rintro ⟨h1, h2⟩ x hx
      obtain ⟨j, hj, rfl⟩ := List.mem_iff_getElem.1 hx
      by_cases e : j < o.data.length
      · have := h2 j e
        rw [List.getElem?_eq_getElem (by omega)] at this
        exact Option.some.inj this
      · obtain rfl : j = o.data.length := by omega
        have h3 : (o.st[o.data.length]).toNat = (3 : UInt8).toNat := by
          have : ((3 : UInt8).toNat : Int) = 3 := rfl
          omega
        exact UInt8.toNat_inj.1 h3

set_option maxHeartbeats 1000000 in
theorem rdone_any (w : World) (r : Nat) (o : Ob) (H : Value) (h : RBox w r o H) :
    Calls Try.prog 29 #[.pointer (some ⟨r, 0, none⟩)] w fun e w' => e = .returned (.bool o.done) ∧ ∃ n, w' = w.drewN n := by
  have hc2 := h.c2
  have hc3 := h.c3
  have hsz := h.size
  obtain ⟨A, cap, rfl, hc, hcm, hat⟩ := h.form
  have HA := hide h.good.done_iff
  clear h
  go_enter Try.func29, Try.ntmps29
  go_wp2
  go_loop [3] (fun n => ∃ k : Nat, k ≤ o.data.length ∧ n = .int .i64 k ∧ ∀ j, j < k → o.st[j]? = some 3) (fun n => 70000 - (intOf n).toNat)
  case atStart => exact ⟨0, by omega, rfl, by intros; omega⟩
  case round =>
    obtain ⟨k, hk, rfl, hno⟩ := hrel
    have Hno := hide hno
    clear hno
    by_cases hlt : k < o.data.length
    · obtain ⟨g, x, rfl, hg, hx, hcell, _⟩ := hat k hlt
      clear hat
      by_cases hx' : x = 3
      · subst hx'
        have Hn : Hid (∀ j, j < k + 1 → o.st[j]? = some 3) := hide (fun j hj => by
          by_cases e : j = k
          · subst e; exact hx
          · exact Hno.out j (by omega))
        clear hx
        go_wp2
        go_round
        case rel => exact ⟨k + 1, by omega, by go_num, Hn.out⟩
        case measure => simp [intOf]; omega
      · have hne : ((x.toNat : Int) == 3) = false := by rw [beq_u8z x 3 3 rfl]; simpa using hx'
        have hne2 : ((x.toNat : Int) != 3) = true := by simp [bne, hne]
        have hres : Hid (o.done = false) := hide (by
          cases hd : o.done
          · rfl
          · have := (HA.out.1 hd).2 k hlt
            rw [hx] at this
            exact absurd (Option.some.inj this) hx')
        clear hx hx' hne
        go_wp2
        go_ret
        exact ⟨ret_bool hres.out.symm, 0, rfl⟩
    · obtain rfl : o.data.length = k := by omega
      have hres : Hid ((o.endv == 3) = o.done) := hide (by
        rw [Bool.eq_iff_iff, HA.out, beq_iff_eq]
        exact ⟨fun h => ⟨h, Hno.out⟩, fun h => h.1⟩)
      clear hat
      obtain ⟨v, hv⟩ : ∃ v, o.endv = v := ⟨_, rfl⟩
      rw [hv] at hc3 hres
      clear hv
      go_wp2
      go_ret
      exact ⟨ret_bool hres.out, 0, rfl⟩
end Go.Proofs.Ytnkhdipbljfohaa
