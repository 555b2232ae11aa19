/-
  pieces of one text: what an inbox holds of it; the pieces and the reads' counts that a statement is given, in memory.
-/
import Derived.Test.YtfbcbddfmiiilaaIbFinal
namespace Go.Proofs.Ytfbcbddfmiiilaa
open Go.RowKit

/-! ### rows of pairs, rows of bytes -/
def IsPcs (w : World) (a : Option Addr) (len : Nat) (l : List (Nat × Nat)) : Prop :=
  l.length = len ∧ len ≤ 9223372036854775807 ∧ (len = 0 ∨ ∃ b off, a = some ⟨b, off, none⟩ ∧ b < w.heap.size ∧
    ∀ i x, l[i]? = some x → x.1 ≤ 65535 ∧ x.2 ≤ 65535 ∧ w.cell? ⟨b, off + i * 2, none⟩ = some (.int .u16 (x.1 : Nat)) ∧ w.cell? ⟨b, off + i * 2 + 1, none⟩ = some (.int .u16 (x.2 : Nat)))
theorem IsPcs.at_ {w : World} {a : Option Addr} {len : Nat} {l : List (Nat × Nat)} (h : IsPcs w a len l) {i : Nat} (hi : i < len) :
    ∃ b off x, a = some ⟨b, off, none⟩ ∧ l[i]? = some x ∧ x.1 ≤ 65535 ∧ x.2 ≤ 65535 ∧ b < w.heap.size ∧ w.cell? ⟨b, off + i * 2, none⟩ = some (.int .u16 (x.1 : Nat)) ∧ w.cell? ⟨b, off + i * 2 + 1, none⟩ = some (.int .u16 (x.2 : Nat)) := by
  obtain ⟨h1, _, h2⟩ := h
  rcases h2 with h2 | ⟨b, off, rfl, hb, hc⟩
  · omega
  · obtain ⟨x, hx⟩ : ∃ x, l[i]? = some x := ⟨_, List.getElem?_eq_getElem (by omega)⟩
    obtain ⟨k1, k2, k3, k4⟩ := hc i x hx
    exact ⟨b, off, x, rfl, hx, k1, k2, hb, k3, k4⟩
theorem IsPcs.mod {W w : World} {a : Option Addr} {len : Nat} {l : List (Nat × Nat)} (h : IsPcs W a len l) (hm : Mod [] W w) : IsPcs w a len l := by
  obtain ⟨h1, h2, h3⟩ := h
  refine ⟨h1, h2, ?_⟩
  rcases h3 with h3 | ⟨b, off, rfl, hb, hc⟩
  · exact .inl h3
  · refine .inr ⟨b, off, rfl, Nat.lt_of_lt_of_le hb hm.size, fun i x hx => ?_⟩
    obtain ⟨k1, k2, k3, k4⟩ := hc i x hx
    exact ⟨k1, k2, (hm.cell (by exact hb) (by simp)).trans k3, (hm.cell (by exact hb) (by simp)).trans k4⟩

def IsBytes (w : World) (a : Option Addr) (len : Nat) (l : List Nat) : Prop :=
  l.length = len ∧ len ≤ 9223372036854775807 ∧ (len = 0 ∨ ∃ b off, a = some ⟨b, off, none⟩ ∧ b < w.heap.size ∧
    ∀ i x, l[i]? = some x → x ≤ 255 ∧ w.cell? ⟨b, off + i, none⟩ = some (.int .u8 (x : Nat)))
theorem IsBytes.at_ {w : World} {a : Option Addr} {len : Nat} {l : List Nat} (h : IsBytes w a len l) {i : Nat} (hi : i < len) :
    ∃ b off x, a = some ⟨b, off, none⟩ ∧ l[i]? = some x ∧ x ≤ 255 ∧ b < w.heap.size ∧ w.cell? ⟨b, off + i, none⟩ = some (.int .u8 (x : Nat)) := by
  obtain ⟨h1, _, h2⟩ := h
  rcases h2 with h2 | ⟨b, off, rfl, hb, hc⟩
  · omega
  · obtain ⟨x, hx⟩ : ∃ x, l[i]? = some x := ⟨_, List.getElem?_eq_getElem (by omega)⟩
    obtain ⟨k1, k2⟩ := hc i x hx
    exact ⟨b, off, x, rfl, hx, k1, hb, k2⟩
theorem IsBytes.mod {W w : World} {a : Option Addr} {len : Nat} {l : List Nat} (h : IsBytes W a len l) (hm : Mod [] W w) : IsBytes w a len l := by
  obtain ⟨h1, h2, h3⟩ := h
  refine ⟨h1, h2, ?_⟩
  rcases h3 with h3 | ⟨b, off, rfl, hb, hc⟩
  · exact .inl h3
  · refine .inr ⟨b, off, rfl, Nat.lt_of_lt_of_le hb hm.size, fun i x hx => ?_⟩
    obtain ⟨k1, k2⟩ := hc i x hx
    exact ⟨k1, (hm.cell (by exact hb) (by simp)).trans k2⟩

section
open Go.ChangeShapes Go.WideShapes Go.Deep
variable {H : Type} {enc : TypeId × Value → H} {w : World} {base : Nat} {held : Bool}
theorem open_pieces {v : Value} {d : DataW H} {p : List MemPlace} {r : Reach} {b0 : Nat} (hv : Value.okWide Try.prog w r b0 22 v) (h : DataW.Trod enc Try.prog w base (fun _ => true) held 22 v d p) :
    ∃ a len cap l, v = .slice a len cap ∧ IsPcs w a len l := by
  obtain ⟨a, len, cap, rfl⟩ := okWide_slice Try.underlying22 hv
  obtain ⟨fuel, hf⟩ := h
  have hC : Try.prog.cellsOf 29 = 2 := by kernel_rfl
  have hC1 : Try.prog.cellsOf 28 = 1 := by kernel_rfl
  rcases open_slice Try.underlying22 hf with ⟨hcs, _⟩ | ⟨x, l, c, m, n, D, Pl, hcs, _, hl, hm, hmm, _, hi⟩
  · simp [Value.cells] at hcs
    obtain ⟨rfl, rfl, rfl⟩ := hcs
    exact ⟨none, 0, 0, [], rfl, rfl, by omega, .inl rfl⟩
  · simp [Value.cells] at hcs
    obtain ⟨rfl, rfl, rfl⟩ := hcs
    simp only [if_true] at hmm
    subst hmm
    have hex : ∀ i, i < len → ∃ y : Nat × Nat, y.1 ≤ 65535 ∧ y.2 ≤ 65535 ∧ w.cell? (x.add (i * 2)) = some (.int .u16 (y.1 : Nat)) ∧ w.cell? (x.add (i * 2 + 1)) = some (.int .u16 (y.2 : Nat)) := by
      intro i hil
      obtain ⟨cs', hc, ht⟩ := hi i (by omega)
      rw [hC] at hc
      obtain ⟨_, hcl, hat⟩ := World.cells?_some hc
      obtain ⟨xs, m', _, _, _, hxl, hf⟩ := DataW.trod_array Try.underlying29 ht
      have g : ∀ j, j < 2 → ∃ z : Nat, z ≤ 65535 ∧ w.cell? (x.add (i * 2 + j)) = some (.int .u16 (z : Nat)) := by
        intro j hj
        have h1 := hf j hj
        rw [hC1, Nat.mul_one] at h1
        have hone' : (cs'.drop j).take 1 = [cs'[j]'(by omega)] := by
          rw [List.drop_eq_getElem_cons (by omega)]
          rfl
        rw [hone', List.getElem?_eq_getElem (by omega)] at h1
        obtain ⟨z, e0, _, w0⟩ := DataW.trod_int Try.underlying28 h1
        simp only [List.cons.injEq, and_true] at e0
        have b0 := bounds_u16 w0
        obtain ⟨u, rfl⟩ := Int.eq_ofNat_of_zero_le b0.1
        refine ⟨u, by omega, ?_⟩
        have := hat j hj
        rw [List.getElem?_eq_getElem (by omega), e0, Go.Deep.add_add] at this
        exact this
      obtain ⟨z0, q0, r0⟩ := g 0 (by omega)
      obtain ⟨z1, q1, r1⟩ := g 1 (by omega)
      exact ⟨(z0, z1), q0, q1, r0, r1⟩
    obtain ⟨L, hL, hP⟩ := exists_list hex
    refine ⟨some x, len, _, L, rfl, hL, by simp only [maxLen] at hm; omega, ?_⟩
    rcases Nat.eq_zero_or_pos len with h0 | h0
    · exact .inl h0
    · right
      obtain ⟨b, off, spot⟩ := x
      obtain ⟨y, hy⟩ : ∃ y, L[0]? = some y := ⟨_, List.getElem?_eq_getElem (by omega)⟩
      have hc0 := (hP 0 y hy).2.2.1
      have hspot : spot = none := by simpa [Addr.add] using World.cell?_spot hc0
      subst hspot
      refine ⟨b, off, rfl, World.block_lt_of_cell? w _ hc0, fun i z hz => ?_⟩
      obtain ⟨p1, p2, p3, p4⟩ := hP i z hz
      rw [Addr.add_lit] at p3 p4
      exact ⟨p1, p2, p3, by rw [Nat.add_assoc]; exact p4⟩
theorem open_counts {v : Value} {d : DataW H} {p : List MemPlace} {r : Reach} {b0 : Nat} (hv : Value.okWide Try.prog w r b0 23 v) (h : DataW.Trod enc Try.prog w base (fun _ => true) held 23 v d p) :
    ∃ a len cap l, v = .slice a len cap ∧ IsBytes w a len l := by
  obtain ⟨a, len, cap, rfl⟩ := okWide_slice Try.underlying23 hv
  obtain ⟨fuel, hf⟩ := h
  have hC1 : Try.prog.cellsOf 5 = 1 := by kernel_rfl
  rcases open_slice1 Try.underlying23 hC1 hf with ⟨hcs, _⟩ | ⟨x, l, c, m, n, V, D, Pl, hcs, _, hl, hm, hmm, _, hi⟩
  · simp [Value.cells] at hcs
    obtain ⟨rfl, rfl, rfl⟩ := hcs
    exact ⟨none, 0, 0, [], rfl, rfl, by omega, .inl rfl⟩
  · simp [Value.cells] at hcs
    obtain ⟨rfl, rfl, rfl⟩ := hcs
    simp only [if_true] at hmm
    subst hmm
    have hex : ∀ i, i < len → ∃ y : Nat, y ≤ 255 ∧ w.cell? (x.add i) = some (.int .u8 (y : Nat)) := by
      intro i hil
      obtain ⟨hc, ht⟩ := hi i (by omega)
      obtain ⟨z, e0, _, w0⟩ := DataW.trod_int Try.underlying5 ht
      simp only [List.cons.injEq, and_true] at e0
      have b0 := bounds_u8 w0
      obtain ⟨u, rfl⟩ := Int.eq_ofNat_of_zero_le b0.1
      exact ⟨u, by omega, by rw [hc, e0]⟩
    obtain ⟨L, hL, hP⟩ := exists_list hex
    refine ⟨some x, len, _, L, rfl, hL, by simp only [maxLen] at hm; omega, ?_⟩
    rcases Nat.eq_zero_or_pos len with h0 | h0
    · exact .inl h0
    · right
      obtain ⟨b, off, spot⟩ := x
      obtain ⟨y, hy⟩ : ∃ y, L[0]? = some y := ⟨_, List.getElem?_eq_getElem (by omega)⟩
      have hc0 := (hP 0 y hy).2
      have hspot : spot = none := by simpa [Addr.add] using World.cell?_spot hc0
      subst hspot
      refine ⟨b, off, rfl, World.block_lt_of_cell? w _ hc0, fun i z hz => ?_⟩
      obtain ⟨p1, p2⟩ := hP i z hz
      rw [Addr.add_lit] at p2
      exact ⟨p1, p2⟩
end

/-! ### what an inbox holds of a text -/
structure TextIn (T : List UInt8) (o : Ib) : Prop where
  lim : o.limit = 1000
  rs : o.reset = false
  kn : o.known = true → o.final = T.length
  far : o.far ≤ T.length
  B : ∀ m c, o.B m = some c → T[m]? = some c
theorem TextIn.fresh (T : List UInt8) : TextIn T (Ib.fresh 1000) := ⟨by decide, rfl, fun h => (by cases h), Nat.zero_le _, fun _ _ h => (by cases h)⟩

theorem TextIn.err {T : List UInt8} {o : Ib} (h : TextIn T o) (hT : T.length ≤ 300) {lo hi : Nat} {fin : Bool} (h1 : lo ≤ hi) (h2 : hi ≤ T.length) (hf : fin = true → hi = T.length) : o.putErr lo (hi - lo) fin = 0 := by
  have := h.lim
  have := h.far
  refine putErr_zero (by omega) (by omega) (fun hk => ?_) (fun hk => ?_)
  · have := h.kn hk
    exact ⟨by omega, fun hk => by have := hf hk; omega⟩
  · have := hf hk; omega

theorem TextIn.put {T : List UInt8} {o o' : Ib} (h : TextIn T o) (hT : T.length ≤ 300) {lo hi : Nat} {fin : Bool} (h1 : lo ≤ hi) (h2 : hi ≤ T.length) (hf : fin = true → hi = T.length) (hp : Put o lo ((T.drop lo).take (hi - lo)) fin o') :
    TextIn T o' ∧ o'.taken = o.taken ∧ o'.known = (o.known || fin) ∧ o'.far = max o.far hi ∧ o'.supp.length ≤ o.supp.length + 300 ∧ (∀ m, (o'.B m).isSome = true ↔ (o.B m).isSome = true ∨ (lo ≤ m ∧ m < hi)) := by
  have hD : ((T.drop lo).take (hi - lo)).length = hi - lo := by rw [List.length_take, List.length_drop]; omega
  have h0 : o.putErr lo ((T.drop lo).take (hi - lo)).length fin = 0 := by rw [hD]; exact h.err hT h1 h2 hf
  have hs := hp.supp
  obtain ⟨he, _⟩ := hp.new h0 h.rs
  rw [hD] at he hs
  have hB : o'.B = over o.B lo ((T.drop lo).take (hi - lo)) := by rw [he]
  refine ⟨⟨by rw [he]; exact h.lim, by rw [he]; exact h.rs, fun hk => ?_, ?_, fun m c hc => ?_⟩, by rw [he]; rfl, by rw [he]; rfl, ?_, by omega, fun m => ?_⟩
  · rw [he] at hk ⊢
    show (if fin then lo + (hi - lo) else o.final) = _
    split
    · rename_i hfin; have := hf hfin; omega
    · rename_i hfin
      refine h.kn ?_
      have : (o.known || fin) = true := hk
      simpa [hfin] using this
  · rw [he]
    show max o.far (lo + (hi - lo)) ≤ _
    have := h.far
    omega
  · rw [hB] at hc
    unfold over at hc
    cases ho : o.B m with
    | some c' =>
      rw [ho] at hc
      simp at hc
      subst hc
      exact h.B m _ ho
    | none =>
      rw [ho, Option.none_or] at hc
      split at hc
      · rename_i hle
        rw [List.getElem?_take] at hc
        split at hc
        · rw [List.getElem?_drop] at hc
          rw [show lo + (m - lo) = m by omega] at hc
          exact hc
        · cases hc
      · cases hc
  · rw [he]
    show max o.far (lo + (hi - lo)) = _
    rw [show lo + (hi - lo) = hi by omega]
  · rw [hB, over_isSome, hD]
    rw [show lo + (hi - lo) = hi by omega]

theorem TextIn.run {T : List UInt8} {o : Ib} (h : TextIn T o) (hwf : o.WF) {a b : Nat} (hb : b ≤ o.ready) : run o.B a b = (T.drop a).take (b - a) := by
  apply List.ext_getElem?
  intro i
  rw [run_get, List.getElem?_take]
  split
  · rename_i hi
    have hs := hwf.fill (a + i) (by omega)
    obtain ⟨c, hc⟩ := Option.isSome_iff_exists.1 hs
    rw [List.getElem?_drop, h.B _ _ hc, hc]
    rfl
  · rfl
theorem TextIn.ready_le {T : List UInt8} {o : Ib} (h : TextIn T o) (hwf : o.WF) : o.ready ≤ T.length := Nat.le_trans hwf.rd h.far
end Go.Proofs.Ytfbcbddfmiiilaa
