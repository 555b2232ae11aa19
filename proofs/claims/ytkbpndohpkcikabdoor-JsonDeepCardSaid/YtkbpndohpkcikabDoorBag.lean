/-
  A region that draws its order: operations that may come in any order, each of which keeps an invariant (a map literal's insertions).
-/
import Derived.Test.YtkbpndohpkcikabDoorMem
import Derived.Deep.RegionHeld3
namespace Go.Proofs.YtkbpndohpkcikabDoor
open Go.RowKit

section
variable {P : Program} {ops : Array Oper} {Q : Exit → Act → World → Prop} {md : Region.Mode} {S : World → Prop}

/-- what has not come up: rem, and tail -/
def Lst (ops : Array Oper) (tail rem : List Nat) (listed : Array Bool) : Prop := listed.size = ops.size ∧ ∀ j, j < ops.size → (listed.getD j true = false ↔ (j ∈ rem ∨ j ∈ tail))

theorem Lst.same {tail rem : List Nat} {l l' : Array Bool} (h : Lst ops tail rem l) (h' : Lst ops tail rem l') : l = l' := by
  apply Array.ext
  · rw [h.1, h'.1]
  · intro i h1 h2
    have e1 := h.2 i (by rw [← h.1]; exact h1)
    have e2 := h'.2 i (by rw [← h.1]; exact h1)
    simp only [Array.getD, h1, h2, dite_true] at e1 e2
    have : (l[i] = false) ↔ (l'[i] = false) := e1.trans e2.symm
    cases hl : l[i] <;> cases hl' : l'[i] <;> simp_all

theorem take_dst {i : Nat} {oi : Oper} {v : Value} {fuel : Nat} {listed : Array Bool} {a : Act} {w : World} (d : Nat) (hi : ops[i]? = some oi) (hd : oi.dst = some d)
    (hs : Region.noSelect ops = true) (hf : Region.free md ops listed i = true) (hr : (Region.ready md ops listed).contains i = true)
    (hQ : ∀ c a w, Q (.panic c) (a.put (some d) v) w → Q (.panic c) a w) (hy : YieldsIf P ops S oi v a) (hS : S w)
    (h : wpAnyH P md ops Q S fuel (listed.setIfInBounds i true) (a.put (some d) v) w) : wpAnyH P md ops Q S (fuel + 1) listed a w :=
  wpAnyH_take hi hs hf hr (by rw [hd]; exact hQ) hy hS (by rw [hd]; exact h)

theorem wpAnyH_bag (tail : List Nat) (rem0 : List Nat) (Inv : List Nat → World → Prop) (L0 : Array Bool) (fuel0 : Nat) (a : Act)
    (hlt : ∀ i ∈ rem0, i < ops.size) (hdis : ∀ i ∈ rem0, i ∉ tail)
    (hdeps : ∀ i ∈ rem0, ∃ o, ops[i]? = some o ∧ ∀ e ∈ o.after, Region.binds md e = true → e.on < ops.size ∧ e.on ∉ rem0 ∧ e.on ∉ tail)
    (htail : ∀ j ∈ tail, ∃ o, ops[j]? = some o ∧ ((∀ i ∈ rem0, ∃ e ∈ o.after, Region.binds md e = true ∧ e.on = i) ∨ ∃ e ∈ o.after, Region.binds md e = true ∧ e.on ∈ tail ∧ e.on < ops.size))
    (hstep : ∀ rem i w, i ∈ rem → rem.Nodup → (∀ j ∈ rem, j ∈ rem0) → Inv rem w → S w → wpOp P ops Q i (fun a' w' => a' = a ∧ S w' ∧ Inv (rem.erase i) w') a w)
    (hL0 : Lst ops tail [] L0) (hend : ∀ w, Inv [] w → S w → wpAnyH P md ops Q S fuel0 L0 a w) :
    ∀ (n : Nat) (rem : List Nat) (listed : Array Bool) (w : World), rem.length = n → rem.Nodup → (∀ j ∈ rem, j ∈ rem0) → Lst ops tail rem listed → Inv rem w → S w → wpAnyH P md ops Q S (fuel0 + n) listed a w := by
  intro n
  induction n with
  | zero =>
    intro rem listed w hn _ _ hl hi hS
    obtain rfl := List.eq_nil_of_length_eq_zero hn
    rw [hl.same hL0]
    exact hend w hi hS
  | succ n ih =>
    intro rem listed w hn hnd hsub hl hi hS
    have lstF : ∀ j, j < ops.size → j ∉ rem → j ∉ tail → listed.getD j false = true := fun j hj h1 h2 => by
      have := hl.2 j hj
      have hjl : j < listed.size := by rw [hl.1]; exact hj
      simp only [Array.getD, hjl, dite_true] at this ⊢
      cases hb : listed[j] with
      | true => exact hb
      | false => rcases this.1 hb with h | h <;> contradiction
    have lstT : ∀ j, j < ops.size → (j ∈ rem ∨ j ∈ tail) → listed.getD j false = false := fun j hj h => by
      have := (hl.2 j hj).2 h
      have hjl : j < listed.size := by rw [hl.1]; exact hj
      simp only [Array.getD, hjl, dite_true] at this ⊢
      exact this
    refine ⟨fun h0 => ?_, fun i hi' => ?_⟩
    · exfalso
      cases rem with
      | nil => simp at hn
      | cons r rs =>
        have hr0 := hsub r (by simp)
        obtain ⟨o, ho, hd⟩ := hdeps r hr0
        have : r ∈ Region.ready md ops listed := mem_ready.2 ⟨(hl.2 r (hlt r hr0)).2 (.inl (by simp)), o, ho, fun e he hb => by
          obtain ⟨q1, q2, q3⟩ := hd e he hb
          exact lstF e.on q1 (fun h => q2 (hsub _ h)) q3⟩
        rw [h0] at this
        cases this
    · obtain ⟨h1, o, ho, hall⟩ := mem_ready.1 hi'
      have hio : i < ops.size := by
        rcases Nat.lt_or_ge i ops.size with h | h
        · exact h
        · rw [Array.getElem?_eq_none h] at ho; cases ho
      have him : i ∈ rem := by
        rcases (hl.2 i hio).1 h1 with h | h
        · exact h
        · exfalso
          obtain ⟨o', ho', hd⟩ := htail i h
          rw [ho] at ho'
          cases ho'
          rcases hd with hd | ⟨e, he, hb, ht, hlt'⟩
          · cases rem with
            | nil => simp at hn
            | cons r rs =>
              obtain ⟨e, he, hb, rfl⟩ := hd r (hsub r (by simp))
              have := hall e he hb
              rw [lstT _ (hlt _ (hsub _ (by simp))) (.inl (by simp))] at this
              cases this
          · have := hall e he hb
            rw [lstT _ hlt' (.inr ht)] at this
            cases this
      refine wpOp_mono (fun a' w' h => ?_) (hstep rem i w him hnd hsub hi hS)
      obtain ⟨rfl, hS', hi2⟩ := h
      refine ⟨hS', ih (rem.erase i) _ w' (by rw [List.length_erase_of_mem him]; omega) (hnd.erase i) (fun j hj => hsub j (List.mem_of_mem_erase hj)) ⟨by simp [hl.1], fun j hj => ?_⟩ hi2 hS'⟩
      have hil : i < listed.size := by rw [hl.1]; exact hio
      have hjl : j < listed.size := by rw [hl.1]; exact hj
      have e1 := hl.2 j hj
      by_cases hij : i = j
      · subst hij
        have h0 : i ∉ rem.erase i := fun h => by rw [hnd.mem_erase_iff] at h; exact h.1 rfl
        have h2 := hdis i (hsub i him)
        have h3 : (listed.setIfInBounds i true).getD i true = true := by simp [Array.getD, hil]
        rw [h3]
        simp [h0, h2]
      · rw [getD_set_ne true hij, e1, List.mem_erase_of_ne (Ne.symm hij)]
end
end Go.Proofs.YtkbpndohpkcikabDoor
