/-
  Contracts and plain laws that the proofs of this seat share, part 6 of 11: Until, Bag, StB, StC.
-/
import Derived.Test.YtjdfemfobcjecaaGreatG1
import Derived.Deep.RegionHeld
import Derived.Deep.RegionHeld3
import Derived.Test.YtjdfemfobcjecaaGreatG5

/-
  A region's order, where what its loads read is turned by its last stores: a fact on the world that holds until the first of these is carried out.
-/
namespace Go.Proofs.YtjdfemfobcjecaaGreat
open Go.RowKit

section
variable {P : Program} {ops : Array Oper} {Q : Exit → Act → World → Prop} {md : Region.Mode} {st : List Nat} {S : World → Prop}
/-- none of the late ones has come up -/
def early (st : List Nat) (listed : Array Bool) : Bool := st.all fun j => !listed.getD j false
/-- what an operation waits for -/
def nxt (md : Region.Mode) (ops : Array Oper) (k : Nat) : List Nat := match ops[k]? with
  | some o => (o.after.toList.filter (Region.binds md)).map fun e => e.on
  | none => []
def reach (md : Region.Mode) (ops : Array Oper) : Nat → List Nat → List Nat
  | 0, l => l
  | n + 1, l => reach md ops n (l ++ ((l.flatMap (nxt md ops)).filter fun x => !l.contains x).eraseDups)
/-- each of the late ones waits for this one, straight or not -/
def waits (md : Region.Mode) (ops : Array Oper) (st : List Nat) (i : Nat) : Bool := st.all fun j => (reach md ops 6 (nxt md ops j)).contains i
/-- what has come up waited for what has come up -/
def Closed (md : Region.Mode) (ops : Array Oper) (listed : Array Bool) : Prop := ∀ k, listed.getD k false = true → ∀ x ∈ nxt md ops k, listed.getD x false = true
def closedB (md : Region.Mode) (ops : Array Oper) (listed : Array Bool) : Bool := (List.range listed.size).all fun k => !listed.getD k false || (nxt md ops k).all fun x => listed.getD x false
theorem closed_of {md : Region.Mode} {ops : Array Oper} {listed : Array Bool} (h : closedB md ops listed = true) : Closed md ops listed := by
  intro k hk x hx
  have hlt : k < listed.size := by
    rcases Nat.lt_or_ge k listed.size with h' | h'
    · exact h'
    · simp [Array.getElem?_eq_none h'] at hk
  have h1 := List.all_eq_true.1 h k (List.mem_range.2 hlt)
  rw [hk, Bool.not_true, Bool.false_or] at h1
  exact List.all_eq_true.1 h1 x hx
theorem reach_listed {md : Region.Mode} {ops : Array Oper} {listed : Array Bool} (hc : Closed md ops listed) : ∀ (n : Nat) (l : List Nat), (∀ x ∈ l, listed.getD x false = true) → ∀ x ∈ reach md ops n l, listed.getD x false = true
  | 0, l, h => h
  | n + 1, l, h => by
    rw [reach]
    refine reach_listed hc n _ fun x hx => ?_
    rcases List.mem_append.1 hx with hx | hx
    · exact h x hx
    · rw [List.mem_eraseDups, List.mem_filter, List.mem_flatMap] at hx
      obtain ⟨⟨k, hk, hkx⟩, _⟩ := hx
      exact hc k (h k hk) x hkx
theorem nxt_ready {md : Region.Mode} {ops : Array Oper} {listed : Array Bool} {j : Nat} (hj : j ∈ Region.ready md ops listed) : ∀ x ∈ nxt md ops j, listed.getD x false = true := by
  intro x hx
  obtain ⟨_, o, ho, hall⟩ := mem_ready.1 hj
  unfold nxt at hx
  rw [ho] at hx
  simp only [List.mem_map, List.mem_filter] at hx
  obtain ⟨e, ⟨he, hb⟩, rfl⟩ := hx
  exact hall e (by simpa using he) hb
theorem closed_set {md : Region.Mode} {ops : Array Oper} {listed : Array Bool} {j : Nat} (hc : Closed md ops listed) (hj : j ∈ Region.ready md ops listed) : Closed md ops (listed.setIfInBounds j true) := by
  intro k hk x hx
  apply getD_set_true
  by_cases hjk : j = k
  · subst hjk; exact nxt_ready hj x hx
  · rw [getD_set_ne false hjk] at hk
    exact hc k hk x hx
def Until (st : List Nat) (S : World → Prop) (listed : Array Bool) (w : World) : Prop := early st listed = true → S w
def wpAnyU (P : Program) (md : Region.Mode) (ops : Array Oper) (Q : Exit → Act → World → Prop) (st : List Nat) (S : World → Prop) : Nat → Array Bool → Act → World → Prop
  | 0, listed, a, w => Region.ready md ops listed = [] ∧ Q .normal a w
  | fuel + 1, listed, a, w => (Region.ready md ops listed = [] → Q .normal a w) ∧
    ∀ i ∈ Region.ready md ops listed, wpOp P ops Q i (fun a' w' => Until st S (listed.setIfInBounds i true) w' ∧ wpAnyU P md ops Q st S fuel (listed.setIfInBounds i true) a' w') a w
theorem wpAny_of_until : ∀ (fuel : Nat) (listed : Array Bool) (a : Act) (w : World), wpAnyU P md ops Q st S fuel listed a w → wpAny P md ops Q fuel listed a w
  | 0, _, _, _, h => h
  | fuel + 1, _, _, _, h => ⟨h.1, fun i hi => wpOp_mono (fun a' w' h' => wpAny_of_until fuel _ a' w' h'.2) (h.2 i hi)⟩
theorem early_set {listed : Array Bool} {j : Nat} (h : early st listed = true) (hj : j ∉ st) : early st (listed.setIfInBounds j true) = true := by
  unfold early at h ⊢
  rw [List.all_eq_true] at h ⊢
  intro k hk
  have hjk : j ≠ k := fun e => hj (e ▸ hk)
  rw [getD_set_ne false hjk]
  exact h k hk
theorem wpAnyU_first {i : Nat} {oi : Oper} {v : Value} (hi : ops[i]? = some oi) (hsel : ∀ (j : Nat) (o : Oper) cs b, ops[j]? = some o → o.op ≠ .select cs b)
    (hQ : ∀ c a w, Q (.panic c) (a.put oi.dst v) w → Q (.panic c) a w) (hwt : waits md ops st i = true) (hist : i ∉ st) :
    ∀ (fuel : Nat) (listed : Array Bool) (a : Act) (w : World),
      (∀ j oj, ops[j]? = some oj → j ≠ i → listed.getD j true = false → (∀ e ∈ oj.after, Region.binds md e = true → e.on ≠ i) → oi.apart ops oj = true) → early st listed = true → Closed md ops listed →
      i ∈ Region.ready md ops listed → YieldsIf P ops S oi v a → S w →
      wpAnyU P md ops Q st S fuel (listed.setIfInBounds i true) (a.put oi.dst v) w → wpAnyU P md ops Q st S (fuel + 1) listed a w := by
  intro fuel
  induction fuel with
  | zero =>
    intro listed a w _ _ _ hr hy hS H
    refine ⟨fun h => (by rw [h] at hr; cases hr), fun j hj => ?_⟩
    by_cases hji : j = i
    · subst hji; exact hy.wpOp hi hS ⟨fun _ => hS, H⟩
    · have := ready_mono hj hji
      rw [H.1] at this
      cases this
  | succ fuel ih =>
    intro listed a w hfree hea hcl hr hy hS H
    refine ⟨fun h => (by rw [h] at hr; cases hr), fun j hj => ?_⟩
    by_cases hji : j = i
    · subst hji; exact hy.wpOp hi hS ⟨fun _ => hS, H⟩
    · have h1 := H.2 j (ready_mono hj hji)
      obtain ⟨hjun, oj, hoj, hall⟩ := mem_ready.1 hj
      have hnot : ∀ e ∈ oj.after, Region.binds md e = true → e.on ≠ i := fun e he hb heq => by
        have h2 := hall e he hb
        have h3 := (mem_ready.1 hr).1
        rw [heq] at h2
        rcases Nat.lt_or_ge i listed.size with h' | h'
        · simp [h'] at h2 h3; rw [h3] at h2; cases h2
        · simp [Array.getElem?_eq_none h'] at h2
      have hjst : j ∉ st := fun hm => by
        have h2 := List.all_eq_true.1 hwt j hm
        have h3 := reach_listed hcl 6 _ (nxt_ready hj) i (by simpa using h2)
        have h4 := (mem_ready.1 hr).1
        rcases Nat.lt_or_ge i listed.size with h' | h'
        · simp [h'] at h3 h4; rw [h4] at h3; cases h3
        · simp [Array.getElem?_eq_none h'] at h3
      have hea' := early_set hea hjst
      have h2 := wpOp_putIf hoj (hfree j oj hoj hji hjun hnot) (fun cs b => hsel i oi cs b hi) (fun cs b => hsel j oj cs b hoj) hQ hy h1
      have hfree' : ∀ k ok, ops[k]? = some ok → k ≠ i → (listed.setIfInBounds j true).getD k true = false →
          (∀ e ∈ ok.after, Region.binds md e = true → e.on ≠ i) → oi.apart ops ok = true := fun k ok hk hki hun hno => by
        refine hfree k ok hk hki ?_ hno
        by_cases hjk : j = k
        · subst hjk; exact hjun
        · rw [getD_set_ne true hjk] at hun; exact hun
      refine wpOp_mono (fun a' w' h3 => ?_) h2
      have hS' : S w' := h3.2.1 (by rw [Array.setIfInBounds_comm _ _ (Ne.symm hji)]; exact early_set hea' hist)
      refine ⟨fun _ => hS', ih (listed.setIfInBounds j true) a' w' hfree' hea' (closed_set hcl hj) (ready_mono hr (Ne.symm hji)) h3.1 hS' ?_⟩
      rw [Array.setIfInBounds_comm _ _ hji]
      exact h3.2.2
/-- one that only reads is taken first -/
theorem takeU {i : Nat} {oi : Oper} {v : Value} {fuel : Nat} {listed : Array Bool} {a : Act} {w : World} (d : Nat) (hi : ops[i]? = some oi) (hd : oi.dst = some d)
    (hs : Region.noSelect ops = true) (hf : Region.free md ops listed i = true) (hr : (Region.ready md ops listed).contains i = true) (hwt : (waits md ops st i && early st listed && !st.contains i && closedB md ops listed) = true)
    (hQ : ∀ c a w, Q (.panic c) (a.put (some d) v) w → Q (.panic c) a w) (hy : YieldsIf P ops S oi v a) (hS : S w)
    (h : wpAnyU P md ops Q st S fuel (listed.setIfInBounds i true) (a.put (some d) v) w) : wpAnyU P md ops Q st S (fuel + 1) listed a w := by
  simp only [Bool.and_eq_true, Bool.not_eq_true'] at hwt
  exact wpAnyU_first hi (Region.noSelect_spec hs) (by rw [hd]; exact hQ) hwt.1.1.1 (fun hm => by have := hwt.1.2; simp at this; exact this hm) fuel listed a w (Region.free_spec hi hf) hwt.1.1.2 (closed_of hwt.2) (by simpa using hr) hy hS (by rw [hd]; exact h)
def AllReadyU (P : Program) (md : Region.Mode) (ops : Array Oper) (Q : Exit → Act → World → Prop) (st : List Nat) (S : World → Prop) (fuel : Nat) (listed : Array Bool) (a : Act) (w : World) (rs : List Nat) : Prop :=
  ∀ i ∈ rs, wpOp P ops Q i (fun a' w' => Until st S (listed.setIfInBounds i true) w' ∧ wpAnyU P md ops Q st S fuel (listed.setIfInBounds i true) a' w') a w
theorem AllReadyU.nil {fuel : Nat} {listed : Array Bool} {a : Act} {w : World} : AllReadyU P md ops Q st S fuel listed a w [] := fun _ h => by cases h
theorem AllReadyU.cons {fuel : Nat} {listed : Array Bool} {a : Act} {w : World} {i : Nat} {o : Oper} {rs : List Nat} (ho : ops[i]? = some o)
    (h : ∀ K' : Act → World → Prop, Hid (∀ a w, Until st S (listed.setIfInBounds i true) w → wpAnyU P md ops Q st S fuel (listed.setIfInBounds i true) a w → K' a w) → if Region.wanted o (yielded ops a.tmps) = true then Oper.wp P o a w K' Q else K' (a.put o.dst undef) w)
    (hs : AllReadyU P md ops Q st S fuel listed a w rs) : AllReadyU P md ops Q st S fuel listed a w (i :: rs) := fun j hj => by
  rcases List.mem_cons.1 hj with rfl | hj
  · exact wpOp_step ho (fun K' hK => h K' (hide (fun a w hS hW => hK a w ⟨hS, hW⟩)))
  · exact hs j hj
theorem wpAnyU_ready {rs : List Nat} {fuel : Nat} {listed : Array Bool} {a : Act} {w : World} (hr : Region.ready md ops listed = rs) (hne : rs ≠ [])
    (h : AllReadyU P md ops Q st S fuel listed a w rs) : wpAnyU P md ops Q st S (fuel + 1) listed a w := ⟨fun h0 => absurd (hr ▸ h0) hne, hr ▸ h⟩
theorem wpAnyU_done {listed : Array Bool} {a : Act} {w : World} (hr : Region.ready md ops listed = []) (h : Q .normal a w) : ∀ fuel, wpAnyU P md ops Q st S fuel listed a w
  | 0 => ⟨hr, h⟩
  | _ + 1 => ⟨fun _ => h, by rw [hr]; simp⟩
theorem wp_region_until {id : Nat} {a : Act} {w : World} (st : List Nat) (S : World → Prop) (hm : P.follows .mixedOrders = true)
    (h : wpAnyU P .any ops Q st S ops.size (Array.replicate ops.size false) a w.drew) : (Code.region id ops true).wp P Q a w :=
  wp_region_any hm (wpAny_of_until _ _ _ _ h)
end
end Go.Proofs.YtjdfemfobcjecaaGreat

/-
  A region that draws its order: operations that may come in any order, each of which keeps an invariant (a map literal's insertions).
-/
namespace Go.Proofs.YtjdfemfobcjecaaGreat
open Go.RowKit

section
variable {P : Program} {ops : Array Oper} {Q : Exit → Act → World → Prop} {md : Region.Mode} {S : World → Prop}

/-- what has not come up: rem, and tail -/
def Lst (ops : Array Oper) (tail rem : List Nat) (listed : Array Bool) : Prop := listed.size = ops.size ∧ ∀ j, j < ops.size → (listed.getD j true = false ↔ (j ∈ rem ∨ j ∈ tail))

theorem Lst.same {tail rem : List Nat} {l l' : Array Bool} (h : Lst ops tail rem l) (h' : Lst ops tail rem l') : l = l' := by
  apply Array.ext
  · rw [h.1, h'.1]
  · intro i h1 h2
    have e1 := h.2 i (by rw [← h.1]; exact h1)
    have e2 := h'.2 i (by rw [← h.1]; exact h1)
    simp only [Array.getD, h1, h2, dite_true] at e1 e2
    have : (l[i] = false) ↔ (l'[i] = false) := e1.trans e2.symm
    cases hl : l[i] <;> cases hl' : l'[i] <;> simp_all

theorem take_dst {i : Nat} {oi : Oper} {v : Value} {fuel : Nat} {listed : Array Bool} {a : Act} {w : World} (d : Nat) (hi : ops[i]? = some oi) (hd : oi.dst = some d)
    (hs : Region.noSelect ops = true) (hf : Region.free md ops listed i = true) (hr : (Region.ready md ops listed).contains i = true)
    (hQ : ∀ c a w, Q (.panic c) (a.put (some d) v) w → Q (.panic c) a w) (hy : YieldsIf P ops S oi v a) (hS : S w)
    (h : wpAnyH P md ops Q S fuel (listed.setIfInBounds i true) (a.put (some d) v) w) : wpAnyH P md ops Q S (fuel + 1) listed a w :=
  wpAnyH_take hi hs hf hr (by rw [hd]; exact hQ) hy hS (by rw [hd]; exact h)

theorem wpAnyH_bag (tail : List Nat) (rem0 : List Nat) (Inv : List Nat → World → Prop) (L0 : Array Bool) (fuel0 : Nat) (a : Act)
    (hlt : ∀ i ∈ rem0, i < ops.size) (hdis : ∀ i ∈ rem0, i ∉ tail)
    (hdeps : ∀ i ∈ rem0, ∃ o, ops[i]? = some o ∧ ∀ e ∈ o.after, Region.binds md e = true → e.on < ops.size ∧ e.on ∉ rem0 ∧ e.on ∉ tail)
    (htail : ∀ j ∈ tail, ∃ o, ops[j]? = some o ∧ ((∀ i ∈ rem0, ∃ e ∈ o.after, Region.binds md e = true ∧ e.on = i) ∨ ∃ e ∈ o.after, Region.binds md e = true ∧ e.on ∈ tail ∧ e.on < ops.size))
    (hstep : ∀ rem i w, i ∈ rem → rem.Nodup → (∀ j ∈ rem, j ∈ rem0) → Inv rem w → S w → wpOp P ops Q i (fun a' w' => a' = a ∧ S w' ∧ Inv (rem.erase i) w') a w)
    (hL0 : Lst ops tail [] L0) (hend : ∀ w, Inv [] w → S w → wpAnyH P md ops Q S fuel0 L0 a w) :
    ∀ (n : Nat) (rem : List Nat) (listed : Array Bool) (w : World), rem.length = n → rem.Nodup → (∀ j ∈ rem, j ∈ rem0) → Lst ops tail rem listed → Inv rem w → S w → wpAnyH P md ops Q S (fuel0 + n) listed a w := by
  intro n
  induction n with
  | zero =>
    intro rem listed w hn _ _ hl hi hS
    obtain rfl := List.eq_nil_of_length_eq_zero hn
    rw [hl.same hL0]
    exact hend w hi hS
  | succ n ih =>
    intro rem listed w hn hnd hsub hl hi hS
    have lstF : ∀ j, j < ops.size → j ∉ rem → j ∉ tail → listed.getD j false = true := fun j hj h1 h2 => by
      have := hl.2 j hj
      have hjl : j < listed.size := by rw [hl.1]; exact hj
      simp only [Array.getD, hjl, dite_true] at this ⊢
      cases hb : listed[j] with
      | true => exact hb
      | false => rcases this.1 hb with h | h <;> contradiction
    have lstT : ∀ j, j < ops.size → (j ∈ rem ∨ j ∈ tail) → listed.getD j false = false := fun j hj h => by
      have := (hl.2 j hj).2 h
      have hjl : j < listed.size := by rw [hl.1]; exact hj
      simp only [Array.getD, hjl, dite_true] at this ⊢
      exact this
    refine ⟨fun h0 => ?_, fun i hi' => ?_⟩
    · exfalso
      cases rem with
      | nil => simp at hn
      | cons r rs =>
        have hr0 := hsub r (by simp)
        obtain ⟨o, ho, hd⟩ := hdeps r hr0
        have : r ∈ Region.ready md ops listed := mem_ready.2 ⟨(hl.2 r (hlt r hr0)).2 (.inl (by simp)), o, ho, fun e he hb => by
          obtain ⟨q1, q2, q3⟩ := hd e he hb
          exact lstF e.on q1 (fun h => q2 (hsub _ h)) q3⟩
        rw [h0] at this
        cases this
    · obtain ⟨h1, o, ho, hall⟩ := mem_ready.1 hi'
      have hio : i < ops.size := by
        rcases Nat.lt_or_ge i ops.size with h | h
        · exact h
        · rw [Array.getElem?_eq_none h] at ho; cases ho
      have him : i ∈ rem := by
        rcases (hl.2 i hio).1 h1 with h | h
        · exact h
        · exfalso
          obtain ⟨o', ho', hd⟩ := htail i h
          rw [ho] at ho'
          cases ho'
          rcases hd with hd | ⟨e, he, hb, ht, hlt'⟩
          · cases rem with
            | nil => simp at hn
            | cons r rs =>
              obtain ⟨e, he, hb, rfl⟩ := hd r (hsub r (by simp))
              have := hall e he hb
              rw [lstT _ (hlt _ (hsub _ (by simp))) (.inl (by simp))] at this
              cases this
          · have := hall e he hb
            rw [lstT _ hlt' (.inr ht)] at this
            cases this
      refine wpOp_mono (fun a' w' h => ?_) (hstep rem i w him hnd hsub hi hS)
      obtain ⟨rfl, hS', hi2⟩ := h
      refine ⟨hS', ih (rem.erase i) _ w' (by rw [List.length_erase_of_mem him]; omega) (hnd.erase i) (fun j hj => hsub j (List.mem_of_mem_erase hj)) ⟨by simp [hl.1], fun j hj => ?_⟩ hi2 hS'⟩
      have hil : i < listed.size := by rw [hl.1]; exact hio
      have hjl : j < listed.size := by rw [hl.1]; exact hj
      have e1 := hl.2 j hj
      by_cases hij : i = j
      · subst hij
        have h0 : i ∉ rem.erase i := fun h => by rw [hnd.mem_erase_iff] at h; exact h.1 rfl
        have h2 := hdis i (hsub i him)
        have h3 : (listed.setIfInBounds i true).getD i true = true := by simp [Array.getD, hil]
        rw [h3]
        simp [h0, h2]
      · rw [getD_set_ne true hij, e1, List.mem_erase_of_ne (Ne.symm hij)]
end
end Go.Proofs.YtjdfemfobcjecaaGreat

/-
  streams: capped, New.
-/
namespace Go.Proofs.YtjdfemfobcjecaaGreat
open Go.RowKit Go.Sort
set_option linter.unusedVariables false
set_option linter.unusedSimpArgs false
def capC (l : Lm) : Nat → Array Value
  | 0 => #[.int .u64 (l.data : Int), .int .u64 (l.bl : Int), .int .u64 (l.br : Int), .int .u64 (l.un : Int), .int .u64 (l.bidis : Int), .int .u64 (l.unis : Int)]
  | 1 => #[.int .u64 (l.capped.data : Int), .int .u64 (l.bl : Int), .int .u64 (l.br : Int), .int .u64 (l.un : Int), .int .u64 (l.bidis : Int), .int .u64 (l.unis : Int)]
  | 2 => #[.int .u64 (l.capped.data : Int), .int .u64 (l.capped.bl : Int), .int .u64 (l.br : Int), .int .u64 (l.un : Int), .int .u64 (l.bidis : Int), .int .u64 (l.unis : Int)]
  | 3 => #[.int .u64 (l.capped.data : Int), .int .u64 (l.capped.bl : Int), .int .u64 (l.capped.br : Int), .int .u64 (l.un : Int), .int .u64 (l.bidis : Int), .int .u64 (l.unis : Int)]
  | _ => #[.int .u64 (l.capped.data : Int), .int .u64 (l.capped.bl : Int), .int .u64 (l.capped.br : Int), .int .u64 (l.capped.un : Int), .int .u64 (l.bidis : Int), .int .u64 (l.unis : Int)]
set_option maxRecDepth 100000 in
set_option maxHeartbeats 4000000 in
theorem capped_any (w : World) (l : Lm) : Calls Tryz.prog 25 #[l.val] w fun e w' => e = .returned l.capped.val ∧ Mod [] w w' := by
  have m0 : min (l.data : Int) 4611686018427387903 = ((l.capped.data : Nat) : Int) := by unfold Lm.capped mvar; simp only; omega
  have m1 : min (l.bl : Int) 4611686018427387903 = ((l.capped.bl : Nat) : Int) := by unfold Lm.capped mvar; simp only; omega
  have m2 : min (l.br : Int) 4611686018427387903 = ((l.capped.br : Nat) : Int) := by unfold Lm.capped mvar; simp only; omega
  have m3 : min (l.un : Int) 4611686018427387903 = ((l.capped.un : Nat) : Int) := by unfold Lm.capped mvar; simp only; omega
  have m4 : min (l.bidis : Int) 1152921504606846976 = ((l.capped.bidis : Nat) : Int) := by unfold Lm.capped mcnt; simp only; omega
  have m5 : min (l.unis : Int) 1152921504606846976 = ((l.capped.unis : Nat) : Int) := by unfold Lm.capped mcnt; simp only; omega
  have HM0 := hide ((((Mod.refl [] w).alloc (.cells #[.int .u64 (l.data : Int), .int .u64 (l.bl : Int), .int .u64 (l.br : Int), .int .u64 (l.un : Int), .int .u64 (l.bidis : Int), .int .u64 (l.unis : Int)] 24)).alloc (.cells #[.int .u64 (0 : Int), .int .u64 (0 : Int), .int .u64 (0 : Int), .int .u64 (0 : Int), .int .u64 (0 : Int), .int .u64 (0 : Int)] 24)).alloc (.cells #[.pointer (some ⟨w.heap.size, 0, none⟩), .pointer (some ⟨w.heap.size, 1, none⟩), .pointer (some ⟨w.heap.size, 2, none⟩), .pointer (some ⟨w.heap.size, 3, none⟩)] 100))
  have HB0 : Hid (Blk (((w.alloc (.cells #[.int .u64 (l.data : Int), .int .u64 (l.bl : Int), .int .u64 (l.br : Int), .int .u64 (l.un : Int), .int .u64 (l.bidis : Int), .int .u64 (l.unis : Int)] 24)).alloc (.cells #[.int .u64 (0 : Int), .int .u64 (0 : Int), .int .u64 (0 : Int), .int .u64 (0 : Int), .int .u64 (0 : Int), .int .u64 (0 : Int)] 24)).alloc (.cells #[.pointer (some ⟨w.heap.size, 0, none⟩), .pointer (some ⟨w.heap.size, 1, none⟩), .pointer (some ⟨w.heap.size, 2, none⟩), .pointer (some ⟨w.heap.size, 3, none⟩)] 100)) w.heap.size 24 (capC l 0)) := hide (((Blk.new w 24 #[.int .u64 (l.data : Int), .int .u64 (l.bl : Int), .int .u64 (l.br : Int), .int .u64 (l.un : Int), .int .u64 (l.bidis : Int), .int .u64 (l.unis : Int)]).alloc _).alloc _)
  have HR0 : Hid (Blk (((w.alloc (.cells #[.int .u64 (l.data : Int), .int .u64 (l.bl : Int), .int .u64 (l.br : Int), .int .u64 (l.un : Int), .int .u64 (l.bidis : Int), .int .u64 (l.unis : Int)] 24)).alloc (.cells #[.int .u64 (0 : Int), .int .u64 (0 : Int), .int .u64 (0 : Int), .int .u64 (0 : Int), .int .u64 (0 : Int), .int .u64 (0 : Int)] 24)).alloc (.cells #[.pointer (some ⟨w.heap.size, 0, none⟩), .pointer (some ⟨w.heap.size, 1, none⟩), .pointer (some ⟨w.heap.size, 2, none⟩), .pointer (some ⟨w.heap.size, 3, none⟩)] 100)) (w.heap.size + 1) 24 #[.int .u64 (0 : Int), .int .u64 (0 : Int), .int .u64 (0 : Int), .int .u64 (0 : Int), .int .u64 (0 : Int), .int .u64 (0 : Int)]) := hide ((show Blk ((w.alloc (.cells #[.int .u64 (l.data : Int), .int .u64 (l.bl : Int), .int .u64 (l.br : Int), .int .u64 (l.un : Int), .int .u64 (l.bidis : Int), .int .u64 (l.unis : Int)] 24)).alloc (.cells #[.int .u64 (0 : Int), .int .u64 (0 : Int), .int .u64 (0 : Int), .int .u64 (0 : Int), .int .u64 (0 : Int), .int .u64 (0 : Int)] 24)) (w.heap.size + 1) 24 #[.int .u64 (0 : Int), .int .u64 (0 : Int), .int .u64 (0 : Int), .int .u64 (0 : Int), .int .u64 (0 : Int), .int .u64 (0 : Int)] by
    have := Blk.new (w.alloc (.cells #[.int .u64 (l.data : Int), .int .u64 (l.bl : Int), .int .u64 (l.br : Int), .int .u64 (l.un : Int), .int .u64 (l.bidis : Int), .int .u64 (l.unis : Int)] 24)) 24 #[.int .u64 (0 : Int), .int .u64 (0 : Int), .int .u64 (0 : Int), .int .u64 (0 : Int), .int .u64 (0 : Int), .int .u64 (0 : Int)]
    rwa [World.size_alloc] at this).alloc _)
  have HP0 : Hid (Blk (((w.alloc (.cells #[.int .u64 (l.data : Int), .int .u64 (l.bl : Int), .int .u64 (l.br : Int), .int .u64 (l.un : Int), .int .u64 (l.bidis : Int), .int .u64 (l.unis : Int)] 24)).alloc (.cells #[.int .u64 (0 : Int), .int .u64 (0 : Int), .int .u64 (0 : Int), .int .u64 (0 : Int), .int .u64 (0 : Int), .int .u64 (0 : Int)] 24)).alloc (.cells #[.pointer (some ⟨w.heap.size, 0, none⟩), .pointer (some ⟨w.heap.size, 1, none⟩), .pointer (some ⟨w.heap.size, 2, none⟩), .pointer (some ⟨w.heap.size, 3, none⟩)] 100)) (w.heap.size + 2) 100 #[.pointer (some ⟨w.heap.size, 0, none⟩), .pointer (some ⟨w.heap.size, 1, none⟩), .pointer (some ⟨w.heap.size, 2, none⟩), .pointer (some ⟨w.heap.size, 3, none⟩)]) := hide (by
    have := Blk.new ((w.alloc (.cells #[.int .u64 (l.data : Int), .int .u64 (l.bl : Int), .int .u64 (l.br : Int), .int .u64 (l.un : Int), .int .u64 (l.bidis : Int), .int .u64 (l.unis : Int)] 24)).alloc (.cells #[.int .u64 (0 : Int), .int .u64 (0 : Int), .int .u64 (0 : Int), .int .u64 (0 : Int), .int .u64 (0 : Int), .int .u64 (0 : Int)] 24)) 100 #[.pointer (some ⟨w.heap.size, 0, none⟩), .pointer (some ⟨w.heap.size, 1, none⟩), .pointer (some ⟨w.heap.size, 2, none⟩), .pointer (some ⟨w.heap.size, 3, none⟩)]
    rwa [World.size_alloc, World.size_alloc] at this)
  unfold Lm.val
  go_enter Tryz.func25, Tryz.ntmps25
  go_wp2_with fail
  go_loopw [11] (fun iv wr => ∃ i : Nat, i ≤ 4 ∧ iv = .int .i64 (i : Int) ∧ Hid (Mod [] w wr) ∧ Hid (Blk wr w.heap.size 24 (capC l i)) ∧ Hid (Blk wr (w.heap.size + 1) 24 #[.int .u64 (0 : Int), .int .u64 (0 : Int), .int .u64 (0 : Int), .int .u64 (0 : Int), .int .u64 (0 : Int), .int .u64 (0 : Int)]) ∧ Hid (Blk wr (w.heap.size + 2) 100 #[.pointer (some ⟨w.heap.size, 0, none⟩), .pointer (some ⟨w.heap.size, 1, none⟩), .pointer (some ⟨w.heap.size, 2, none⟩), .pointer (some ⟨w.heap.size, 3, none⟩)])) (fun iv _ => 4 - (intOf iv).toNat)
  case atStart => exact ⟨0, by omega, rfl, HM0, HB0, HR0, HP0⟩
  case round =>
    obtain ⟨i, hi, rfl, hm, hb, hr, hp⟩ := hrel
    have hi5 : i = 0 ∨ i = 1 ∨ i = 2 ∨ i = 3 ∨ i = 4 := by omega
    rcases hi5 with rfl | rfl | rfl | rfl | rfl
    · have p0 : wr.cell? ⟨w.heap.size + 2, 0, none⟩ = some (.pointer (some ⟨w.heap.size, 0, none⟩)) := hp.out.cell 0
      have b0 : wr.cell? ⟨w.heap.size, 0, none⟩ = some (.int .u64 (l.data : Int)) := hb.out.cell 0
      have f0 : wr.frozen? ⟨w.heap.size, 0, none⟩ = false := hb.out.frozen 0
      have HB1 : Hid (Blk (wr.setCell ⟨w.heap.size, 0, none⟩ (.int .u64 (l.capped.data : Int))) w.heap.size 24 (capC l 1)) := hide (hb.out.set_ 0 _)
      have HM1 := hide (hm.out.setCell (p := ⟨w.heap.size, 0, none⟩) (.inr (Nat.le_refl _)) (.int .u64 (l.capped.data : Int)))
      have HR1 := hide (hr.out.far (p := ⟨w.heap.size, 0, none⟩) (by simp) (.int .u64 (l.capped.data : Int)))
      have HP1 := hide (hp.out.far (p := ⟨w.heap.size, 0, none⟩) (by simp) (.int .u64 (l.capped.data : Int)))
      have hlt := hb.out.lt
      go_wp2_with fail
      refine ⟨?rel, ?measure⟩
      case rel => exact ⟨1, by omega, rfl, HM1, HB1, HR1, HP1⟩
      case measure => simp [intOf]
    · have p0 : wr.cell? ⟨w.heap.size + 2, 1, none⟩ = some (.pointer (some ⟨w.heap.size, 1, none⟩)) := hp.out.cell 1
      have b0 : wr.cell? ⟨w.heap.size, 1, none⟩ = some (.int .u64 (l.bl : Int)) := hb.out.cell 1
      have f0 : wr.frozen? ⟨w.heap.size, 1, none⟩ = false := hb.out.frozen 1
      have HB1 : Hid (Blk (wr.setCell ⟨w.heap.size, 1, none⟩ (.int .u64 (l.capped.bl : Int))) w.heap.size 24 (capC l 2)) := hide (hb.out.set_ 1 _)
      have HM1 := hide (hm.out.setCell (p := ⟨w.heap.size, 1, none⟩) (.inr (Nat.le_refl _)) (.int .u64 (l.capped.bl : Int)))
      have HR1 := hide (hr.out.far (p := ⟨w.heap.size, 1, none⟩) (by simp) (.int .u64 (l.capped.bl : Int)))
      have HP1 := hide (hp.out.far (p := ⟨w.heap.size, 1, none⟩) (by simp) (.int .u64 (l.capped.bl : Int)))
      have hlt := hb.out.lt
      go_wp2_with fail
      refine ⟨?rel, ?measure⟩
      case rel => exact ⟨2, by omega, rfl, HM1, HB1, HR1, HP1⟩
      case measure => simp [intOf]
    · have p0 : wr.cell? ⟨w.heap.size + 2, 2, none⟩ = some (.pointer (some ⟨w.heap.size, 2, none⟩)) := hp.out.cell 2
      have b0 : wr.cell? ⟨w.heap.size, 2, none⟩ = some (.int .u64 (l.br : Int)) := hb.out.cell 2
      have f0 : wr.frozen? ⟨w.heap.size, 2, none⟩ = false := hb.out.frozen 2
      have HB1 : Hid (Blk (wr.setCell ⟨w.heap.size, 2, none⟩ (.int .u64 (l.capped.br : Int))) w.heap.size 24 (capC l 3)) := hide (hb.out.set_ 2 _)
      have HM1 := hide (hm.out.setCell (p := ⟨w.heap.size, 2, none⟩) (.inr (Nat.le_refl _)) (.int .u64 (l.capped.br : Int)))
      have HR1 := hide (hr.out.far (p := ⟨w.heap.size, 2, none⟩) (by simp) (.int .u64 (l.capped.br : Int)))
      have HP1 := hide (hp.out.far (p := ⟨w.heap.size, 2, none⟩) (by simp) (.int .u64 (l.capped.br : Int)))
      have hlt := hb.out.lt
      go_wp2_with fail
      refine ⟨?rel, ?measure⟩
      case rel => exact ⟨3, by omega, rfl, HM1, HB1, HR1, HP1⟩
      case measure => simp [intOf]
    · have p0 : wr.cell? ⟨w.heap.size + 2, 3, none⟩ = some (.pointer (some ⟨w.heap.size, 3, none⟩)) := hp.out.cell 3
      have b0 : wr.cell? ⟨w.heap.size, 3, none⟩ = some (.int .u64 (l.un : Int)) := hb.out.cell 3
      have f0 : wr.frozen? ⟨w.heap.size, 3, none⟩ = false := hb.out.frozen 3
      have HB1 : Hid (Blk (wr.setCell ⟨w.heap.size, 3, none⟩ (.int .u64 (l.capped.un : Int))) w.heap.size 24 (capC l 4)) := hide (hb.out.set_ 3 _)
      have HM1 := hide (hm.out.setCell (p := ⟨w.heap.size, 3, none⟩) (.inr (Nat.le_refl _)) (.int .u64 (l.capped.un : Int)))
      have HR1 := hide (hr.out.far (p := ⟨w.heap.size, 3, none⟩) (by simp) (.int .u64 (l.capped.un : Int)))
      have HP1 := hide (hp.out.far (p := ⟨w.heap.size, 3, none⟩) (by simp) (.int .u64 (l.capped.un : Int)))
      have hlt := hb.out.lt
      go_wp2_with fail
      refine ⟨?rel, ?measure⟩
      case rel => exact ⟨4, by omega, rfl, HM1, HB1, HR1, HP1⟩
      case measure => simp [intOf]
    · have b4 : wr.cell? ⟨w.heap.size, 4, none⟩ = some (.int .u64 (l.bidis : Int)) := hb.out.cell 4
      have b5 : wr.cell? ⟨w.heap.size, 5, none⟩ = some (.int .u64 (l.unis : Int)) := hb.out.cell 5
      have b0 : wr.cell? ⟨w.heap.size, 0, none⟩ = some (.int .u64 (l.capped.data : Int)) := hb.out.cell 0
      have b1 : wr.cell? ⟨w.heap.size, 1, none⟩ = some (.int .u64 (l.capped.bl : Int)) := hb.out.cell 1
      have b2 : wr.cell? ⟨w.heap.size, 2, none⟩ = some (.int .u64 (l.capped.br : Int)) := hb.out.cell 2
      have b3 : wr.cell? ⟨w.heap.size, 3, none⟩ = some (.int .u64 (l.capped.un : Int)) := hb.out.cell 3
      have f4 : wr.frozen? ⟨w.heap.size, 4, none⟩ = false := hb.out.frozen 4
      have f5 : wr.frozen? ⟨w.heap.size, 5, none⟩ = false := hb.out.frozen 5
      have r0 : wr.cell? ⟨w.heap.size + 1, 0, none⟩ = some (.int .u64 0) := hr.out.cell 0
      have rf0 : wr.frozen? ⟨w.heap.size + 1, 0, none⟩ = false := hr.out.frozen 0
      have r1 : wr.cell? ⟨w.heap.size + 1, 1, none⟩ = some (.int .u64 0) := hr.out.cell 1
      have rf1 : wr.frozen? ⟨w.heap.size + 1, 1, none⟩ = false := hr.out.frozen 1
      have r2 : wr.cell? ⟨w.heap.size + 1, 2, none⟩ = some (.int .u64 0) := hr.out.cell 2
      have rf2 : wr.frozen? ⟨w.heap.size + 1, 2, none⟩ = false := hr.out.frozen 2
      have r3 : wr.cell? ⟨w.heap.size + 1, 3, none⟩ = some (.int .u64 0) := hr.out.cell 3
      have rf3 : wr.frozen? ⟨w.heap.size + 1, 3, none⟩ = false := hr.out.frozen 3
      have r4 : wr.cell? ⟨w.heap.size + 1, 4, none⟩ = some (.int .u64 0) := hr.out.cell 4
      have rf4 : wr.frozen? ⟨w.heap.size + 1, 4, none⟩ = false := hr.out.frozen 4
      have r5 : wr.cell? ⟨w.heap.size + 1, 5, none⟩ = some (.int .u64 0) := hr.out.cell 5
      have rf5 : wr.frozen? ⟨w.heap.size + 1, 5, none⟩ = false := hr.out.frozen 5
      have hlt := hb.out.lt
      have hlt1 := hr.out.lt
      go_wp2_with fail
      have HBf := (hr.out.far (p := ⟨w.heap.size, 4, none⟩) (by simp) (.int .u64 (l.capped.bidis : Int))).far (p := ⟨w.heap.size, 5, none⟩) (by simp) (.int .u64 (l.capped.unis : Int))
      have HBg := (((((HBf.set_ 0 (.int .u64 (l.capped.data : Int))).set_ 1 (.int .u64 (l.capped.bl : Int))).set_ 2 (.int .u64 (l.capped.br : Int))).set_ 3 (.int .u64 (l.capped.un : Int))).set_ 4 (.int .u64 (l.capped.bidis : Int))).set_ 5 (.int .u64 (l.capped.unis : Int))
      have HMf := (hm.out.setCell (p := ⟨w.heap.size, 4, none⟩) (.inr (Nat.le_refl _)) (.int .u64 (l.capped.bidis : Int))).setCell (p := ⟨w.heap.size, 5, none⟩) (.inr (Nat.le_refl _)) (.int .u64 (l.capped.unis : Int))
      have HMg := (((((HMf.setCell (p := ⟨w.heap.size + 1, 0, none⟩) (.inr (Nat.le_succ _)) (.int .u64 (l.capped.data : Int))).setCell (p := ⟨w.heap.size + 1, 1, none⟩) (.inr (Nat.le_succ _)) (.int .u64 (l.capped.bl : Int))).setCell (p := ⟨w.heap.size + 1, 2, none⟩) (.inr (Nat.le_succ _)) (.int .u64 (l.capped.br : Int))).setCell (p := ⟨w.heap.size + 1, 3, none⟩) (.inr (Nat.le_succ _)) (.int .u64 (l.capped.un : Int))).setCell (p := ⟨w.heap.size + 1, 4, none⟩) (.inr (Nat.le_succ _)) (.int .u64 (l.capped.bidis : Int))).setCell (p := ⟨w.heap.size + 1, 5, none⟩) (.inr (Nat.le_succ _)) (.int .u64 (l.capped.unis : Int))
      refine bodyPost_ret (results_cell_row rfl _ _ (w.heap.size + 1) 24 (#[.int .u64 (l.capped.data : Int), .int .u64 (l.capped.bl : Int), .int .u64 (l.capped.br : Int), .int .u64 (l.capped.un : Int), .int .u64 (l.capped.bidis : Int), .int .u64 (l.capped.unis : Int)]) (0, 0) _ rfl ?_ Tryz.underlying24 rfl (by kernel_rfl)) rfl ?_
      · exact HBg
      · exact ⟨rfl, HMg⟩
def Ss.fresh (mb : Nat) (side : Int) (own other : Lm) : Ss := ⟨mb, if side = 1 then 1 else 0, own.capped, other.capped, [], 0, 0, 0, 0, own.capped.data, false, 0, 0⟩
def freshC (mb q : Nat) (own other : Lm) : Array Value := #[.int .u64 (q : Int), .int .u64 (own.capped.data : Int), .int .u64 (own.capped.bl : Int), .int .u64 (own.capped.br : Int), .int .u64 (own.capped.un : Int), .int .u64 (own.capped.bidis : Int), .int .u64 (own.capped.unis : Int), .int .u64 (other.capped.data : Int), .int .u64 (other.capped.bl : Int), .int .u64 (other.capped.br : Int), .int .u64 (other.capped.un : Int), .int .u64 (other.capped.bidis : Int), .int .u64 (other.capped.unis : Int), .map (some mb), .int .u64 0, .int .u64 0, .int .u64 0, .int .u64 0, .int .u64 (own.capped.data : Int), .bool false, .int .u64 0, .int .u64 0]
theorem fresh_box {X : World} {mb : Nat} (q : Nat) (side : Int) (own other : Lm) (hq : (if side = 1 then 1 else 0 : Nat) = q) (hm : IMap X mb .u64 (fun _ => none)) : SBox (X.alloc (.cells (freshC mb q own other) 69)) X.heap.size (Ss.fresh mb side own other) := by
  refine ⟨?_, ?_, by simp [Ss.fresh], by simp [Ss.fresh], ⟨?_, by simp [Ss.fresh]⟩, by simp [Ss.fresh]⟩
  · have h := Blk.new X 69 (freshC mb q own other)
    have e : (Ss.fresh mb side own other).cells = freshC mb q own other := by
      subst hq; rfl
    rw [e]; exact h
  · have e : (Ss.fresh mb side own other).look = fun _ => none := by funext x; rfl
    rw [e]
    exact hm.mod ((Mod.refl [] X).alloc _) (by simp)
  · exact Nat.ne_of_gt hm.lt
set_option maxRecDepth 100000 in
set_option maxHeartbeats 8000000 in
theorem stnew_any (w : World) (side : Int) (own other : Lm) : Calls Tryz.prog 9 #[.int .i64 side, own.val, other.val] w fun e w' => ∃ sb mb, e = .returned (.pointer (some ⟨sb, 0, none⟩)) ∧ SBox w' sb (Ss.fresh mb side own other) ∧ Mod [] w w' ∧ w.heap.size ≤ sb ∧ w.heap.size ≤ mb := by
  have HC1 := hide (fun w' => capped_any w' own)
  have HC2 := hide (fun w' => capped_any w' other)
  have HM0 := hide (((Mod.refl [] w).alloc (.cells #[.int .u64 (own.data : Int), .int .u64 (own.bl : Int), .int .u64 (own.br : Int), .int .u64 (own.un : Int), .int .u64 (own.bidis : Int), .int .u64 (own.unis : Int)] 24)).alloc (.cells #[.int .u64 (other.data : Int), .int .u64 (other.bl : Int), .int .u64 (other.br : Int), .int .u64 (other.un : Int), .int .u64 (other.bidis : Int), .int .u64 (other.unis : Int)] 24))
  have HO0 : Hid (Blk ((w.alloc (.cells #[.int .u64 (own.data : Int), .int .u64 (own.bl : Int), .int .u64 (own.br : Int), .int .u64 (own.un : Int), .int .u64 (own.bidis : Int), .int .u64 (own.unis : Int)] 24)).alloc (.cells #[.int .u64 (other.data : Int), .int .u64 (other.bl : Int), .int .u64 (other.br : Int), .int .u64 (other.un : Int), .int .u64 (other.bidis : Int), .int .u64 (other.unis : Int)] 24)) w.heap.size 24 #[.int .u64 (own.data : Int), .int .u64 (own.bl : Int), .int .u64 (own.br : Int), .int .u64 (own.un : Int), .int .u64 (own.bidis : Int), .int .u64 (own.unis : Int)]) := hide ((Blk.new w 24 #[.int .u64 (own.data : Int), .int .u64 (own.bl : Int), .int .u64 (own.br : Int), .int .u64 (own.un : Int), .int .u64 (own.bidis : Int), .int .u64 (own.unis : Int)]).alloc _)
  have HT0 : Hid (Blk ((w.alloc (.cells #[.int .u64 (own.data : Int), .int .u64 (own.bl : Int), .int .u64 (own.br : Int), .int .u64 (own.un : Int), .int .u64 (own.bidis : Int), .int .u64 (own.unis : Int)] 24)).alloc (.cells #[.int .u64 (other.data : Int), .int .u64 (other.bl : Int), .int .u64 (other.br : Int), .int .u64 (other.un : Int), .int .u64 (other.bidis : Int), .int .u64 (other.unis : Int)] 24)) (w.heap.size + 1) 24 #[.int .u64 (other.data : Int), .int .u64 (other.bl : Int), .int .u64 (other.br : Int), .int .u64 (other.un : Int), .int .u64 (other.bidis : Int), .int .u64 (other.unis : Int)]) := hide (by
    have := Blk.new (w.alloc (.cells #[.int .u64 (own.data : Int), .int .u64 (own.bl : Int), .int .u64 (own.br : Int), .int .u64 (own.un : Int), .int .u64 (own.bidis : Int), .int .u64 (own.unis : Int)] 24)) 24 #[.int .u64 (other.data : Int), .int .u64 (other.bl : Int), .int .u64 (other.br : Int), .int .u64 (other.un : Int), .int .u64 (other.bidis : Int), .int .u64 (other.unis : Int)]
    rwa [World.size_alloc] at this)
  have HLe : Hid (w.heap.size ≤ ((w.alloc (.cells #[.int .u64 (own.data : Int), .int .u64 (own.bl : Int), .int .u64 (own.br : Int), .int .u64 (own.un : Int), .int .u64 (own.bidis : Int), .int .u64 (own.unis : Int)] 24)).alloc (.cells #[.int .u64 (other.data : Int), .int .u64 (other.bl : Int), .int .u64 (other.br : Int), .int .u64 (other.un : Int), .int .u64 (other.bidis : Int), .int .u64 (other.unis : Int)] 24)).heap.size) := hide HM0.out.size
  unfold Lm.val at HC1 HC2 ⊢
  go_enter Tryz.func9, Tryz.ntmps9
  go_wp2_with fail
  obtain ⟨w0, hw0⟩ : ∃ w0, (w.alloc (.cells #[.int .u64 (own.data : Int), .int .u64 (own.bl : Int), .int .u64 (own.br : Int), .int .u64 (own.un : Int), .int .u64 (own.bidis : Int), .int .u64 (own.unis : Int)] 24)).alloc (.cells #[.int .u64 (other.data : Int), .int .u64 (other.bl : Int), .int .u64 (other.br : Int), .int .u64 (other.un : Int), .int .u64 (other.bidis : Int), .int .u64 (other.unis : Int)] 24) = w0 := ⟨_, rfl⟩
  rw [hw0] at HM0 HO0 HT0 HLe ⊢
  clear hw0
  refine wp_region_held_drew (S := fun wq => Blk wq w.heap.size 24 #[.int .u64 (own.data : Int), .int .u64 (own.bl : Int), .int .u64 (own.br : Int), .int .u64 (own.un : Int), .int .u64 (own.bidis : Int), .int .u64 (own.unis : Int)] ∧ Blk wq (w.heap.size + 1) 24 #[.int .u64 (other.data : Int), .int .u64 (other.bl : Int), .int .u64 (other.br : Int), .int .u64 (other.un : Int), .int .u64 (other.bidis : Int), .int .u64 (other.unis : Int)]) (by kernel_rfl) ⟨HO0.out, HT0.out⟩ (fun _ => ?_)
  have HMd := hide ((Mod.refl [] w0).drew)
  refine take_dst (i := 0) (v := ?_) 8 rfl rfl (by kernel_rfl) (by kernel_rfl) (by kernel_rfl) (fun _ _ _ h => h) (Or.inl ⟨by rfl, ?_⟩) (⟨HMd.out.blk HO0.out (by simp), HMd.out.blk HT0.out (by simp)⟩) ?_
  rotate_left
  · intro wq hSw
    have e0 : wq.cell? ⟨w.heap.size, 0, none⟩ = some (.int .u64 (own.data : Int)) := hSw.1.cell 0
    have e1 : wq.cell? ⟨w.heap.size, 1, none⟩ = some (.int .u64 (own.bl : Int)) := hSw.1.cell 1
    have e2 : wq.cell? ⟨w.heap.size, 2, none⟩ = some (.int .u64 (own.br : Int)) := hSw.1.cell 2
    have e3 : wq.cell? ⟨w.heap.size, 3, none⟩ = some (.int .u64 (own.un : Int)) := hSw.1.cell 3
    have e4 : wq.cell? ⟨w.heap.size, 4, none⟩ = some (.int .u64 (own.bidis : Int)) := hSw.1.cell 4
    have e5 : wq.cell? ⟨w.heap.size, 5, none⟩ = some (.int .u64 (own.unis : Int)) := hSw.1.cell 5
    go_simp
    first | done | (with_reducible rfl)
  simp only [Act.put, List.setIfInBounds_toArray, List.set_cons_zero, List.set_cons_succ]
  refine take_dst (i := 2) (v := ?_) 10 rfl rfl (by kernel_rfl) (by kernel_rfl) (by kernel_rfl) (fun _ _ _ h => h) (Or.inl ⟨by rfl, ?_⟩) (⟨HMd.out.blk HO0.out (by simp), HMd.out.blk HT0.out (by simp)⟩) ?_
  rotate_left
  · intro wq hSw
    have e0 : wq.cell? ⟨w.heap.size + 1, 0, none⟩ = some (.int .u64 (other.data : Int)) := hSw.2.cell 0
    have e1 : wq.cell? ⟨w.heap.size + 1, 1, none⟩ = some (.int .u64 (other.bl : Int)) := hSw.2.cell 1
    have e2 : wq.cell? ⟨w.heap.size + 1, 2, none⟩ = some (.int .u64 (other.br : Int)) := hSw.2.cell 2
    have e3 : wq.cell? ⟨w.heap.size + 1, 3, none⟩ = some (.int .u64 (other.un : Int)) := hSw.2.cell 3
    have e4 : wq.cell? ⟨w.heap.size + 1, 4, none⟩ = some (.int .u64 (other.bidis : Int)) := hSw.2.cell 4
    have e5 : wq.cell? ⟨w.heap.size + 1, 5, none⟩ = some (.int .u64 (other.unis : Int)) := hSw.2.cell 5
    go_simp
    first | done | (with_reducible rfl)
  simp only [Act.put, List.setIfInBounds_toArray, List.set_cons_zero, List.set_cons_succ]
  refine wpAnyH_ready (rs := [1, 4]) (by kernel_rfl) (by simp) ?_
  refine AllReadyH.cons rfl (fun K hK => ?_) (AllReadyH.cons rfl (fun K hK => ?_) AllReadyH.nil)
  · go_simp
    refine (HC1.out _).mono ?_
    rintro e w_1 ⟨rfl, m_1⟩
    have HM1 := hide (HMd.out.trans m_1 (by simp))
    clear m_1
    refine hK.out _ _ ⟨HM1.out.blk HO0.out (by simp), HM1.out.blk HT0.out (by simp)⟩ (fun _ => ?_)
    clear hK K
    try simp only [Act.put, List.setIfInBounds_toArray, List.set_cons_zero, List.set_cons_succ]
    refine wpAnyH_ready (rs := [3, 4]) (by kernel_rfl) (by simp) ?_
    refine AllReadyH.cons rfl (fun K hK => ?_) (AllReadyH.cons rfl (fun K hK => ?_) AllReadyH.nil)
    · go_simp
      refine (HC2.out _).mono ?_
      rintro e w_2 ⟨rfl, m_2⟩
      have HM2 := hide (HM1.out.trans m_2 (by simp))
      clear m_2
      refine hK.out _ _ ⟨HM2.out.blk HO0.out (by simp), HM2.out.blk HT0.out (by simp)⟩ (fun _ => ?_)
      clear hK K
      try simp only [Act.put, List.setIfInBounds_toArray, List.set_cons_zero, List.set_cons_succ]
      refine wpAnyH_ready (rs := [4]) (by kernel_rfl) (by simp) ?_
      refine AllReadyH.cons rfl (fun K hK => ?_) AllReadyH.nil
      go_simp
      have HM3 := hide (HM2.out.alloc (.map #[] 0))
      have HI3 := hide (IMap.made w_2 .u64)
      have HLm := hide (show w.heap.size ≤ w_2.heap.size by have h1 := HLe.out; have h2 : w0.heap.size ≤ w_2.heap.size := HM2.out.size; omega)
      refine hK.out _ _ ⟨HM3.out.blk HO0.out (by simp), HM3.out.blk HT0.out (by simp)⟩ (fun _ => ?_)
      clear hK K
      try simp only [Act.put, List.setIfInBounds_toArray, List.set_cons_zero, List.set_cons_succ]
      refine take_dst (i := 5) (v := ?_) 13 rfl rfl (by kernel_rfl) (by kernel_rfl) (by kernel_rfl) (fun _ _ _ h => h) (Or.inl ⟨by rfl, ?_⟩) (⟨HM3.out.blk HO0.out (by simp), HM3.out.blk HT0.out (by simp)⟩) ?_
      rotate_left
      · intro wq hSw
        go_simp
        first | done | (with_reducible rfl)
      simp only [Act.put, List.setIfInBounds_toArray, List.set_cons_zero, List.set_cons_succ]
      refine wpAnyH_ready (rs := [6]) (by kernel_rfl) (by simp) ?_
      refine AllReadyH.cons rfl (fun K hK => ?_) AllReadyH.nil
      go_simp
      have HM4 := hide (HM3.out.alloc (.cells #[.int .u64 0, .int .u64 (own.capped.data : Int), .int .u64 (own.capped.bl : Int), .int .u64 (own.capped.br : Int), .int .u64 (own.capped.un : Int), .int .u64 (own.capped.bidis : Int), .int .u64 (own.capped.unis : Int), .int .u64 (other.capped.data : Int), .int .u64 (other.capped.bl : Int), .int .u64 (other.capped.br : Int), .int .u64 (other.capped.un : Int), .int .u64 (other.capped.bidis : Int), .int .u64 (other.capped.unis : Int), .map (some w_2.heap.size), .int .u64 0, .int .u64 0, .int .u64 0, .int .u64 0, .int .u64 0, .bool false, .int .u64 0, .int .u64 0] 69))
      have HI4 := hide (HI3.out.mod ((Mod.refl [] _).alloc (.cells #[.int .u64 0, .int .u64 (own.capped.data : Int), .int .u64 (own.capped.bl : Int), .int .u64 (own.capped.br : Int), .int .u64 (own.capped.un : Int), .int .u64 (own.capped.bidis : Int), .int .u64 (own.capped.unis : Int), .int .u64 (other.capped.data : Int), .int .u64 (other.capped.bl : Int), .int .u64 (other.capped.br : Int), .int .u64 (other.capped.un : Int), .int .u64 (other.capped.bidis : Int), .int .u64 (other.capped.unis : Int), .map (some w_2.heap.size), .int .u64 0, .int .u64 0, .int .u64 0, .int .u64 0, .int .u64 0, .bool false, .int .u64 0, .int .u64 0] 69)) (by simp))
      have HB4 := hide (Blk.new (w_2.alloc (.map #[] 0)) 69 #[.int .u64 0, .int .u64 (own.capped.data : Int), .int .u64 (own.capped.bl : Int), .int .u64 (own.capped.br : Int), .int .u64 (own.capped.un : Int), .int .u64 (own.capped.bidis : Int), .int .u64 (own.capped.unis : Int), .int .u64 (other.capped.data : Int), .int .u64 (other.capped.bl : Int), .int .u64 (other.capped.br : Int), .int .u64 (other.capped.un : Int), .int .u64 (other.capped.bidis : Int), .int .u64 (other.capped.unis : Int), .map (some w_2.heap.size), .int .u64 0, .int .u64 0, .int .u64 0, .int .u64 0, .int .u64 0, .bool false, .int .u64 0, .int .u64 0])
      refine hK.out _ _ ⟨HM4.out.blk HO0.out (by simp), HM4.out.blk HT0.out (by simp)⟩ (fun _ => ?_)
      clear hK K
      try simp only [Act.put, List.setIfInBounds_toArray, List.set_cons_zero, List.set_cons_succ]
      refine take_dst (i := 7) (v := ?_) 7 rfl rfl (by kernel_rfl) (by kernel_rfl) (by kernel_rfl) (fun _ _ _ h => h) (Or.inl ⟨by rfl, ?_⟩) (⟨HM4.out.blk HO0.out (by simp), HM4.out.blk HT0.out (by simp)⟩) ?_
      rotate_left
      · intro wq hSw
        go_simp
        first | done | (with_reducible rfl)
      simp only [Act.put, List.setIfInBounds_toArray, List.set_cons_zero, List.set_cons_succ]
      refine wpAnyH_done (by kernel_rfl) ?_ _
      by_cases hs : side = 1
      · have HQ : Hid ((if side = 1 then 1 else 0 : Nat) = 1) := hide (if_pos hs)
        have hsb : (side == 1) = true := by simp [hs]
        clear hs
        go_wp2_with fail
        go_ret
        have hbx := fresh_box (X := (w_2.alloc (.map #[] 0))) 1 side own other HQ.out HI3.out
        try rw [World.size_alloc] at hbx
        have hmx := HM3.out.alloc (.cells (freshC w_2.heap.size 1 own other) 69)
        have hsz := HM3.out.size
        have hl0 := HLe.out
        have hl1 := HLm.out
        refine ⟨_, _, rfl, hbx, HM0.out.trans hmx (by simp), ?_, ?_⟩
        · (try simp at hsz ⊢); omega
        · (try simp at hl1 ⊢); omega
      · have HQ : Hid ((if side = 1 then 1 else 0 : Nat) = 0) := hide (if_neg hs)
        have hsb : (side == 1) = false := by simp [hs]
        clear hs
        go_wp2_with fail
        go_ret
        have hbx := fresh_box (X := (w_2.alloc (.map #[] 0))) 0 side own other HQ.out HI3.out
        try rw [World.size_alloc] at hbx
        have hmx := HM3.out.alloc (.cells (freshC w_2.heap.size 0 own other) 69)
        have hsz := HM3.out.size
        have hl0 := HLe.out
        have hl1 := HLm.out
        refine ⟨_, _, rfl, hbx, HM0.out.trans hmx (by simp), ?_, ?_⟩
        · (try simp at hsz ⊢); omega
        · (try simp at hl1 ⊢); omega
    · go_simp
      have HM5 := hide (HM1.out.alloc (.map #[] 0))
      have HI5 := hide (IMap.made w_1 .u64)
      have HLm := hide (show w.heap.size ≤ w_1.heap.size by have h1 := HLe.out; have h2 : w0.heap.size ≤ w_1.heap.size := HM1.out.size; omega)
      refine hK.out _ _ ⟨HM5.out.blk HO0.out (by simp), HM5.out.blk HT0.out (by simp)⟩ (fun _ => ?_)
      clear hK K
      try simp only [Act.put, List.setIfInBounds_toArray, List.set_cons_zero, List.set_cons_succ]
      refine wpAnyH_ready (rs := [3]) (by kernel_rfl) (by simp) ?_
      refine AllReadyH.cons rfl (fun K hK => ?_) AllReadyH.nil
      go_simp
      refine (HC2.out _).mono ?_
      rintro e w_6 ⟨rfl, m_6⟩
      have HM6 := hide (HM5.out.trans m_6 (by simp))
      have HI6 := hide (HI5.out.mod m_6 (by simp))
      clear m_6
      refine hK.out _ _ ⟨HM6.out.blk HO0.out (by simp), HM6.out.blk HT0.out (by simp)⟩ (fun _ => ?_)
      clear hK K
      try simp only [Act.put, List.setIfInBounds_toArray, List.set_cons_zero, List.set_cons_succ]
      refine take_dst (i := 5) (v := ?_) 13 rfl rfl (by kernel_rfl) (by kernel_rfl) (by kernel_rfl) (fun _ _ _ h => h) (Or.inl ⟨by rfl, ?_⟩) (⟨HM6.out.blk HO0.out (by simp), HM6.out.blk HT0.out (by simp)⟩) ?_
      rotate_left
      · intro wq hSw
        go_simp
        first | done | (with_reducible rfl)
      simp only [Act.put, List.setIfInBounds_toArray, List.set_cons_zero, List.set_cons_succ]
      refine wpAnyH_ready (rs := [6]) (by kernel_rfl) (by simp) ?_
      refine AllReadyH.cons rfl (fun K hK => ?_) AllReadyH.nil
      go_simp
      have HM7 := hide (HM6.out.alloc (.cells #[.int .u64 0, .int .u64 (own.capped.data : Int), .int .u64 (own.capped.bl : Int), .int .u64 (own.capped.br : Int), .int .u64 (own.capped.un : Int), .int .u64 (own.capped.bidis : Int), .int .u64 (own.capped.unis : Int), .int .u64 (other.capped.data : Int), .int .u64 (other.capped.bl : Int), .int .u64 (other.capped.br : Int), .int .u64 (other.capped.un : Int), .int .u64 (other.capped.bidis : Int), .int .u64 (other.capped.unis : Int), .map (some w_1.heap.size), .int .u64 0, .int .u64 0, .int .u64 0, .int .u64 0, .int .u64 0, .bool false, .int .u64 0, .int .u64 0] 69))
      have HI7 := hide (HI6.out.mod ((Mod.refl [] _).alloc (.cells #[.int .u64 0, .int .u64 (own.capped.data : Int), .int .u64 (own.capped.bl : Int), .int .u64 (own.capped.br : Int), .int .u64 (own.capped.un : Int), .int .u64 (own.capped.bidis : Int), .int .u64 (own.capped.unis : Int), .int .u64 (other.capped.data : Int), .int .u64 (other.capped.bl : Int), .int .u64 (other.capped.br : Int), .int .u64 (other.capped.un : Int), .int .u64 (other.capped.bidis : Int), .int .u64 (other.capped.unis : Int), .map (some w_1.heap.size), .int .u64 0, .int .u64 0, .int .u64 0, .int .u64 0, .int .u64 0, .bool false, .int .u64 0, .int .u64 0] 69)) (by simp))
      have HB7 := hide (Blk.new w_6 69 #[.int .u64 0, .int .u64 (own.capped.data : Int), .int .u64 (own.capped.bl : Int), .int .u64 (own.capped.br : Int), .int .u64 (own.capped.un : Int), .int .u64 (own.capped.bidis : Int), .int .u64 (own.capped.unis : Int), .int .u64 (other.capped.data : Int), .int .u64 (other.capped.bl : Int), .int .u64 (other.capped.br : Int), .int .u64 (other.capped.un : Int), .int .u64 (other.capped.bidis : Int), .int .u64 (other.capped.unis : Int), .map (some w_1.heap.size), .int .u64 0, .int .u64 0, .int .u64 0, .int .u64 0, .int .u64 0, .bool false, .int .u64 0, .int .u64 0])
      refine hK.out _ _ ⟨HM7.out.blk HO0.out (by simp), HM7.out.blk HT0.out (by simp)⟩ (fun _ => ?_)
      clear hK K
      try simp only [Act.put, List.setIfInBounds_toArray, List.set_cons_zero, List.set_cons_succ]
      refine take_dst (i := 7) (v := ?_) 7 rfl rfl (by kernel_rfl) (by kernel_rfl) (by kernel_rfl) (fun _ _ _ h => h) (Or.inl ⟨by rfl, ?_⟩) (⟨HM7.out.blk HO0.out (by simp), HM7.out.blk HT0.out (by simp)⟩) ?_
      rotate_left
      · intro wq hSw
        go_simp
        first | done | (with_reducible rfl)
      simp only [Act.put, List.setIfInBounds_toArray, List.set_cons_zero, List.set_cons_succ]
      refine wpAnyH_done (by kernel_rfl) ?_ _
      by_cases hs : side = 1
      · have HQ : Hid ((if side = 1 then 1 else 0 : Nat) = 1) := hide (if_pos hs)
        have hsb : (side == 1) = true := by simp [hs]
        clear hs
        go_wp2_with fail
        go_ret
        have hbx := fresh_box (X := w_6) 1 side own other HQ.out HI6.out
        try rw [World.size_alloc] at hbx
        have hmx := HM6.out.alloc (.cells (freshC w_1.heap.size 1 own other) 69)
        have hsz := HM6.out.size
        have hl0 := HLe.out
        have hl1 := HLm.out
        refine ⟨_, _, rfl, hbx, HM0.out.trans hmx (by simp), ?_, ?_⟩
        · (try simp at hsz ⊢); omega
        · (try simp at hl1 ⊢); omega
      · have HQ : Hid ((if side = 1 then 1 else 0 : Nat) = 0) := hide (if_neg hs)
        have hsb : (side == 1) = false := by simp [hs]
        clear hs
        go_wp2_with fail
        go_ret
        have hbx := fresh_box (X := w_6) 0 side own other HQ.out HI6.out
        try rw [World.size_alloc] at hbx
        have hmx := HM6.out.alloc (.cells (freshC w_1.heap.size 0 own other) 69)
        have hsz := HM6.out.size
        have hl0 := HLe.out
        have hl1 := HLm.out
        refine ⟨_, _, rfl, hbx, HM0.out.trans hmx (by simp), ?_, ?_⟩
        · (try simp at hsz ⊢); omega
        · (try simp at hl1 ⊢); omega
  · go_simp
    have HM8 := hide (HMd.out.alloc (.map #[] 0))
    have HI8 := hide (IMap.made w0.drew .u64)
    have HLm := hide (show w.heap.size ≤ w0.drew.heap.size by have h1 := HLe.out; have h2 : w0.heap.size ≤ w0.drew.heap.size := HMd.out.size; omega)
    refine hK.out _ _ ⟨HM8.out.blk HO0.out (by simp), HM8.out.blk HT0.out (by simp)⟩ (fun _ => ?_)
    clear hK K
    try simp only [Act.put, List.setIfInBounds_toArray, List.set_cons_zero, List.set_cons_succ]
    refine wpAnyH_ready (rs := [1]) (by kernel_rfl) (by simp) ?_
    refine AllReadyH.cons rfl (fun K hK => ?_) AllReadyH.nil
    go_simp
    refine (HC1.out _).mono ?_
    rintro e w_9 ⟨rfl, m_9⟩
    have HM9 := hide (HM8.out.trans m_9 (by simp))
    have HI9 := hide (HI8.out.mod m_9 (by simp))
    clear m_9
    refine hK.out _ _ ⟨HM9.out.blk HO0.out (by simp), HM9.out.blk HT0.out (by simp)⟩ (fun _ => ?_)
    clear hK K
    try simp only [Act.put, List.setIfInBounds_toArray, List.set_cons_zero, List.set_cons_succ]
    refine wpAnyH_ready (rs := [3]) (by kernel_rfl) (by simp) ?_
    refine AllReadyH.cons rfl (fun K hK => ?_) AllReadyH.nil
    go_simp
    refine (HC2.out _).mono ?_
    rintro e w_10 ⟨rfl, m_10⟩
    have HM10 := hide (HM9.out.trans m_10 (by simp))
    have HI10 := hide (HI9.out.mod m_10 (by simp))
    clear m_10
    refine hK.out _ _ ⟨HM10.out.blk HO0.out (by simp), HM10.out.blk HT0.out (by simp)⟩ (fun _ => ?_)
    clear hK K
    try simp only [Act.put, List.setIfInBounds_toArray, List.set_cons_zero, List.set_cons_succ]
    refine take_dst (i := 5) (v := ?_) 13 rfl rfl (by kernel_rfl) (by kernel_rfl) (by kernel_rfl) (fun _ _ _ h => h) (Or.inl ⟨by rfl, ?_⟩) (⟨HM10.out.blk HO0.out (by simp), HM10.out.blk HT0.out (by simp)⟩) ?_
    rotate_left
    · intro wq hSw
      go_simp
      first | done | (with_reducible rfl)
    simp only [Act.put, List.setIfInBounds_toArray, List.set_cons_zero, List.set_cons_succ]
    refine wpAnyH_ready (rs := [6]) (by kernel_rfl) (by simp) ?_
    refine AllReadyH.cons rfl (fun K hK => ?_) AllReadyH.nil
    go_simp
    have HM11 := hide (HM10.out.alloc (.cells #[.int .u64 0, .int .u64 (own.capped.data : Int), .int .u64 (own.capped.bl : Int), .int .u64 (own.capped.br : Int), .int .u64 (own.capped.un : Int), .int .u64 (own.capped.bidis : Int), .int .u64 (own.capped.unis : Int), .int .u64 (other.capped.data : Int), .int .u64 (other.capped.bl : Int), .int .u64 (other.capped.br : Int), .int .u64 (other.capped.un : Int), .int .u64 (other.capped.bidis : Int), .int .u64 (other.capped.unis : Int), .map (some w0.drew.heap.size), .int .u64 0, .int .u64 0, .int .u64 0, .int .u64 0, .int .u64 0, .bool false, .int .u64 0, .int .u64 0] 69))
    have HI11 := hide (HI10.out.mod ((Mod.refl [] _).alloc (.cells #[.int .u64 0, .int .u64 (own.capped.data : Int), .int .u64 (own.capped.bl : Int), .int .u64 (own.capped.br : Int), .int .u64 (own.capped.un : Int), .int .u64 (own.capped.bidis : Int), .int .u64 (own.capped.unis : Int), .int .u64 (other.capped.data : Int), .int .u64 (other.capped.bl : Int), .int .u64 (other.capped.br : Int), .int .u64 (other.capped.un : Int), .int .u64 (other.capped.bidis : Int), .int .u64 (other.capped.unis : Int), .map (some w0.drew.heap.size), .int .u64 0, .int .u64 0, .int .u64 0, .int .u64 0, .int .u64 0, .bool false, .int .u64 0, .int .u64 0] 69)) (by simp))
    have HB11 := hide (Blk.new w_10 69 #[.int .u64 0, .int .u64 (own.capped.data : Int), .int .u64 (own.capped.bl : Int), .int .u64 (own.capped.br : Int), .int .u64 (own.capped.un : Int), .int .u64 (own.capped.bidis : Int), .int .u64 (own.capped.unis : Int), .int .u64 (other.capped.data : Int), .int .u64 (other.capped.bl : Int), .int .u64 (other.capped.br : Int), .int .u64 (other.capped.un : Int), .int .u64 (other.capped.bidis : Int), .int .u64 (other.capped.unis : Int), .map (some w0.drew.heap.size), .int .u64 0, .int .u64 0, .int .u64 0, .int .u64 0, .int .u64 0, .bool false, .int .u64 0, .int .u64 0])
    refine hK.out _ _ ⟨HM11.out.blk HO0.out (by simp), HM11.out.blk HT0.out (by simp)⟩ (fun _ => ?_)
    clear hK K
    try simp only [Act.put, List.setIfInBounds_toArray, List.set_cons_zero, List.set_cons_succ]
    refine take_dst (i := 7) (v := ?_) 7 rfl rfl (by kernel_rfl) (by kernel_rfl) (by kernel_rfl) (fun _ _ _ h => h) (Or.inl ⟨by rfl, ?_⟩) (⟨HM11.out.blk HO0.out (by simp), HM11.out.blk HT0.out (by simp)⟩) ?_
    rotate_left
    · intro wq hSw
      go_simp
      first | done | (with_reducible rfl)
    simp only [Act.put, List.setIfInBounds_toArray, List.set_cons_zero, List.set_cons_succ]
    refine wpAnyH_done (by kernel_rfl) ?_ _
    by_cases hs : side = 1
    · have HQ : Hid ((if side = 1 then 1 else 0 : Nat) = 1) := hide (if_pos hs)
      have hsb : (side == 1) = true := by simp [hs]
      clear hs
      go_wp2_with fail
      go_ret
      have hbx := fresh_box (X := w_10) 1 side own other HQ.out HI10.out
      try rw [World.size_alloc] at hbx
      have hmx := HM10.out.alloc (.cells (freshC w0.drew.heap.size 1 own other) 69)
      have hsz := HM10.out.size
      have hl0 := HLe.out
      have hl1 := HLm.out
      refine ⟨_, _, rfl, hbx, HM0.out.trans hmx (by simp), ?_, ?_⟩
      · (try simp at hsz ⊢); omega
      · (try simp at hl1 ⊢); omega
    · have HQ : Hid ((if side = 1 then 1 else 0 : Nat) = 0) := hide (if_neg hs)
      have hsb : (side == 1) = false := by simp [hs]
      clear hs
      go_wp2_with fail
      go_ret
      have hbx := fresh_box (X := w_10) 0 side own other HQ.out HI10.out
      try rw [World.size_alloc] at hbx
      have hmx := HM10.out.alloc (.cells (freshC w0.drew.heap.size 0 own other) 69)
      have hsz := HM10.out.size
      have hl0 := HLe.out
      have hl1 := HLm.out
      refine ⟨_, _, rfl, hbx, HM0.out.trans hmx (by simp), ?_, ?_⟩
      · (try simp at hsz ⊢); omega
      · (try simp at hl1 ⊢); omega
end Go.Proofs.YtjdfemfobcjecaaGreat

/-
  streams: make.
-/
namespace Go.Proofs.YtjdfemfobcjecaaGreat
open Go.RowKit Go.Sort
set_option linter.unusedVariables false
set_option linter.unusedSimpArgs false
/-- one stream more -/
def Ss.made (s : Ss) (x : St) : Ss := { s with l := s.l ++ [x], o0 := if x.id % 4 = 0 then s.o0 + 1 else s.o0, o1 := if x.id % 4 = 1 then s.o1 + 1 else s.o1, o2 := if x.id % 4 = 2 then s.o2 + 1 else s.o2, o3 := if x.id % 4 = 3 then s.o3 + 1 else s.o3 }
theorem Ss.made_look {s : Ss} {x : St} (h : ∀ y ∈ s.l, y.id ≠ x.id) : (s.made x).look = upd s.look (x.id : Int) (some (.pointer (some ⟨x.xb, 0, none⟩))) := by
  funext z
  unfold Ss.look upd Ss.made
  simp only
  rw [List.find?_append]
  by_cases hz : z = (x.id : Int)
  · subst hz
    rw [if_pos rfl]
    have : s.l.find? (fun g => decide ((g.id : Int) = (x.id : Int))) = none := by
      rw [List.find?_eq_none]
      intro y hy
      simp only [decide_eq_true_eq]
      intro e
      exact h y hy (by omega)
    rw [this]
    simp
  · rw [if_neg hz]
    have : [x].find? (fun g => decide ((g.id : Int) = z)) = none := by
      simp only [List.find?_cons, List.find?_nil]
      rw [decide_eq_false (fun e => hz e.symm)]
    rw [this, Option.or_none]
theorem Ss.made_cells (s : Ss) (x : St) : (s.made x).cells = s.cells.setIfInBounds (14 + x.id % 4) (.int .u64 ((s.op (x.id % 4) + 1 : Nat) : Int)) := by
  have h4 : x.id % 4 < 4 := Nat.mod_lt _ (by omega)
  unfold Ss.made Ss.cells Ss.op
  simp only
  generalize x.id % 4 = k at h4
  match k, h4 with
  | 0, _ => rfl
  | 1, _ => rfl
  | 2, _ => rfl
  | 3, _ => rfl
theorem sbox_made {w w1 w2 w3 : World} {sb : Nat} {s : Ss} {x : St} (h : SBox w sb s) (m1 : Mod [] w w1) (hx : x.Box w1) (hf : ∀ k ∈ x.foot, w.heap.size ≤ k ∧ k < w1.heap.size) (hid : ∀ y ∈ s.l, y.id ≠ x.id)
    (m2 : Mod [s.mb] w1 w2) (hm2 : IMap w2 s.mb .u64 (upd s.look (x.id : Int) (some (.pointer (some ⟨x.xb, 0, none⟩))))) (hb3 : Blk w3 sb 69 (s.made x).cells) (m3 : Mod [sb] w2 w3) : SStep w sb s (s.made x) w3 := by
  have hsl : sb < w.heap.size := h.blk.lt
  have hml : s.mb < w.heap.size := h.map.lt
  have m12 : Mod [s.mb] w w2 := (m1.mono (G := [s.mb]) (by simp)).trans m2 (by simp)
  have m13 : Mod [sb, s.mb] w w3 := (m12.mono (G := [sb, s.mb]) (by simp)).trans m3 (by simp)
  have hl : (s.made x).l = s.l ++ [x] := rfl
  have hmb : (s.made x).mb = s.mb := rfl
  have hx3 : x.Box w3 := by
    refine hx.mod (F := [sb, s.mb]) ((m2.mono (G := [sb, s.mb]) (by simp)).trans m3 (by simp)) (fun k hk hm => ?_)
    have := hf k hk
    simp only [List.mem_cons, List.not_mem_nil, or_false] at hm
    omega
  have old : ∀ y ∈ s.l, ∀ k ∈ y.foot, k ≠ sb ∧ k ≠ s.mb := fun y hy k hk => ⟨fun e => (h.sm.2 y hy).1 (e ▸ hk), fun e => (h.sm.2 y hy).2 (e ▸ hk)⟩
  refine ⟨⟨hb3, ?_, fun y hy => ?_, fun y hy z hz hne k hk hkz => ?_, ⟨h.sm.1, fun y hy => ?_⟩, fun y hy k hk => ?_⟩, m13.mono (fun k hk => .inl (Ss.mem_foot.2 ?_)), fun k hk => ?_⟩
  · rw [Ss.made_look hid]
    exact hm2.mod m3 (by simpa using Ne.symm h.sm.1)
  · rw [hl, List.mem_append, List.mem_singleton] at hy
    rcases hy with hy | rfl
    · refine (h.all y hy).mod m13 (fun k hk hm => ?_)
      have := old y hy k hk
      simp only [List.mem_cons, List.not_mem_nil, or_false] at hm
      omega
    · exact hx3
  · rw [hl, List.mem_append, List.mem_singleton] at hy hz
    rcases hy with hy | hy
    · rcases hz with hz | hz
      · exact h.dis y hy z hz hne k hk hkz
      · rw [hz] at hkz
        have := h.lt y hy k hk
        have := (hf k hkz).1
        omega
    · rcases hz with hz | hz
      · rw [hy] at hk
        have := h.lt z hz k hkz
        have := (hf k hk).1
        omega
      · exact hne (by rw [hy, hz])
  · rw [hl, List.mem_append, List.mem_singleton] at hy
    rcases hy with hy | rfl
    · exact h.sm.2 y hy
    · exact ⟨fun hm => by have := (hf _ hm).1; omega, fun hm => by have := (hf _ hm).1; rw [hmb] at *; omega⟩
  · rw [hl, List.mem_append, List.mem_singleton] at hy
    rcases hy with hy | rfl
    · exact Nat.lt_of_lt_of_le (h.lt y hy k hk) m13.size
    · have := (hf k hk).2
      have := m2.size
      have := m3.size
      omega
  · simp only [List.mem_cons, List.not_mem_nil, or_false] at hk
    rcases hk with hk | hk
    · exact .inl hk
    · exact .inr (.inl hk)
  · rcases Ss.mem_foot.1 hk with rfl | rfl | ⟨y, hy, hky⟩
    · exact .inl (Ss.mem_foot.2 (.inl rfl))
    · exact .inl (Ss.mem_foot.2 (.inr (.inl rfl)))
    · rw [hl, List.mem_append, List.mem_singleton] at hy
      rcases hy with hy | rfl
      · exact .inl (Ss.mem_foot.2 (.inr (.inr ⟨y, hy, hky⟩)))
      · exact .inr (hf k hky).1
def nd0 : Nd := ⟨0, false, false⟩
def Ss.newSt (s : Ss) (id xb ib im ob : Nat) : St := ⟨xb, id, if s.takes id then some (ib, im, Ib.fresh (s.wayIn id)) else none, if s.sends id then some (ob, .slice none 0 0, .slice none 0 0, Ob.fresh (s.wayOut id)) else none, if s.takes id then s.wayIn id else 0, false, nd0, nd0, 0⟩
set_option maxRecDepth 100000 in
set_option maxHeartbeats 8000000 in
theorem stmake_any (w : World) (sb : Nat) (s : Ss) (h : SBox w sb s) (id : Nat) (hid : id ≤ 4611686018427387903) (hnew : ∀ y ∈ s.l, y.id ≠ id) (hop : s.op (id % 4) ≤ 1000) (hin : s.wayIn id ≤ 4611686018427387903) (hout : s.wayOut id ≤ 4611686018427387903) (hts : s.takes id = true ∨ s.sends id = true) :
    Calls Tryz.prog 36 #[.pointer (some ⟨sb, 0, none⟩), .int .u64 (id : Int)] w fun e w' => e = .returned (.tuple #[]) ∧ ∃ xb ib im ob, SStep w sb s (s.made (s.newSt id xb ib im ob)) w' := by
  have HSB := hide h
  have hm0 : Mod [] w (w.alloc (.cells #[.int .u64 (id : Int), .pointer none, .pointer none, .int .u64 0, .bool false, .int .u64 0, .bool false, .bool false, .int .u64 0, .bool false, .bool false, .int .u64 0] 83)) := (Mod.refl [] w).alloc _
  have HB1 := hide (h.new hm0)
  have HWay := hide (stway_any _ sb s HB1.out id (by omega))
  have HTk := hide (fun (w' : World) (m : Mod [] w w') (b : Bool) (hb : s.takes id = b) => sttakes_any w' sb s (h.new m) id (by omega) b hb)
  have HSe := hide (fun (w' : World) (m : Mod [] w w') (b : Bool) (hb : s.sends id = b) => stsends_any w' sb s (h.new m) id (by omega) b hb)
  have HX0 := hide (Blk.new w 83 #[.int .u64 (id : Int), .pointer none, .pointer none, .int .u64 0, .bool false, .int .u64 0, .bool false, .bool false, .int .u64 0, .bool false, .bool false, .int .u64 0])
  have HM0 := hide hm0
  obtain ⟨bt, hbt⟩ : ∃ b, s.takes id = b := ⟨_, rfl⟩
  obtain ⟨bs, hbs⟩ : ∃ b, s.sends id = b := ⟨_, rfl⟩
  have HBt := hide hbt
  have HBs := hide hbs
  have hts2 : bt = true ∨ bs = true := by rw [← hbt, ← hbs]; exact hts
  obtain ⟨wi, hwi⟩ : ∃ wi, s.wayIn id = wi := ⟨_, rfl⟩
  obtain ⟨wo, hwo⟩ : ∃ wo, s.wayOut id = wo := ⟨_, rfl⟩
  have HWi := hide hwi
  have HWo := hide hwo
  rw [hwi] at hin HWay
  rw [hwo] at hout HWay
  have HNew := hide hnew
  have hsl : sb < w.heap.size := h.blk.lt
  have hk4 : id % 4 < 4 := Nat.mod_lt _ (by omega)
  obtain ⟨k, hk⟩ : ∃ k, id % 4 = k := ⟨_, rfl⟩
  have HK := hide hk
  have hrem : ((id : Int) % 4) = (k : Int) := by omega
  rw [hk] at hop hk4
  have HOp := hide hop
  obtain ⟨op, hopk⟩ : ∃ op, s.op k = op := ⟨_, rfl⟩
  have HOk := hide hopk
  rw [hopk] at hop
  have HIn := hide (fun w' => inew_any w' wi (by omega))
  have HOut := hide (fun w' => new_any w' wo (by omega))
  clear h hm0 hts hnew hbt hbs hwi hwo hk hopk
  go_enter Tryz.func36, Tryz.ntmps36
  go_wp2_with fail
  refine HWay.out.mono ?_
  rintro e w1 ⟨rfl, n1, rfl⟩
  have HM1 := hide (HM0.out.drewN n1)
  have HX1 : Hid (Blk ((w.alloc (.cells #[.int .u64 (id : Int), .pointer none, .pointer none, .int .u64 0, .bool false, .int .u64 0, .bool false, .bool false, .int .u64 0, .bool false, .bool false, .int .u64 0] 83)).drewN n1) w.heap.size 83 #[.int .u64 (id : Int), .pointer none, .pointer none, .int .u64 0, .bool false, .int .u64 0, .bool false, .bool false, .int .u64 0, .bool false, .bool false, .int .u64 0]) := hide (by exact HX0.out)
  obtain ⟨wa, hwa⟩ : ∃ wa, (w.alloc (.cells #[.int .u64 (id : Int), .pointer none, .pointer none, .int .u64 0, .bool false, .int .u64 0, .bool false, .bool false, .int .u64 0, .bool false, .bool false, .int .u64 0] 83)).drewN n1 = wa := ⟨_, rfl⟩
  rw [hwa] at HM1 HX1 ⊢
  clear hwa HWay
  have HTk1 := hide (HTk.out wa HM1.out bt HBt.out)
  go_wp2_with fail
  refine HTk1.out.mono ?_
  rintro e w2 ⟨rfl, rfl⟩
  have hxlt := HX1.out.lt
  have x1 : w2.cell? ⟨w.heap.size, 1, none⟩ = some (.pointer none) := HX1.out.cell 1
  cases bt with
  | true =>
    go_wp2_with fail
    refine (HIn.out _).mono ?_
    rintro e w3 ⟨ib, im, rfl, hib, m3, hb3, hm3⟩
    have HM3 := hide (HM1.out.trans m3 (by simp))
    have hx3 := m3.blk HX1.out (by simp)
    have x1' : w3.cell? ⟨w.heap.size, 1, none⟩ = some (.pointer none) := hx3.cell 1
    have f1 : w3.frozen? ⟨w.heap.size, 1, none⟩ = false := hx3.frozen 1
    have x3' : w3.cell? ⟨w.heap.size, 3, none⟩ = some (.int .u64 0) := hx3.cell 3
    have f3 : w3.frozen? ⟨w.heap.size, 3, none⟩ = false := hx3.frozen 3
    have HM4 := hide ((HM3.out.setCell (p := ⟨w.heap.size, 1, none⟩) (.inr (Nat.le_refl _)) (.pointer (some ⟨ib, 0, none⟩))).setCell (p := ⟨w.heap.size, 3, none⟩) (.inr (Nat.le_refl _)) (.int .u64 (wi : Int)))
    have HX4 := hide ((hx3.set_ 1 (.pointer (some ⟨ib, 0, none⟩))).set_ 3 (.int .u64 (wi : Int)))
    have HI4 := hide (hib.mod (((Mod.refl [w.heap.size] w3).setCell (p := ⟨w.heap.size, 1, none⟩) (.inl (by simp)) (.pointer (some ⟨ib, 0, none⟩))).setCell (p := ⟨w.heap.size, 3, none⟩) (.inl (by simp)) (.int .u64 (wi : Int))) (by simp; omega) (by simp; omega))
    have HIl := hide (And.intro hb3 hm3)
    have HSe4 := hide (HSe.out _ HM4.out bs HBs.out)
    clear hib m3 hx3 hb3 hm3 x1
    go_wp2_with fail
    refine HSe4.out.mono ?_
    rintro e w5 ⟨rfl, rfl⟩
    cases bs with
    | true =>
      have HX5 := HX4
      go_wp2_with fail
      refine (HOut.out _).mono ?_
      rintro e w6 ⟨ob, rfl, hob, m6, hb6⟩
      have HM6 := hide (HM4.out.trans m6 (by simp))
      have hx6 := m6.blk HX5.out (by simp)
      have x2 : w6.cell? ⟨w.heap.size, 2, none⟩ = some (.pointer none) := hx6.cell 2
      have f2 : w6.frozen? ⟨w.heap.size, 2, none⟩ = false := hx6.frozen 2
      have HX7 := hide (hx6.set_ 2 (.pointer (some ⟨ob, 0, none⟩)))
      have HM7 := hide (HM6.out.setCell (p := ⟨w.heap.size, 2, none⟩) (.inr (Nat.le_refl _)) (.pointer (some ⟨ob, 0, none⟩)))
      have hlo := HX5.out.lt
      have mset : Mod [w.heap.size] w6 (w6.setCell ⟨w.heap.size, 2, none⟩ (.pointer (some ⟨ob, 0, none⟩))) := (Mod.refl [w.heap.size] w6).setCell (p := ⟨w.heap.size, 2, none⟩) (.inl (by simp)) _
      have hobx : ob ≠ w.heap.size := by omega
      have HO7 := hide (hob.mod mset (by simp [ofoot, Value.ownBlock]; exact hobx))
      have hil := HIl.out
      have HI7 := hide ((HI4.out.mod m6 (by simp) (by simp)).mod mset (by simp; omega) (by simp; omega))
      have hiob : ib < ob ∧ im < ob := ⟨Nat.lt_of_lt_of_le HI4.out.blk.lt hb6, Nat.lt_of_lt_of_le HI4.out.mlt hb6⟩
      have HNs : Hid (s.newSt id w.heap.size ib im ob = ⟨w.heap.size, id, some (ib, im, Ib.fresh wi), some (ob, .slice none 0 0, .slice none 0 0, Ob.fresh wo), wi, false, nd0, nd0, 0⟩) := hide (by unfold Ss.newSt; rw [HBt.out, HBs.out, HWi.out, HWo.out]; rfl)
      have hbox : (St.mk w.heap.size id (some (ib, im, Ib.fresh wi)) (some (ob, .slice none 0 0, .slice none 0 0, Ob.fresh wo)) wi false nd0 nd0 0).Box (w6.setCell ⟨w.heap.size, 2, none⟩ (.pointer (some ⟨ob, 0, none⟩))) :=
        ⟨HX7.out, fun b m o e => by cases e; exact HI7.out, fun b dv sv o e => by cases e; exact HO7.out, by simp [St.ifoot]; omega, by simp [St.ofoot, ofoot, Value.ownBlock]; omega, by simp [St.ifoot, St.ofoot, ofoot, Value.ownBlock]; omega⟩
      have hfoot : ∀ k ∈ (St.mk w.heap.size id (some (ib, im, Ib.fresh wi)) (some (ob, .slice none 0 0, .slice none 0 0, Ob.fresh wo)) wi false nd0 nd0 0).foot, w.heap.size ≤ k ∧ k < (w6.setCell ⟨w.heap.size, 2, none⟩ (.pointer (some ⟨ob, 0, none⟩))).heap.size := by
        have l1 := HX7.out.lt
        have l2 := HI7.out.blk.lt
        have l3 := HI7.out.mlt
        have l4 := HO7.out.blk.lt
        intro k hk
        simp [St.foot, St.ifoot, St.ofoot, ofoot, Value.ownBlock] at hk
        rcases hk with rfl | rfl | rfl | rfl <;> refine ⟨by omega, by assumption⟩
      have HBox := hide hbox
      have HFoot := hide hfoot
      clear hob m6 hx6 mset hbox hfoot hb6
      have hmap := (HSB.out.map.mod HM7.out (by simp)).update (P := Tryz.prog) (T := 66) Tryz.underlying66 Tryz.underlying22 (id : Int) (.pointer (some ⟨w.heap.size, 0, none⟩))
      obtain ⟨w8, hup, hm8, m8, hsz8⟩ := hmap
      have hset := (HSB.out.new HM7.out).blk
      have s13 : (w6.setCell ⟨w.heap.size, 2, none⟩ (.pointer (some ⟨ob, 0, none⟩))).cell? ⟨sb, 13, none⟩ = some (.map (some s.mb)) := hset.cell 13
      have hset8 := m8.blk hset (by simpa using HSB.out.sm.1)
      have HSet8 := hide hset8
      have HM8 := hide hm8
      have HMd8 := hide m8
      have so : w8.cell? ⟨sb, 14 + k, none⟩ = some (.int .u64 (op : Int)) := by
        rw [hset8.cell]
        have h4 := hk4
        have e := HOk.out
        clear hup
        match k, h4, e with
        | 0, _, e => rw [← e]; rfl
        | 1, _, e => rw [← e]; rfl
        | 2, _, e => rw [← e]; rfl
        | 3, _, e => rw [← e]; rfl
      have fo : w8.frozen? ⟨sb, 14 + k, none⟩ = false := hset8.frozen _
      have a1 : IntKind.u64.wrap ((op : Int) + 1) = (op : Int) + 1 := IntWalk.u64_in _ (by omega)
      have ki : (k : Int) < 4 := by omega
      have k0 : (0 : Int) ≤ (k : Int) := by omega
      clear hset hset8 hm8 m8 hsz8
      go_wp2_with fail
      go_region
      go_wp2_with fail
      go_end0
      refine ⟨rfl, w.heap.size, ib, im, ob, ?_⟩
      rw [HNs.out]
      refine sbox_made HSB.out HM7.out HBox.out HFoot.out (by intro y hy; exact HNew.out y hy) HMd8.out HM8.out (w3 := _) ?_ ?_
      · have hk' := HK.out
        have ho' := HOk.out
        rw [Ss.made_cells]
        show Blk _ sb _ (s.cells.setIfInBounds (14 + id % 4) (.int .u64 ((s.op (id % 4) + 1 : Nat) : Int)))
        rw [hk', ho']
        exact (HSet8.out.set_ (14 + k) (.int .u64 ((op + 1 : Nat) : Int)))
      · exact (((Mod.refl [sb] w8).setCell (p := ⟨sb, 14 + k, none⟩) (.inl (by simp)) _).drewN _)
    | false =>
      have hil := HIl.out
      have hlo := HX1.out.lt
      have HNs : Hid (s.newSt id w.heap.size ib im 0 = ⟨w.heap.size, id, some (ib, im, Ib.fresh wi), none, wi, false, nd0, nd0, 0⟩) := hide (by unfold Ss.newSt; rw [HBt.out, HBs.out, HWi.out]; rfl)
      have hbox : (St.mk w.heap.size id (some (ib, im, Ib.fresh wi)) none wi false nd0 nd0 0).Box ((w3.setCell ⟨w.heap.size, 1, none⟩ (.pointer (some ⟨ib, 0, none⟩))).setCell ⟨w.heap.size, 3, none⟩ (.int .u64 (wi : Int))) :=
        ⟨HX4.out, fun b m o e => by cases e; exact HI4.out, (fun b dv sv o e => by cases e), by simp [St.ifoot]; omega, by simp [St.ofoot], by simp [St.ifoot, St.ofoot]⟩
      have hfoot : ∀ k ∈ (St.mk w.heap.size id (some (ib, im, Ib.fresh wi)) none wi false nd0 nd0 0).foot, w.heap.size ≤ k ∧ k < (((w3.setCell ⟨w.heap.size, 1, none⟩ (.pointer (some ⟨ib, 0, none⟩))).setCell ⟨w.heap.size, 3, none⟩ (.int .u64 (wi : Int)))).heap.size := by
        have l1 := HX4.out.lt
        have l2 := HI4.out.blk.lt
        have l3 := HI4.out.mlt
        intro k hk
        simp [St.foot, St.ifoot, St.ofoot] at hk
        rcases hk with rfl | rfl | rfl <;> refine ⟨by omega, by assumption⟩
      have HBox := hide hbox
      have HFoot := hide hfoot
      clear hbox hfoot
      have hmap := (HSB.out.map.mod HM4.out (by simp)).update (P := Tryz.prog) (T := 66) Tryz.underlying66 Tryz.underlying22 (id : Int) (.pointer (some ⟨w.heap.size, 0, none⟩))
      obtain ⟨w8, hup, hm8, m8, hsz8⟩ := hmap
      have hset := (HSB.out.new HM4.out).blk
      have s13 : (((w3.setCell ⟨w.heap.size, 1, none⟩ (.pointer (some ⟨ib, 0, none⟩))).setCell ⟨w.heap.size, 3, none⟩ (.int .u64 (wi : Int)))).cell? ⟨sb, 13, none⟩ = some (.map (some s.mb)) := hset.cell 13
      have hset8 := m8.blk hset (by simpa using HSB.out.sm.1)
      have HSet8 := hide hset8
      have HM8 := hide hm8
      have HMd8 := hide m8
      have so : w8.cell? ⟨sb, 14 + k, none⟩ = some (.int .u64 (op : Int)) := by
        rw [hset8.cell]
        have h4 := hk4
        have e := HOk.out
        clear hup
        match k, h4, e with
        | 0, _, e => rw [← e]; rfl
        | 1, _, e => rw [← e]; rfl
        | 2, _, e => rw [← e]; rfl
        | 3, _, e => rw [← e]; rfl
      have fo : w8.frozen? ⟨sb, 14 + k, none⟩ = false := hset8.frozen _
      have a1 : IntKind.u64.wrap ((op : Int) + 1) = (op : Int) + 1 := IntWalk.u64_in _ (by omega)
      have ki : (k : Int) < 4 := by omega
      have k0 : (0 : Int) ≤ (k : Int) := by omega
      clear hset hset8 hm8 m8 hsz8
      go_wp2_with fail
      go_region
      go_wp2_with fail
      go_end0
      refine ⟨rfl, w.heap.size, ib, im, 0, ?_⟩
      rw [HNs.out]
      refine sbox_made HSB.out HM4.out HBox.out HFoot.out (by intro y hy; exact HNew.out y hy) HMd8.out HM8.out (w3 := _) ?_ ?_
      · have hk' := HK.out
        have ho' := HOk.out
        rw [Ss.made_cells]
        show Blk _ sb _ (s.cells.setIfInBounds (14 + id % 4) (.int .u64 ((s.op (id % 4) + 1 : Nat) : Int)))
        rw [hk', ho']
        exact (HSet8.out.set_ (14 + k) (.int .u64 ((op + 1 : Nat) : Int)))
      · exact (((Mod.refl [sb] w8).setCell (p := ⟨sb, 14 + k, none⟩) (.inl (by simp)) _).drewN _)
  | false =>
    obtain rfl : bs = true := by rcases hts2 with h | h; cases h; exact h
    have HSe4 := hide (HSe.out _ HM1.out true HBs.out)
    go_wp2_with fail
    refine HSe4.out.mono ?_
    rintro e w5 ⟨rfl, rfl⟩
    have HX5 := HX1
    go_wp2_with fail
    refine (HOut.out _).mono ?_
    rintro e w6 ⟨ob, rfl, hob, m6, hb6⟩
    have HM6 := hide (HM1.out.trans m6 (by simp))
    have hx6 := m6.blk HX5.out (by simp)
    have x2 : w6.cell? ⟨w.heap.size, 2, none⟩ = some (.pointer none) := hx6.cell 2
    have f2 : w6.frozen? ⟨w.heap.size, 2, none⟩ = false := hx6.frozen 2
    have HX7 := hide (hx6.set_ 2 (.pointer (some ⟨ob, 0, none⟩)))
    have HM7 := hide (HM6.out.setCell (p := ⟨w.heap.size, 2, none⟩) (.inr (Nat.le_refl _)) (.pointer (some ⟨ob, 0, none⟩)))
    have hlo := HX5.out.lt
    have mset : Mod [w.heap.size] w6 (w6.setCell ⟨w.heap.size, 2, none⟩ (.pointer (some ⟨ob, 0, none⟩))) := (Mod.refl [w.heap.size] w6).setCell (p := ⟨w.heap.size, 2, none⟩) (.inl (by simp)) _
    have hobx : ob ≠ w.heap.size := by omega
    have HO7 := hide (hob.mod mset (by simp [ofoot, Value.ownBlock]; exact hobx))
    have HNs : Hid (s.newSt id w.heap.size 0 0 ob = ⟨w.heap.size, id, none, some (ob, .slice none 0 0, .slice none 0 0, Ob.fresh wo), 0, false, nd0, nd0, 0⟩) := hide (by unfold Ss.newSt; rw [HBt.out, HBs.out, HWo.out]; rfl)
    have hbox : (St.mk w.heap.size id none (some (ob, .slice none 0 0, .slice none 0 0, Ob.fresh wo)) 0 false nd0 nd0 0).Box (w6.setCell ⟨w.heap.size, 2, none⟩ (.pointer (some ⟨ob, 0, none⟩))) :=
      ⟨HX7.out, (fun b m o e => by cases e), fun b dv sv o e => by cases e; exact HO7.out, by simp [St.ifoot], by simp [St.ofoot, ofoot, Value.ownBlock]; omega, by simp [St.ifoot]⟩
    have hfoot : ∀ k ∈ (St.mk w.heap.size id none (some (ob, .slice none 0 0, .slice none 0 0, Ob.fresh wo)) 0 false nd0 nd0 0).foot, w.heap.size ≤ k ∧ k < (w6.setCell ⟨w.heap.size, 2, none⟩ (.pointer (some ⟨ob, 0, none⟩))).heap.size := by
      have l1 := HX7.out.lt
      have l4 := HO7.out.blk.lt
      intro k hk
      simp [St.foot, St.ifoot, St.ofoot, ofoot, Value.ownBlock] at hk
      rcases hk with rfl | rfl <;> refine ⟨by omega, by assumption⟩
    have HBox := hide hbox
    have HFoot := hide hfoot
    clear hob m6 hx6 mset hbox hfoot hb6
    have hmap := (HSB.out.map.mod HM7.out (by simp)).update (P := Tryz.prog) (T := 66) Tryz.underlying66 Tryz.underlying22 (id : Int) (.pointer (some ⟨w.heap.size, 0, none⟩))
    obtain ⟨w8, hup, hm8, m8, hsz8⟩ := hmap
    have hset := (HSB.out.new HM7.out).blk
    have s13 : (w6.setCell ⟨w.heap.size, 2, none⟩ (.pointer (some ⟨ob, 0, none⟩))).cell? ⟨sb, 13, none⟩ = some (.map (some s.mb)) := hset.cell 13
    have hset8 := m8.blk hset (by simpa using HSB.out.sm.1)
    have HSet8 := hide hset8
    have HM8 := hide hm8
    have HMd8 := hide m8
    have so : w8.cell? ⟨sb, 14 + k, none⟩ = some (.int .u64 (op : Int)) := by
      rw [hset8.cell]
      have h4 := hk4
      have e := HOk.out
      clear hup
      match k, h4, e with
      | 0, _, e => rw [← e]; rfl
      | 1, _, e => rw [← e]; rfl
      | 2, _, e => rw [← e]; rfl
      | 3, _, e => rw [← e]; rfl
    have fo : w8.frozen? ⟨sb, 14 + k, none⟩ = false := hset8.frozen _
    have a1 : IntKind.u64.wrap ((op : Int) + 1) = (op : Int) + 1 := IntWalk.u64_in _ (by omega)
    have ki : (k : Int) < 4 := by omega
    have k0 : (0 : Int) ≤ (k : Int) := by omega
    clear hset hset8 hm8 m8 hsz8
    go_wp2_with fail
    go_region
    go_wp2_with fail
    go_end0
    refine ⟨rfl, w.heap.size, 0, 0, ob, ?_⟩
    rw [HNs.out]
    refine sbox_made HSB.out HM7.out HBox.out HFoot.out (by intro y hy; exact HNew.out y hy) HMd8.out HM8.out (w3 := _) ?_ ?_
    · have hk' := HK.out
      have ho' := HOk.out
      rw [Ss.made_cells]
      show Blk _ sb _ (s.cells.setIfInBounds (14 + id % 4) (.int .u64 ((s.op (id % 4) + 1 : Nat) : Int)))
      rw [hk', ho']
      exact (HSet8.out.set_ (14 + k) (.int .u64 ((op + 1 : Nat) : Int)))
    · exact (((Mod.refl [sb] w8).setCell (p := ⟨sb, 14 + k, none⟩) (.inl (by simp)) _).drewN _)
end Go.Proofs.YtjdfemfobcjecaaGreat
