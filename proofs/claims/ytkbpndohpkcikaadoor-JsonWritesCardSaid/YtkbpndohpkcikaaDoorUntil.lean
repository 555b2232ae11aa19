/-
  A region's order, where what its loads read is turned by its last stores: a fact on the world that holds until the first of these is carried out.
-/
import Derived.Test.YtkbpndohpkcikaaDoorMem
import Derived.Deep.RegionHeld
namespace Go.Proofs.YtkbpndohpkcikaaDoor
open Go.RowKit

section
variable {P : Program} {ops : Array Oper} {Q : Exit → Act → World → Prop} {md : Region.Mode} {st : List Nat} {S : World → Prop}
/-- none of the late ones has come up -/
def early (st : List Nat) (listed : Array Bool) : Bool := st.all fun j => !listed.getD j false
/-- what an operation waits for -/
def nxt (md : Region.Mode) (ops : Array Oper) (k : Nat) : List Nat := match ops[k]? with
  | some o => (o.after.toList.filter (Region.binds md)).map fun e => e.on
  | none => []
def reach (md : Region.Mode) (ops : Array Oper) : Nat → List Nat → List Nat
  | 0, l => l
  | n + 1, l => reach md ops n (l ++ ((l.flatMap (nxt md ops)).filter fun x => !l.contains x).eraseDups)
/-- each of the late ones waits for this one, straight or not -/
def waits (md : Region.Mode) (ops : Array Oper) (st : List Nat) (i : Nat) : Bool := st.all fun j => (reach md ops 6 (nxt md ops j)).contains i
/-- what has come up waited for what has come up -/
def Closed (md : Region.Mode) (ops : Array Oper) (listed : Array Bool) : Prop := ∀ k, listed.getD k false = true → ∀ x ∈ nxt md ops k, listed.getD x false = true
def closedB (md : Region.Mode) (ops : Array Oper) (listed : Array Bool) : Bool := (List.range listed.size).all fun k => !listed.getD k false || (nxt md ops k).all fun x => listed.getD x false
theorem closed_of {md : Region.Mode} {ops : Array Oper} {listed : Array Bool} (h : closedB md ops listed = true) : Closed md ops listed := by
  intro k hk x hx
  have hlt : k < listed.size := by
    rcases Nat.lt_or_ge k listed.size with h' | h'
    · exact h'
    · simp [Array.getElem?_eq_none h'] at hk
  have h1 := List.all_eq_true.1 h k (List.mem_range.2 hlt)
  rw [hk, Bool.not_true, Bool.false_or] at h1
  exact List.all_eq_true.1 h1 x hx
theorem reach_listed {md : Region.Mode} {ops : Array Oper} {listed : Array Bool} (hc : Closed md ops listed) : ∀ (n : Nat) (l : List Nat), (∀ x ∈ l, listed.getD x false = true) → ∀ x ∈ reach md ops n l, listed.getD x false = true
  | 0, l, h => h
  | n + 1, l, h => by
    rw [reach]
    refine reach_listed hc n _ fun x hx => ?_
    rcases List.mem_append.1 hx with hx | hx
    · exact h x hx
    · rw [List.mem_eraseDups, List.mem_filter, List.mem_flatMap] at hx
      obtain ⟨⟨k, hk, hkx⟩, _⟩ := hx
      exact hc k (h k hk) x hkx
theorem nxt_ready {md : Region.Mode} {ops : Array Oper} {listed : Array Bool} {j : Nat} (hj : j ∈ Region.ready md ops listed) : ∀ x ∈ nxt md ops j, listed.getD x false = true := by
  intro x hx
  obtain ⟨_, o, ho, hall⟩ := mem_ready.1 hj
  unfold nxt at hx
  rw [ho] at hx
  simp only [List.mem_map, List.mem_filter] at hx
  obtain ⟨e, ⟨he, hb⟩, rfl⟩ := hx
  exact hall e (by simpa using he) hb
theorem closed_set {md : Region.Mode} {ops : Array Oper} {listed : Array Bool} {j : Nat} (hc : Closed md ops listed) (hj : j ∈ Region.ready md ops listed) : Closed md ops (listed.setIfInBounds j true) := by
  intro k hk x hx
  apply getD_set_true
  by_cases hjk : j = k
  · subst hjk; exact nxt_ready hj x hx
  · rw [getD_set_ne false hjk] at hk
    exact hc k hk x hx
def Until (st : List Nat) (S : World → Prop) (listed : Array Bool) (w : World) : Prop := early st listed = true → S w
def wpAnyU (P : Program) (md : Region.Mode) (ops : Array Oper) (Q : Exit → Act → World → Prop) (st : List Nat) (S : World → Prop) : Nat → Array Bool → Act → World → Prop
  | 0, listed, a, w => Region.ready md ops listed = [] ∧ Q .normal a w
  | fuel + 1, listed, a, w => (Region.ready md ops listed = [] → Q .normal a w) ∧
    ∀ i ∈ Region.ready md ops listed, wpOp P ops Q i (fun a' w' => Until st S (listed.setIfInBounds i true) w' ∧ wpAnyU P md ops Q st S fuel (listed.setIfInBounds i true) a' w') a w
theorem wpAny_of_until : ∀ (fuel : Nat) (listed : Array Bool) (a : Act) (w : World), wpAnyU P md ops Q st S fuel listed a w → wpAny P md ops Q fuel listed a w
  | 0, _, _, _, h => h
  | fuel + 1, _, _, _, h => ⟨h.1, fun i hi => wpOp_mono (fun a' w' h' => wpAny_of_until fuel _ a' w' h'.2) (h.2 i hi)⟩
theorem early_set {listed : Array Bool} {j : Nat} (h : early st listed = true) (hj : j ∉ st) : early st (listed.setIfInBounds j true) = true := by
  unfold early at h ⊢
  rw [List.all_eq_true] at h ⊢
  intro k hk
  have hjk : j ≠ k := fun e => hj (e ▸ hk)
  rw [getD_set_ne false hjk]
  exact h k hk
theorem wpAnyU_first {i : Nat} {oi : Oper} {v : Value} (hi : ops[i]? = some oi) (hsel : ∀ (j : Nat) (o : Oper) cs b, ops[j]? = some o → o.op ≠ .select cs b)
    (hQ : ∀ c a w, Q (.panic c) (a.put oi.dst v) w → Q (.panic c) a w) (hwt : waits md ops st i = true) (hist : i ∉ st) :
    ∀ (fuel : Nat) (listed : Array Bool) (a : Act) (w : World),
      (∀ j oj, ops[j]? = some oj → j ≠ i → listed.getD j true = false → (∀ e ∈ oj.after, Region.binds md e = true → e.on ≠ i) → oi.apart ops oj = true) → early st listed = true → Closed md ops listed →
      i ∈ Region.ready md ops listed → YieldsIf P ops S oi v a → S w →
      wpAnyU P md ops Q st S fuel (listed.setIfInBounds i true) (a.put oi.dst v) w → wpAnyU P md ops Q st S (fuel + 1) listed a w := by
  intro fuel
  induction fuel with
  | zero =>
    intro listed a w _ _ _ hr hy hS H
    refine ⟨fun h => (by rw [h] at hr; cases hr), fun j hj => ?_⟩
    by_cases hji : j = i
    · subst hji; exact hy.wpOp hi hS ⟨fun _ => hS, H⟩
    · have := ready_mono hj hji
      rw [H.1] at this
      cases this
  | succ fuel ih =>
    intro listed a w hfree hea hcl hr hy hS H
    refine ⟨fun h => (by rw [h] at hr; cases hr), fun j hj => ?_⟩
    by_cases hji : j = i
    · subst hji; exact hy.wpOp hi hS ⟨fun _ => hS, H⟩
    · have h1 := H.2 j (ready_mono hj hji)
      obtain ⟨hjun, oj, hoj, hall⟩ := mem_ready.1 hj
      have hnot : ∀ e ∈ oj.after, Region.binds md e = true → e.on ≠ i := fun e he hb heq => by
        have h2 := hall e he hb
        have h3 := (mem_ready.1 hr).1
        rw [heq] at h2
        rcases Nat.lt_or_ge i listed.size with h' | h'
        · simp [h'] at h2 h3; rw [h3] at h2; cases h2
        · simp [Array.getElem?_eq_none h'] at h2
      have hjst : j ∉ st := fun hm => by
        have h2 := List.all_eq_true.1 hwt j hm
        have h3 := reach_listed hcl 6 _ (nxt_ready hj) i (by simpa using h2)
        have h4 := (mem_ready.1 hr).1
        rcases Nat.lt_or_ge i listed.size with h' | h'
        · simp [h'] at h3 h4; rw [h4] at h3; cases h3
        · simp [Array.getElem?_eq_none h'] at h3
      have hea' := early_set hea hjst
      have h2 := wpOp_putIf hoj (hfree j oj hoj hji hjun hnot) (fun cs b => hsel i oi cs b hi) (fun cs b => hsel j oj cs b hoj) hQ hy h1
      have hfree' : ∀ k ok, ops[k]? = some ok → k ≠ i → (listed.setIfInBounds j true).getD k true = false →
          (∀ e ∈ ok.after, Region.binds md e = true → e.on ≠ i) → oi.apart ops ok = true := fun k ok hk hki hun hno => by
        refine hfree k ok hk hki ?_ hno
        by_cases hjk : j = k
        · subst hjk; exact hjun
        · rw [getD_set_ne true hjk] at hun; exact hun
      refine wpOp_mono (fun a' w' h3 => ?_) h2
      have hS' : S w' := h3.2.1 (by rw [Array.setIfInBounds_comm _ _ (Ne.symm hji)]; exact early_set hea' hist)
      refine ⟨fun _ => hS', ih (listed.setIfInBounds j true) a' w' hfree' hea' (closed_set hcl hj) (ready_mono hr (Ne.symm hji)) h3.1 hS' ?_⟩
      rw [Array.setIfInBounds_comm _ _ hji]
      exact h3.2.2
/-- one that only reads is taken first -/
theorem takeU {i : Nat} {oi : Oper} {v : Value} {fuel : Nat} {listed : Array Bool} {a : Act} {w : World} (d : Nat) (hi : ops[i]? = some oi) (hd : oi.dst = some d)
    (hs : Region.noSelect ops = true) (hf : Region.free md ops listed i = true) (hr : (Region.ready md ops listed).contains i = true) (hwt : (waits md ops st i && early st listed && !st.contains i && closedB md ops listed) = true)
    (hQ : ∀ c a w, Q (.panic c) (a.put (some d) v) w → Q (.panic c) a w) (hy : YieldsIf P ops S oi v a) (hS : S w)
    (h : wpAnyU P md ops Q st S fuel (listed.setIfInBounds i true) (a.put (some d) v) w) : wpAnyU P md ops Q st S (fuel + 1) listed a w := by
  simp only [Bool.and_eq_true, Bool.not_eq_true'] at hwt
  exact wpAnyU_first hi (Region.noSelect_spec hs) (by rw [hd]; exact hQ) hwt.1.1.1 (fun hm => by have := hwt.1.2; simp at this; exact this hm) fuel listed a w (Region.free_spec hi hf) hwt.1.1.2 (closed_of hwt.2) (by simpa using hr) hy hS (by rw [hd]; exact h)
def AllReadyU (P : Program) (md : Region.Mode) (ops : Array Oper) (Q : Exit → Act → World → Prop) (st : List Nat) (S : World → Prop) (fuel : Nat) (listed : Array Bool) (a : Act) (w : World) (rs : List Nat) : Prop :=
  ∀ i ∈ rs, wpOp P ops Q i (fun a' w' => Until st S (listed.setIfInBounds i true) w' ∧ wpAnyU P md ops Q st S fuel (listed.setIfInBounds i true) a' w') a w
theorem AllReadyU.nil {fuel : Nat} {listed : Array Bool} {a : Act} {w : World} : AllReadyU P md ops Q st S fuel listed a w [] := fun _ h => by cases h
theorem AllReadyU.cons {fuel : Nat} {listed : Array Bool} {a : Act} {w : World} {i : Nat} {o : Oper} {rs : List Nat} (ho : ops[i]? = some o)
    (h : ∀ K' : Act → World → Prop, Hid (∀ a w, Until st S (listed.setIfInBounds i true) w → wpAnyU P md ops Q st S fuel (listed.setIfInBounds i true) a w → K' a w) → if Region.wanted o (yielded ops a.tmps) = true then Oper.wp P o a w K' Q else K' (a.put o.dst undef) w)
    (hs : AllReadyU P md ops Q st S fuel listed a w rs) : AllReadyU P md ops Q st S fuel listed a w (i :: rs) := fun j hj => by
  rcases List.mem_cons.1 hj with rfl | hj
  · exact wpOp_step ho (fun K' hK => h K' (hide (fun a w hS hW => hK a w ⟨hS, hW⟩)))
  · exact hs j hj
theorem wpAnyU_ready {rs : List Nat} {fuel : Nat} {listed : Array Bool} {a : Act} {w : World} (hr : Region.ready md ops listed = rs) (hne : rs ≠ [])
    (h : AllReadyU P md ops Q st S fuel listed a w rs) : wpAnyU P md ops Q st S (fuel + 1) listed a w := ⟨fun h0 => absurd (hr ▸ h0) hne, hr ▸ h⟩
theorem wpAnyU_done {listed : Array Bool} {a : Act} {w : World} (hr : Region.ready md ops listed = []) (h : Q .normal a w) : ∀ fuel, wpAnyU P md ops Q st S fuel listed a w
  | 0 => ⟨hr, h⟩
  | _ + 1 => ⟨fun _ => h, by rw [hr]; simp⟩
theorem wp_region_until {id : Nat} {a : Act} {w : World} (st : List Nat) (S : World → Prop) (hm : P.follows .mixedOrders = true)
    (h : wpAnyU P .any ops Q st S ops.size (Array.replicate ops.size false) a w.drew) : (Code.region id ops true).wp P Q a w :=
  wp_region_any hm (wpAny_of_until _ _ _ _ h)
end
end Go.Proofs.YtkbpndohpkcikaaDoor
