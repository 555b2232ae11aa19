/-
  A region's order, checked by one look at each pair of its operations.
-/
import Derived.Still
import Derived.Lib.QuietBelow
namespace Go.Proofs.YtkbpndohpkcikaaDoor
open Go.RowKit

def regChk (md : Region.Mode) (ops : Array Oper) : List Oper → Nat → Bool
  | [], _ => true
  | o :: l, k => (o.after.toList.all fun e => !Region.binds md e || Nat.blt e.on k) && (l.all fun oj => oj.after.any (fun e => Region.binds md e && e.on == k) || o.apart ops oj) && regChk md ops l (k + 1)

theorem lexFrom_chk {md : Region.Mode} {ops : Array Oper} : ∀ (l : List Oper) (k : Nat) (listed : Array Bool), (∀ j, l[j]? = ops[k + j]?) → k + l.length = ops.size → listed.size = ops.size →
    (∀ i, i < ops.size → listed[i]? = some (decide (i < k))) → regChk md ops l k = true → Region.lexFrom md ops l.length k listed = true
  | [], k, listed, _, hk, hs, hp, _ => by
    simp only [List.length_nil, Region.lexFrom, List.isEmpty_iff, Region.ready, List.filter_eq_nil_iff, List.mem_range]
    intro i hi
    have h1 := hp i hi
    have h2 : i < k := by simp at hk; omega
    rw [decide_eq_true h2] at h1
    rw [Array.getD_eq_getD_getElem?, h1]
    simp
  | o :: l, k, listed, hl, hk, hs, hp, hc => by
    simp only [regChk, Bool.and_eq_true] at hc
    obtain ⟨⟨c1, c2⟩, c3⟩ := hc
    have hkn : k < ops.size := by simp at hk; omega
    have h0 : ops[k]? = some o := by have := hl 0; simpa using this.symm
    simp only [List.length_cons, Region.lexFrom, Bool.and_eq_true]
    refine ⟨⟨?_, ?_⟩, ?_⟩
    · rw [List.contains_iff_mem]
      simp only [Region.ready, List.mem_filter, List.mem_range]
      refine ⟨hkn, ?_⟩
      have h1 := hp k hkn
      rw [decide_eq_false (Nat.lt_irrefl k)] at h1
      rw [Array.getD_eq_getD_getElem?, h1, h0]
      simp only [Option.getD_some, Bool.not_false, Bool.true_and, Option.map_some]
      rw [Array.all_eq_true_iff_forall_mem]
      intro e he
      have := List.all_eq_true.1 c1 e (by simpa using he)
      rw [Bool.or_eq_true] at this ⊢
      rcases this with h | h
      · exact .inl h
      · right
        have hlt : e.on < k := by simpa using h
        have h2 := hp e.on (by omega)
        rw [decide_eq_true hlt] at h2
        rw [Array.getD_eq_getD_getElem?, h2]
        rfl
    · unfold Region.free
      rw [h0]
      simp only [List.all_eq_true, List.mem_range]
      intro j hj
      have h1 := hp j hj
      by_cases hjk : j = k
      · simp [hjk]
      · by_cases hlt : j < k
        · rw [decide_eq_true hlt] at h1
          rw [Array.getD_eq_getD_getElem?, h1]
          simp
        · have hoj : ∃ oj, ops[j]? = some oj := ⟨_, Array.getElem?_eq_getElem hj⟩
          obtain ⟨oj, hoj⟩ := hoj
          have h2 := hl (j - k)
          rw [show k + (j - k) = j by omega, hoj, show j - k = (j - k - 1) + 1 by omega, List.getElem?_cons_succ] at h2
          have h3 := List.all_eq_true.1 c2 oj (List.mem_of_getElem? h2)
          rw [hoj]
          simp only [Bool.or_eq_true] at h3 ⊢
          right
          exact h3
    · refine lexFrom_chk l (k + 1) _ (fun j => ?_) (by simp at hk; omega) (by simpa using hs) (fun i hi => ?_) c3
      · have := hl (j + 1)
        rw [List.getElem?_cons_succ] at this
        rw [this]
        congr 1
        omega
      · rw [Array.getElem?_setIfInBounds]
        by_cases e : k = i
        · subst e
          rw [if_pos rfl, if_pos (by omega), decide_eq_true (by omega)]
        · rw [if_neg e, hp i hi]
          congr 1
          rw [Bool.eq_iff_iff]
          simp only [decide_eq_true_eq]
          omega
theorem lexB_chk {md : Region.Mode} {l : List Oper} (hs : Region.noSelect l.toArray = true) (h : regChk md l.toArray l 0 = true) : Region.lexB md l.toArray = true := by
  unfold Region.lexB
  rw [hs, Bool.true_and]
  have := lexFrom_chk (md := md) (ops := l.toArray) l 0 (Array.replicate l.toArray.size false) (fun j => by simp) (by simp) (by simp) (fun i hi => by simp at hi; simp [hi]) h
  simpa using this
open Go.Sort in
/-- the region of a drawn order whose callees lay blocks of their own, the order checked so -/
theorem wp_region_below {P : Program} {id : Nat} {Q : Exit → Act → World → Prop} {a : Act} {w : World} {l : List Oper} (hm : P.follows .mixedOrders = true) (hs : Region.noSelect l.toArray = true) (hB : regChk .any l.toArray l 0 = true)
    (h : wpQuiet P l.toArray (fun w' => ∃ p : Regrown, w' = grow (redrawn w p.d) p.os) (fun a' => ∀ w', (∃ p : Regrown, w' = grow (redrawn w p.d) p.os) → Q .normal a' w') l a) : (Code.region id l.toArray true).wp P Q a w :=
  wp_region_quiet_below hm (lexB_chk hs hB) h
end Go.Proofs.YtkbpndohpkcikaaDoor
