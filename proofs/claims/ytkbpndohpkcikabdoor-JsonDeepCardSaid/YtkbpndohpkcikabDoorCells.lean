/-
  results that lie in cells; cells stored anew, one by one.
-/
import Derived.Test.YtkbpndohpkcikabDoorMem
import Derived.Laws.ResultCell
namespace Go.Proofs.YtkbpndohpkcikabDoor
open Go.RowKit

theorem results_cell_tmp_row {P : Program} {fn : Func} {p u : Tmp} {ty : TypeId} (h : fn.results = #[.cell p ty, .tmp u]) (tmps : Array Value) (w : World) (g : Nat) (t : TypeId) (cs : Array Value) (d : TypeDesc)
    (hp : tmps.getD p undef = .pointer (some ⟨g, 0, none⟩)) (hg : Blk w g t cs) (hu : P.underlying ty = some d) (hd : (match d with | .struct _ | .array _ _ => true | _ => false) = true) (hi : (P.info? ty).map (·.size) = some cs.size) :
    (results fn tmps).run P w = .ok (.tuple #[.agg cs, tmps.getD u undef]) w := by
  rw [results_cell_tmp h, hp]
  show ((loadVar ty ⟨g, 0, none⟩).run P w).andThen _ = _
  rw [run_loadVar_row w g t ty cs (0, 0) d hg hu hd hi]
  rfl
theorem sets_fold (cs vs : Array Value) (h : cs.size = vs.size) : ∀ k, k ≤ vs.size → (((List.range k).foldl (fun c i => c.setIfInBounds i (vs.getD i undef)) cs).size = vs.size ∧
    ∀ i, i < vs.size → ((List.range k).foldl (fun c i => c.setIfInBounds i (vs.getD i undef)) cs)[i]? = if i < k then vs[i]? else cs[i]?) := by
  intro k
  induction k with
  | zero => intro _; exact ⟨by simpa using h, fun i hi => by simp⟩
  | succ k ih =>
    intro hk
    obtain ⟨h1, h2⟩ := ih (by omega)
    rw [List.range_succ, List.foldl_append]
    simp only [List.foldl_cons, List.foldl_nil]
    refine ⟨by simpa using h1, fun i hi => ?_⟩
    rw [Array.getElem?_setIfInBounds]
    by_cases e : k = i
    · subst e
      rw [if_pos rfl, if_pos (by omega), if_pos (by omega)]
      simp [Array.getD, hi]
    · rw [if_neg e, h2 i hi]
      by_cases h3 : i < k
      · rw [if_pos h3, if_pos (by omega)]
      · rw [if_neg h3, if_neg (by omega)]
theorem sets_eq (cs vs : Array Value) (n : Nat) (h : cs.size = n) (k : vs.size = n) : (List.range n).foldl (fun c i => c.setIfInBounds i (vs.getD i undef)) cs = vs := by
  subst k
  obtain ⟨h1, h2⟩ := sets_fold cs vs h vs.size (Nat.le_refl _)
  apply Array.ext_getElem?
  intro i
  by_cases hi : i < vs.size
  · rw [h2 i hi, if_pos hi]
  · rw [Array.getElem?_eq_none (by omega), Array.getElem?_eq_none (by omega)]
theorem Blk.sets {w : World} {g : Nat} {t : TypeId} {cs : Array Value} (h : Blk w g t cs) (vs : Nat → Value) : ∀ l : List Nat, Blk (l.foldl (fun w i => w.setCell ⟨g, i, none⟩ (vs i)) w) g t (l.foldl (fun c i => c.setIfInBounds i (vs i)) cs)
  | [] => h
  | i :: l => Blk.sets (h.set_ i (vs i)) vs l
theorem Mod.sets {F : List Nat} {a w : World} {g : Nat} (h : Mod F a w) (hg : g ∈ F ∨ a.heap.size ≤ g) (vs : Nat → Value) : ∀ l : List Nat, Mod F a (l.foldl (fun w i => w.setCell ⟨g, i, none⟩ (vs i)) w)
  | [] => h
  | i :: l => Mod.sets (h.setCell (p := ⟨g, i, none⟩) hg (vs i)) hg vs l
end Go.Proofs.YtkbpndohpkcikabDoor
