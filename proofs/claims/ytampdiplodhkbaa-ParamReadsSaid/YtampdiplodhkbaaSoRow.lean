/-
  a row of numbers (uint64) in a block of their own: reads, swaps; cmp.Less.
-/
import Derived.Test.YtampdiplodhkbaaProg
import Derived.Test.YtampdiplodhkbaaMem
import Derived.Laws.Externs
import Derived.Sort.AssemblyPlain
namespace Go.Proofs.Ytampdiplodhkbaa
open Go.RowKit Go.Sort

/-- a number as it lies in a cell -/
def U (z : Int) : Value := .int .u64 z
/-- Block g is just the numbers d, and R behind them. -/
def Row (w : World) (g : Nat) (d : Array Int) (R : List Value) : Prop := Blk w g 23 (d.toList.map U ++ R).toArray

section
variable {w w' : World} {g : Nat} {d : Array Int} {R : List Value}
theorem Row.cell (h : Row w g d R) {j : Nat} (hj : j < d.size) : w.cell? ⟨g, j, none⟩ = some (.int .u64 d[j]!) := by
  rw [Blk.cell h j]
  have h1 : j < (d.toList.map U).length := by simpa using hj
  rw [List.getElem?_toArray, List.getElem?_append_left h1]
  simp [hj, U]
theorem Row.frozen (h : Row w g d R) (j : Nat) : w.frozen? ⟨g, j, none⟩ = false := Blk.frozen h j
theorem Row.mod {F : List Nat} (h : Row w g d R) (hm : Mod F w w') (hg : g ∉ F) : Row w' g d R := hm.blk h hg
theorem Row.drewN (h : Row w g d R) (n : Nat) : Row (w.drewN n) g d R := h
theorem Row.lt (h : Row w g d R) : g < w.heap.size := Blk.lt h
theorem Row.put (h : Row w g d R) (j : Nat) (z : Int) (hj : j < d.size) : Row (w.setCell ⟨g, j, none⟩ (.int .u64 z)) g (d.setIfInBounds j z) R := by
  have := Blk.set_ h j (.int .u64 z)
  have e : ((d.toList.map U ++ R).toArray).setIfInBounds j (.int .u64 z) = ((d.setIfInBounds j z).toList.map U ++ R).toArray := by
    rw [List.setIfInBounds_toArray, List.set_append_left _ _ (by simpa using hj)]
    simp [List.map_set, U]
  rw [e] at this
  exact this
/-- the two stores of a swap -/
theorem Row.swap (h : Row w g d R) {i j : Nat} (hi : i < d.size) (hj : j < d.size) :
    Row ((w.setCell ⟨g, i, none⟩ (.int .u64 d[j]!)).setCell ⟨g, j, none⟩ (.int .u64 d[i]!)) g (swp d i j) R :=
  (h.put i d[j]! hi).put j d[i]! (by simpa using hj)
theorem Row.swapN (h : Row w g d R) {i j : Nat} {x y : Int} (hi : i < d.size) (hj : j < d.size) (hx : d[j]! = x) (hy : d[i]! = y) (q : Nat) :
    Row (((w.drewN q).setCell ⟨g, i, none⟩ (.int .u64 x)).setCell ⟨g, j, none⟩ (.int .u64 y)) g (swp d i j) R := by
  subst hx hy
  exact Row.swap (w := w.drewN q) h hi hj
theorem Mod.swapN {w0 : World} (hm : Mod [g] w0 w) (q : Nat) (i j : Nat) (x y : Value) : Mod [g] w0 (((w.drewN q).setCell ⟨g, i, none⟩ x).setCell ⟨g, j, none⟩ y) :=
  ((hm.drewN q).setCell (p := ⟨g, i, none⟩) (.inl (by simp)) x).setCell (p := ⟨g, j, none⟩) (.inl (by simp)) y
theorem swap_mod (x y : Value) {i j : Nat} : Mod [g] w ((w.setCell ⟨g, i, none⟩ x).setCell ⟨g, j, none⟩ y) :=
  ((Mod.refl _ w).setCell (p := ⟨g, i, none⟩) (.inl (by simp)) x).setCell (p := ⟨g, j, none⟩) (.inl (by simp)) y
end

set_option maxHeartbeats 400000 in
theorem isNaN_u64 (x : Int) (w : World) : Calls Try.prog 71 #[.int .u64 x] w fun e w' => e = .returned (.bool false) ∧ w' = w := by
  go_enter Try.func71, Try.ntmps71
  go_wp2
  go_ret
  exact ⟨by simp, rfl⟩
set_option maxHeartbeats 400000 in
theorem less_u64 (x y : Int) (w : World) : Calls Try.prog 61 #[.int .u64 x, .int .u64 y] w fun e w' => e = .returned (.bool (ltInt x y)) ∧ w' = w := by
  go_enter Try.func61, Try.ntmps61
  go_wp2_with (go_at_call 71; refine (isNaN_u64 _ _).mono ?_; rintro e w' ⟨rfl, rfl⟩)
  go_ret
  exact ⟨rfl, rfl⟩
theorem lessQ (x y : Int) (w : World) : Calls Try.prog 61 #[.int .u64 x, .int .u64 y] w fun e w' => e = .returned (.bool (ltInt x y)) ∧ ∃ n, w' = w.drewN n :=
  (less_u64 x y w).mono fun _ _ ⟨h1, h2⟩ => ⟨h1, 0, h2⟩
end Go.Proofs.Ytampdiplodhkbaa
