/-
  json: Read, as a law calls it.
-/
import Derived.Test.YtkbpndohpkcikabDoorJsAw
namespace Go.Proofs.YtkbpndohpkcikabDoor
open Go.RowKit Js
set_option linter.unusedVariables false
set_option linter.unusedSimpArgs false
/-- Read, as a law calls it: the value's cells apart -/
theorem readL (w : World) (s : ByteArray) (hs : s.size ≤ 1000000) (B : Nat) (hB : B ≤ w.heap.size) (hj : JVars B w) {v : JV} {a e : Int} (hr : jread s.data.toList = (v, a, e)) :
    Calls Tryd.prog 8 #[.string s] w fun en w' => ∃ (x : JN) (k i : Int) (t : ByteArray) (A : Option Addr) (n c : Nat) (D : Option Addr) (m d : Nat), x.cells = #[.int .i64 k, .int .i64 i, .string t, .slice A n c, .slice D m d] ∧ en = .returned (.tuple #[.agg #[.int .i64 k, .int .i64 i, .string t, .slice A n c, .slice D m d], .int .i64 a, .int .i64 e]) ∧ x.v = v ∧ JIn w' x ∧ Mod [] w w' := by
  refine (read_any w s hs B hB hj).mono ?_
  rintro en w' ⟨x, rfl, h1, h2, h3⟩
  rw [hr] at h1
  obtain ⟨A, c, n, D, d, m, hc, _, _⟩ := x.open5
  refine ⟨x, _, _, _, _, _, _, _, _, _, hc, ?_, h1, h2, h3⟩
  rw [hr, hc]
end Go.Proofs.YtkbpndohpkcikabDoor
