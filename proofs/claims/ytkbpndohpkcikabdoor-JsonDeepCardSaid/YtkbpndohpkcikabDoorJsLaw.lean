/-
  json: what the laws' walks share.
-/
import Derived.Test.YtkbpndohpkcikabDoorJsOpen
import Derived.Test.YtkbpndohpkcikabDoorJsRdL
import Derived.Test.YtkbpndohpkcikabDoorJsLenP
namespace Go.Proofs.YtkbpndohpkcikabDoor
open Go.RowKit Js Go.Sort
set_option linter.unusedVariables false
set_option linter.unusedSimpArgs false
theorem JN.keysAt {w : World} {x : JN} (h : JIn w x) {A : Option Addr} {c n : Nat} {B : Option Addr} {d m : Nat} (hc : x.cells = #[.int .i64 x.v.k, .int .i64 x.v.i, .string x.v.t, .slice A n c, .slice B m d]) : KeysAt w B x.v.ks := by
  cases x with
  | mk k i t A' c' l B' d' ks =>
    have hA : B' = B := by
      have := congrArg (fun a : Array Value => a[4]?) hc
      simp [JN.cells] at this
      exact this.1
    subst hA
    rw [JIn] at h
    rw [JN.v]
    exact h.2.1
/-- Get, as a law calls it: the value's cells apart -/
theorem getL (w : World) (x : JN) (key : ByteArray) (hx : JIn w x) :
    Calls Tryd.prog 10 #[.agg x.cells, .string key] w fun en w' => ∃ (y : JN) (b : Bool) (yk yi : Int) (yt : ByteArray) (yA : Option Addr) (yn yc : Nat) (yB : Option Addr) (ym yd : Nat), y.cells = #[.int .i64 yk, .int .i64 yi, .string yt, .slice yA yn yc, .slice yB ym yd] ∧ en = .returned (.tuple #[.agg #[.int .i64 yk, .int .i64 yi, .string yt, .slice yA yn yc, .slice yB ym yd], .bool b]) ∧ GetP x.v key y.v b ∧ JIn w' y ∧ Mod [] w w' := by
  refine (get_any w x key hx).mono ?_
  rintro en w' ⟨y, b, rfl, h1, h2, h3⟩
  obtain ⟨A, c, n, B, d, m, hc, _, _⟩ := y.open5
  exact ⟨y, b, _, _, _, _, _, _, _, _, _, hc, by rw [hc], h1, h2, h3⟩
/-- Write, as a law calls it -/
theorem writeL (w : World) (x : JN) (hx : JIn w x) (hr : jrng x.v = true) (hl : (jwr x.v).length ≤ 1099511627776) (B : Nat) (hB : B ≤ w.heap.size) (hv : JVars B w) (hb : jmay 8 x.v = true) :
    Calls Tryd.prog 7 #[.agg x.cells] w fun e w' => ∃ P : ByteArray, e = .returned (.tuple #[.string P, .int .i64 0]) ∧ P.data.toList = jwr x.v ∧ Mod [] w w' := by
  refine (write_any w x hx hr hl B hB hv true hb).mono ?_
  rintro en w' ⟨rfl, h⟩
  exact ⟨⟨(jwr x.v).toArray⟩, rfl, by simp, h⟩
theorem writeN (w : World) (x : JN) (hx : JIn w x) (hr : jrng x.v = true) (hl : (jwr x.v).length ≤ 1099511627776) (B : Nat) (hB : B ≤ w.heap.size) (hv : JVars B w) (hb : jmay 8 x.v = false) :
    Calls Tryd.prog 7 #[.agg x.cells] w fun e w' => e = .returned (.tuple #[.string ⟨#[]⟩, .int .i64 2]) ∧ Mod [] w w' := by
  refine (write_any w x hx hr hl B hB hv false hb).mono ?_
  rintro en w' ⟨rfl, h⟩
  exact ⟨rfl, h⟩
end Go.Proofs.YtkbpndohpkcikabDoor
