/-
  json: strings.IndexByte.
-/
import Derived.Test.YtkbpndohpkcikabDoorJsMem
import Derived.Shelf.Small.Strs
namespace Go.Proofs.YtkbpndohpkcikabDoor
open Go.RowKit

def ixRen : Go.Shelf.Ren := ⟨fun | 137 => 37 | 217 => 46 | 266 => 55 | n => n, fun | 3 => 3 | 5 => 5 | 9 => 9 | n => n, fun n => n⟩
theorem ixLays : Go.Proofs.Lays.n137 Tryd.prog ixRen := {
  mixed := by kernel_rfl,
  f137 := Tryd.func37.trans (congrArg some (by kernel_rfl)),
  f217 := Tryd.func46.trans (congrArg some (by kernel_rfl)),
  f266 := Tryd.func55.trans (congrArg some (by kernel_rfl)),
  t3 := Tryd.underlying3,
  a3 := Tryd.isAgg3,
  z3 := Tryd.sizeOf3,
  v3 := Tryd.zeroValue3,
  t5 := Tryd.underlying5,
  a5 := Tryd.isAgg5,
  z5 := Tryd.sizeOf5,
  v5 := Tryd.zeroValue5,
  t9 := Tryd.underlying9,
  a9 := Tryd.isAgg9,
  z9 := Tryd.sizeOf9,
  v9 := Tryd.zeroValue9 }

theorem indexByte_neg (c : UInt8) : ∀ l : List UInt8, decide (Lib.indexByte l c < 0) = !(l.contains c) ∧ decide (0 ≤ Lib.indexByte l c) = l.contains c := by
  have key : ∀ l : List UInt8, (l.contains c = false → Lib.indexByte l c = -1) ∧ (l.contains c = true → 0 ≤ Lib.indexByte l c) := by
    intro l
    induction l with
    | nil => exact ⟨fun _ => rfl, fun h => by cases h⟩
    | cons x t ih =>
      rw [Lib.indexByte]
      by_cases hx : x = c
      · subst hx
        refine ⟨fun h => by simp at h, fun _ => by simp⟩
      · have e : (x :: t).contains c = t.contains c := by
          rw [List.contains_cons]
          have : (c == x) = false := by rw [beq_eq_false_iff_ne]; exact fun h => hx h.symm
          rw [this, Bool.false_or]
        rw [e]
        have hx2 : (x == c) = false := by rw [beq_eq_false_iff_ne]; exact hx
        refine ⟨fun h => ?_, fun h => ?_⟩
        · simp [hx2, ih.1 h]
        · have := ih.2 h
          simp only [hx2, if_false, Bool.false_eq_true]
          by_cases h1 : (Lib.indexByte t c == -1) = true
          · rw [beq_iff_eq] at h1
            omega
          · rw [if_neg h1]; omega
  intro l
  obtain ⟨k1, k2⟩ := key l
  cases hc : l.contains c with
  | false =>
    rw [k1 hc]
    exact ⟨rfl, rfl⟩
  | true =>
    have := k2 hc
    exact ⟨decide_eq_false (by omega), decide_eq_true this⟩
theorem ix_any (w : World) (s : ByteArray) (c : UInt8) :
    Calls Tryd.prog 37 #[.string s, .int .u8 (c.toNat : Int)] w fun e w' => e = .returned (.int .i64 (Lib.indexByte s.data.toList c)) ∧ w' = w := by
  have hc : Calls Tryd.prog 37 #[.string s, .int .u8 (c.toNat : Int)] w _ := Any.strings_IndexByte ixLays s (c.toNat : Int) w
  refine hc.mono ?_
  rintro e w' ⟨rfl, rfl⟩
  refine ⟨?_, rfl⟩
  have : (c.toNat : Int).toNat.toUInt8 = c := by simp
  rw [this]
end Go.Proofs.YtkbpndohpkcikabDoor
