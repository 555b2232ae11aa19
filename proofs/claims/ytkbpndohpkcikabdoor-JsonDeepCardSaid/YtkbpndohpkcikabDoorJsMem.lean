/-
  json: values in memory.
-/
import Derived.Test.YtkbpndohpkcikabDoorProg
import Derived.Test.YtkbpndohpkcikabDoorMem
import Derived.Test.YtkbpndohpkcikabDoorJsP1
namespace Go.Proofs.YtkbpndohpkcikabDoor
open Go.RowKit Js
set_option linter.unusedVariables false

def bv (c : UInt8) : Value := .int .u8 (c.toNat : Int)
def str (l : List UInt8) : Value := .string ⟨l.toArray⟩
theorem eta_bytes (x : ByteArray) : (⟨x.data.toList.toArray⟩ : ByteArray) = x := by simp
theorem bytes_len (x : ByteArray) : x.data.toList.length = x.size := Array.length_toList

/-- a value, with the slices that its lists are -/
inductive JN where
  | mk (k i : Int) (t : ByteArray) (A : Option Addr) (c : Nat) (l : List JN) (B : Option Addr) (d : Nat) (ks : List ByteArray)
def JN.cells : JN → Array Value
  | .mk k i t A c l B d ks => #[.int .i64 k, .int .i64 i, .string t, .slice A l.length c, .slice B ks.length d]
theorem JN.cells_size (x : JN) : x.cells.size = 5 := by cases x; rfl
mutual
def JN.v : JN → JV
  | .mk k i t _ _ l _ _ ks => .mk k i t (JN.vs l) ks
def JN.vs : List JN → List JV
  | [] => []
  | x :: l => x.v :: JN.vs l
end
theorem JN.vs_len : ∀ l : List JN, (JN.vs l).length = l.length
  | [] => rfl
  | x :: l => by rw [JN.vs, List.length_cons, List.length_cons, JN.vs_len l]
theorem JN.vs_at : ∀ (l : List JN) (j : Nat), (JN.vs l)[j]? = (l[j]?).map JN.v
  | [], j => rfl
  | x :: l, 0 => rfl
  | x :: l, j + 1 => by rw [JN.vs, List.getElem?_cons_succ, List.getElem?_cons_succ, JN.vs_at l j]
theorem JN.vs_app : ∀ (l m : List JN), JN.vs (l ++ m) = JN.vs l ++ JN.vs m
  | [], m => rfl
  | x :: l, m => by rw [List.cons_append, JN.vs, JN.vs, JN.vs_app l m, List.cons_append]
def KeysAt (w : World) (B : Option Addr) (ks : List ByteArray) : Prop :=
  ks = [] ∨ ∃ g o, B = some ⟨g, o, none⟩ ∧ g < w.heap.size ∧ ∀ j x, ks[j]? = some x → w.cell? ⟨g, o + j, none⟩ = some (.string x)
def RowAt (w : World) (A : Option Addr) (l : List JN) : Prop :=
  l = [] ∨ ∃ g o, A = some ⟨g, o, none⟩ ∧ g < w.heap.size ∧ ∀ j x, l[j]? = some x → ∀ i u, x.cells[i]? = some u → w.cell? ⟨g, o + j * 5 + i, none⟩ = some u
def jmax : Nat := 140737488355328
mutual
/-- a value that lies in memory -/
def JIn (w : World) : JN → Prop
  | .mk k i t A c l B d ks => (l.length ≤ jmax ∧ ks.length ≤ jmax) ∧ KeysAt w B ks ∧ RowAt w A l ∧ JIns w l
def JIns (w : World) : List JN → Prop
  | [] => True
  | x :: l => JIn w x ∧ JIns w l
end
theorem KeysAt.new {w w' : World} {B : Option Addr} {ks : List ByteArray} (h : KeysAt w B ks) (m : Mod [] w w') : KeysAt w' B ks := by
  rcases h with h | ⟨g, o, h1, h2, h3⟩
  · exact .inl h
  · exact .inr ⟨g, o, h1, Nat.lt_of_lt_of_le h2 m.size, fun j x hx => (m.cell (p := ⟨g, o + j, none⟩) h2 (by simp)).trans (h3 j x hx)⟩
theorem RowAt.new {w w' : World} {A : Option Addr} {l : List JN} (h : RowAt w A l) (m : Mod [] w w') : RowAt w' A l := by
  rcases h with h | ⟨g, o, h1, h2, h3⟩
  · exact .inl h
  · exact .inr ⟨g, o, h1, Nat.lt_of_lt_of_le h2 m.size, fun j x hx i u hu => (m.cell (p := ⟨g, o + j * 5 + i, none⟩) h2 (by simp)).trans (h3 j x hx i u hu)⟩
mutual
theorem JIn.new {w w' : World} (m : Mod [] w w') : ∀ {x : JN}, JIn w x → JIn w' x
  | .mk k i t A c l B d ks, h => by
    rw [JIn] at h ⊢
    exact ⟨h.1, h.2.1.new m, h.2.2.1.new m, JIns.new m h.2.2.2⟩
theorem JIns.new {w w' : World} (m : Mod [] w w') : ∀ {l : List JN}, JIns w l → JIns w' l
  | [], _ => trivial
  | x :: l, h => by
    rw [JIns] at h ⊢
    exact ⟨JIn.new m h.1, JIns.new m h.2⟩
end
theorem JIns.at_ {w : World} : ∀ {l : List JN} {j : Nat} {x : JN}, JIns w l → l[j]? = some x → JIn w x
  | [], j, x, _, h => by simp at h
  | y :: l, 0, x, h, hj => by
    cases hj
    rw [JIns] at h
    exact h.1
  | y :: l, j + 1, x, h, hj => by
    rw [JIns] at h
    exact JIns.at_ h.2 (by simpa using hj)
theorem JIns.of {w : World} : ∀ {l : List JN}, (∀ x ∈ l, JIn w x) → JIns w l
  | [], _ => trivial
  | y :: l, h => by
    rw [JIns]
    exact ⟨h y (by simp), JIns.of fun x hx => h x (by simp [hx])⟩
theorem KeysAt.at_ {w : World} {B : Option Addr} {ks : List ByteArray} (h : KeysAt w B ks) {j : Nat} {x : ByteArray} (hj : ks[j]? = some x) : ∃ g o, B = some ⟨g, o, none⟩ ∧ g < w.heap.size ∧ w.cell? ⟨g, o + j, none⟩ = some (.string x) := by
  rcases h with rfl | ⟨g, o, h1, h2, h3⟩
  · simp at hj
  · exact ⟨g, o, h1, h2, h3 j x hj⟩
theorem RowAt.at_ {w : World} {A : Option Addr} {l : List JN} (h : RowAt w A l) {j : Nat} {x : JN} (hj : l[j]? = some x) : ∃ g o, A = some ⟨g, o, none⟩ ∧ g < w.heap.size ∧ ∀ i u, x.cells[i]? = some u → w.cell? ⟨g, o + j * 5 + i, none⟩ = some u := by
  rcases h with rfl | ⟨g, o, h1, h2, h3⟩
  · simp at hj
  · exact ⟨g, o, h1, h2, h3 j x hj⟩
/-- a value of a kind that has no lists -/
theorem JIn.plain (w : World) (k i : Int) (t : ByteArray) : JIn w (.mk k i t none 0 [] none 0 []) := by
  rw [JIn]
  exact ⟨⟨Nat.zero_le _, Nat.zero_le _⟩, .inl rfl, .inl rfl, trivial⟩
end Go.Proofs.YtkbpndohpkcikabDoor
