/-
  The statement StreamsNames: its walk, and the walk brought to the given statement; no condition.
-/
import Derived.Test.YtjdfemfobcjecaaGreatG1
import Derived.OpenShut
import Derived.ChangeSame
import Derived.Deep.Fields
import Derived.Deep.Slices
import Derived.Test.YtjdfemfobcjecaaGreatG5
import Derived.Test.YtjdfemfobcjecaaGreatG8
import Derived.Test.YtjdfemfobcjecaaGreatG11
import Derived.Test.YtjdfemfobcjecaaGreatRows
import Derived.WalkKit
import Derived.ProofKit
import Derived.ShutString
import Derived.ChangeOld
import Derived.Below

/-
  A slice that came in whose elements are of any type: opened, element by element; structs by their fields, wherever they lie.
-/
namespace Go.Proofs.YtjdfemfobcjecaaGreat
open Go.RowKit
section
open Go.ChangeShapes Go.WideShapes Go.Deep
variable {H : Type} {enc : TypeId × Value → H} {P : Program} {w : World} {base : Nat} {spare : Nat → Bool} {held : Bool}
/-- a struct's fields, each read off its own cells -/
theorem trod_cells {t : TypeId} {fs : Array Field} {fuel : Nat} {cs : List Value} {x : DataW H × List MemPlace} (hs : P.underlying t = some (.struct fs)) (h : DataW.trod enc P w base spare held fuel t cs = some x) :
    cs.length = P.cellsOf t ∧ ∀ (j : Nat) (f : Field), fs[j]? = some f → ∃ (y : DataW H × List MemPlace) (n : Nat), DataW.trod enc P w base spare held n f.type ((cs.drop f.offset).take (P.cellsOf f.type)) = some y := by
  obtain ⟨ys, n', hn', hy, hlen, hyl, hf⟩ := DataW.trod_struct hs h
  refine ⟨hlen, fun j f hj => ?_⟩
  have hjl : j < fs.size := (Array.getElem?_eq_some_iff.1 hj).1
  exact ⟨ys[j]'(by omega), n', (hf j f hj).trans (List.getElem?_eq_getElem (by omega))⟩
theorem drop_take_one {cs : List Value} {j : Nat} (h : j < cs.length) : (cs.drop j).take 1 = [cs[j]] := by
  rw [List.drop_eq_getElem_cons h]; rfl
end
theorem exists_row {α : Type} {n : Nat} {P : Nat → α → Prop} (h : ∀ i, i < n → ∃ x, P i x) : ∃ l : List α, l.length = n ∧ ∀ i x, l[i]? = some x → P i x := by
  induction n with
  | zero => exact ⟨[], rfl, fun i x hx => by simp at hx⟩
  | succ n ih =>
    obtain ⟨l, hl, hp⟩ := ih (fun i hi => h i (by omega))
    obtain ⟨x, hx⟩ := h n (by omega)
    refine ⟨l ++ [x], by simp [hl], fun i y hy => ?_⟩
    by_cases hi : i < n
    · rw [List.getElem?_append_left (by omega)] at hy
      exact hp i y hy
    · have : i = n := by
        have := (List.getElem?_eq_some_iff.1 hy).1
        simp at this
        omega
      subst this
      rw [List.getElem?_append_right (by omega), hl] at hy
      simp at hy
      subst hy
      exact hx
/-- the slice at A reads as the elements l, each of so many cells -/
structure Elems {α : Type} (w : World) (A : Option Addr) (cells : α → List Value) (sz : Nat) (l : List α) : Prop where
  len : l.length ≤ 9223372036854775807
  row : l = [] ∨ ∃ g o, A = some ⟨g, o, none⟩ ∧ g < w.heap.size ∧ ∀ i y, l[i]? = some y → ∀ j u, (cells y)[j]? = some u → w.cell? ⟨g, o + i * sz + j, none⟩ = some u
theorem Elems.new {α : Type} {w w' : World} {A : Option Addr} {cells : α → List Value} {sz : Nat} {l : List α} (h : Elems w A cells sz l) (m : Mod [] w w') : Elems w' A cells sz l := by
  refine ⟨h.len, ?_⟩
  rcases h.row with h0 | ⟨g, o, hA, hg, hc⟩
  · exact .inl h0
  · exact .inr ⟨g, o, hA, Nat.lt_of_lt_of_le hg m.size, fun i v hv j u hu => (m.cell (p := ⟨g, o + i * sz + j, none⟩) hg (by simp)).trans (hc i v hv j u hu)⟩
theorem Elems.at_ {α : Type} {w : World} {A : Option Addr} {cells : α → List Value} {sz : Nat} {l : List α} (h : Elems w A cells sz l) {i : Nat} {y : α} (hy : l[i]? = some y) :
    ∃ g o, A = some ⟨g, o, none⟩ ∧ g < w.heap.size ∧ ∀ j u, (cells y)[j]? = some u → w.cell? ⟨g, o + i * sz + j, none⟩ = some u := by
  rcases h.row with h0 | ⟨g, o, hA, hg, hc⟩
  · rw [h0] at hy; simp at hy
  · exact ⟨g, o, hA, hg, hc i y hy⟩
section
open Go.ChangeShapes Go.WideShapes Go.Deep
variable {H : Type} {enc : TypeId × Value → H} {P : Program} {w : World} {base : Nat} {held : Bool}
/-- the row of a slice that came in -/
theorem trod_elems {α : Type} {t e : TypeId} {sz : Nat} {cells : α → List Value} {ok : α → Prop} {fuel : Nat} {v : Value} {x : DataW H × List MemPlace} (ht : P.underlying t = some (.slice e)) (hC : P.cellsOf e = sz) (hsz : 0 < sz) (hcl : ∀ y, (cells y).length = sz)
    (hel : ∀ (fuel : Nat) (cs : List Value) (x : DataW H × List MemPlace), cs.length = sz → DataW.trod enc P w base (fun _ => true) held fuel e cs = some x → ∃ y : α, cs = cells y ∧ ok y)
    (h : DataW.trod enc P w base (fun _ => true) held fuel t [v] = some x) :
    ∃ (A : Option Addr) (c : Nat) (l : List α), v = .slice A l.length c ∧ Elems w A cells sz l ∧ ∀ y ∈ l, ok y := by
  rcases open_slice ht h with ⟨hcs, _⟩ | ⟨a, len, cap, m, n, D, Pl, hcs, _, hl, hm, hmm, _, hi⟩
  · simp only [List.cons.injEq, and_true] at hcs
    exact ⟨none, 0, [], hcs, ⟨by simp, .inl rfl⟩, by simp⟩
  · simp only [List.cons.injEq, and_true] at hcs
    simp only [if_true] at hmm
    subst hmm
    have hex : ∀ i, i < len → ∃ y : α, (∀ j u, (cells y)[j]? = some u → w.cell? (a.add (i * sz + j)) = some u) ∧ ok y := by
      intro i hil
      obtain ⟨cs', hc, htr⟩ := hi i (by omega)
      rw [hC] at hc
      obtain ⟨_, hcn, hat⟩ := World.cells?_some hc
      obtain ⟨y, rfl, hy⟩ := hel _ _ _ hcn htr
      refine ⟨y, fun j u hu => ?_, hy⟩
      have hj : j < sz := by have := (List.getElem?_eq_some_iff.1 hu).1; rw [hcl] at this; exact this
      rw [← Go.Deep.add_add, hat j hj, hu]
    obtain ⟨L, hL, hP⟩ := exists_row hex
    refine ⟨some a, _, L, by rw [hcs, hL], ⟨by simp only [maxLen] at hm; omega, ?_⟩, fun y hy => ?_⟩
    · rcases Nat.eq_zero_or_pos len with h0 | h0
      · exact .inl (List.eq_nil_of_length_eq_zero (by omega))
      · right
        obtain ⟨b, off, spot⟩ := a
        obtain ⟨y, hy⟩ : ∃ y, L[0]? = some y := ⟨_, List.getElem?_eq_getElem (by omega)⟩
        obtain ⟨u, hu⟩ : ∃ u, (cells y)[0]? = some u := ⟨_, List.getElem?_eq_getElem (by rw [hcl]; exact hsz)⟩
        have hc0 := (hP 0 y hy).1 0 u hu
        have hspot : spot = none := by simpa [Addr.add] using World.cell?_spot hc0
        subst hspot
        refine ⟨b, off, rfl, by have h9 := World.block_lt_of_cell? w _ hc0; rw [Addr.add_lit] at h9; exact h9, fun i z hz j u hu => ?_⟩
        have h1 := (hP i z hz).1 j u hu
        rw [Addr.add_lit, ← Nat.add_assoc] at h1
        exact h1
    · obtain ⟨i, hi2⟩ := List.mem_iff_getElem?.1 hy
      exact (hP i y hi2).2
theorem open_elems {α : Type} {t e : TypeId} {sz : Nat} {cells : α → List Value} {ok : α → Prop} {v : Value} {d : DataW H} {p : List MemPlace} {r : Reach} {b0 : Nat} (ht : P.underlying t = some (.slice e)) (hC : P.cellsOf e = sz) (hsz : 0 < sz) (hcl : ∀ y, (cells y).length = sz)
    (hel : ∀ (fuel : Nat) (cs : List Value) (x : DataW H × List MemPlace), cs.length = sz → DataW.trod enc P w base (fun _ => true) held fuel e cs = some x → ∃ y : α, cs = cells y ∧ ok y)
    (hv : Value.okWide P w r b0 t v) (h : DataW.Trod enc P w base (fun _ => true) held t v d p) :
    ∃ (A : Option Addr) (c : Nat) (l : List α), v = .slice A l.length c ∧ Elems w A cells sz l ∧ ∀ y ∈ l, ok y := by
  obtain ⟨a, len, cap, rfl⟩ := okWide_slice ht hv
  obtain ⟨fuel, hf⟩ := h
  exact trod_elems ht hC hsz hcl hel hf
end
end Go.Proofs.YtjdfemfobcjecaaGreat

/-
  the statements' arguments over streams, opened.
-/
namespace Go.Proofs.YtjdfemfobcjecaaGreat
open Go.RowKit
set_option linter.unusedVariables false
/-- a frame, and where its ranges lie -/
structure FA where
  f : Fr
  A : Option Addr
  c : Nat
def FA.cells (x : FA) : List Value := [.int .u64 (x.f.kind : Nat), .int .u64 (x.f.a : Nat), .int .u64 (x.f.b : Nat), .int .u64 (x.f.c : Nat), .bool x.f.fin, .string x.f.data, .string x.f.more, .slice x.A x.f.list.length x.c]
structure FA.OK (x : FA) : Prop where
  kind : x.f.kind ≤ 18446744073709551615
  a : x.f.a ≤ 18446744073709551615
  b : x.f.b ≤ 18446744073709551615
  c : x.f.c ≤ 18446744073709551615
  data : x.f.data.size ≤ 9223372036854775807
  more : x.f.more.size ≤ 9223372036854775807
  list : x.f.list.length ≤ 9223372036854775807
structure Lm.U (l : Lm) : Prop where
  data : l.data ≤ 18446744073709551615
  bl : l.bl ≤ 18446744073709551615
  br : l.br ≤ 18446744073709551615
  un : l.un ≤ 18446744073709551615
  bidis : l.bidis ≤ 18446744073709551615
  unis : l.unis ≤ 18446744073709551615
structure SAct where
  kind : Int
  n : Int
  id : Nat
  code : Nat
  text : ByteArray
  fin : Bool
  fr : FA
  lim : Lm
def SAct.cells (x : SAct) : List Value := [.int .i64 x.kind, .int .i64 x.n, .int .u64 (x.id : Nat), .int .u64 (x.code : Nat), .string x.text, .bool x.fin, .int .u64 (x.fr.f.kind : Nat), .int .u64 (x.fr.f.a : Nat), .int .u64 (x.fr.f.b : Nat), .int .u64 (x.fr.f.c : Nat), .bool x.fr.f.fin, .string x.fr.f.data, .string x.fr.f.more, .slice x.fr.A x.fr.f.list.length x.fr.c,
  .int .u64 (x.lim.data : Int), .int .u64 (x.lim.bl : Int), .int .u64 (x.lim.br : Int), .int .u64 (x.lim.un : Int), .int .u64 (x.lim.bidis : Int), .int .u64 (x.lim.unis : Int)]
structure SAct.OK (x : SAct) : Prop where
  k1 : -9223372036854775808 ≤ x.kind
  k2 : x.kind ≤ 9223372036854775807
  n1 : -9223372036854775808 ≤ x.n
  n2 : x.n ≤ 9223372036854775807
  id : x.id ≤ 18446744073709551615
  code : x.code ≤ 18446744073709551615
  text : x.text.size ≤ 9223372036854775807
  fr : x.fr.OK
  lim : x.lim.U
section
open Go.ChangeShapes Go.WideShapes Go.Deep
variable {H : Type} {enc : TypeId × Value → H} {w : World} {base : Nat} {held : Bool}
set_option maxRecDepth 100000 in
theorem trod_range (fuel : Nat) (cs : List Value) (x : DataW H × List MemPlace) (hlen : cs.length = 2) (h : DataW.trod enc Tryz.prog w base (fun _ => true) held fuel 92 cs = some x) : ∃ y : Nat × Nat, cs = [.int .u64 (y.1 : Nat), .int .u64 (y.2 : Nat)] ∧ True := by
  obtain ⟨hl, hf⟩ := trod_cells Tryz.underlying92 h
  rw [show Tryz.prog.cellsOf 92 = 2 by kernel_rfl] at hl
  obtain ⟨y0, n0, t0⟩ := hf 0 _ rfl
  obtain ⟨y1, n1, t1⟩ := hf 1 _ rfl
  have q0 : ((cs.drop 0).take (Tryz.prog.cellsOf 22)) = [cs[0]] := by rw [show Tryz.prog.cellsOf 22 = 1 by kernel_rfl]; exact drop_take_one (by omega)
  have t0 : DataW.trod enc Tryz.prog w base (fun _ => true) held n0 22 ((cs.drop 0).take (Tryz.prog.cellsOf 22)) = some y0 := t0
  rw [q0] at t0
  obtain ⟨x0, e0, _, w0⟩ := DataW.trod_int Tryz.underlying22 t0
  have b0 := bounds_u64 w0
  obtain ⟨u0, rfl⟩ := Int.eq_ofNat_of_zero_le b0.1
  have c0 : u0 ≤ 18446744073709551615 := by omega
  simp only [List.cons.injEq, and_true] at e0
  have q1 : ((cs.drop 1).take (Tryz.prog.cellsOf 22)) = [cs[1]] := by rw [show Tryz.prog.cellsOf 22 = 1 by kernel_rfl]; exact drop_take_one (by omega)
  have t1 : DataW.trod enc Tryz.prog w base (fun _ => true) held n1 22 ((cs.drop 1).take (Tryz.prog.cellsOf 22)) = some y1 := t1
  rw [q1] at t1
  obtain ⟨x1, e1, _, w1⟩ := DataW.trod_int Tryz.underlying22 t1
  have b1 := bounds_u64 w1
  obtain ⟨u1, rfl⟩ := Int.eq_ofNat_of_zero_le b1.1
  have c1 : u1 ≤ 18446744073709551615 := by omega
  simp only [List.cons.injEq, and_true] at e1
  refine ⟨(u0, u1), ?_, trivial⟩
  apply List.ext_getElem (by simp [hl])
  intro i h1 h2
  have : i = 0 ∨ i = 1 := by omega
  rcases this with rfl | rfl
  · exact e0
  · exact e1
set_option maxRecDepth 100000 in
set_option maxHeartbeats 4000000 in
theorem trod_frame (fuel : Nat) (cs : List Value) (x : DataW H × List MemPlace) (hlen : cs.length = 8) (h : DataW.trod enc Tryz.prog w base (fun _ => true) held fuel 31 cs = some x) : ∃ y : FA, cs = y.cells ∧ y.OK := by
  obtain ⟨hl, hf⟩ := trod_cells Tryz.underlying31 h
  rw [show Tryz.prog.cellsOf 31 = 8 by kernel_rfl] at hl
  obtain ⟨y0, n0, t0⟩ := hf 0 _ rfl
  obtain ⟨y1, n1, t1⟩ := hf 1 _ rfl
  obtain ⟨y2, n2, t2⟩ := hf 2 _ rfl
  obtain ⟨y3, n3, t3⟩ := hf 3 _ rfl
  obtain ⟨y4, n4, t4⟩ := hf 4 _ rfl
  obtain ⟨y5, n5, t5⟩ := hf 5 _ rfl
  obtain ⟨y6, n6, t6⟩ := hf 6 _ rfl
  obtain ⟨y7, n7, t7⟩ := hf 7 _ rfl
  have q0 : ((cs.drop 0).take (Tryz.prog.cellsOf 22)) = [cs[0]] := by rw [show Tryz.prog.cellsOf 22 = 1 by kernel_rfl]; exact drop_take_one (by omega)
  have t0 : DataW.trod enc Tryz.prog w base (fun _ => true) held n0 22 ((cs.drop 0).take (Tryz.prog.cellsOf 22)) = some y0 := t0
  rw [q0] at t0
  obtain ⟨x0, e0, _, w0⟩ := DataW.trod_int Tryz.underlying22 t0
  have b0 := bounds_u64 w0
  obtain ⟨u0, rfl⟩ := Int.eq_ofNat_of_zero_le b0.1
  have c0 : u0 ≤ 18446744073709551615 := by omega
  simp only [List.cons.injEq, and_true] at e0
  have q1 : ((cs.drop 1).take (Tryz.prog.cellsOf 22)) = [cs[1]] := by rw [show Tryz.prog.cellsOf 22 = 1 by kernel_rfl]; exact drop_take_one (by omega)
  have t1 : DataW.trod enc Tryz.prog w base (fun _ => true) held n1 22 ((cs.drop 1).take (Tryz.prog.cellsOf 22)) = some y1 := t1
  rw [q1] at t1
  obtain ⟨x1, e1, _, w1⟩ := DataW.trod_int Tryz.underlying22 t1
  have b1 := bounds_u64 w1
  obtain ⟨u1, rfl⟩ := Int.eq_ofNat_of_zero_le b1.1
  have c1 : u1 ≤ 18446744073709551615 := by omega
  simp only [List.cons.injEq, and_true] at e1
  have q2 : ((cs.drop 2).take (Tryz.prog.cellsOf 22)) = [cs[2]] := by rw [show Tryz.prog.cellsOf 22 = 1 by kernel_rfl]; exact drop_take_one (by omega)
  have t2 : DataW.trod enc Tryz.prog w base (fun _ => true) held n2 22 ((cs.drop 2).take (Tryz.prog.cellsOf 22)) = some y2 := t2
  rw [q2] at t2
  obtain ⟨x2, e2, _, w2⟩ := DataW.trod_int Tryz.underlying22 t2
  have b2 := bounds_u64 w2
  obtain ⟨u2, rfl⟩ := Int.eq_ofNat_of_zero_le b2.1
  have c2 : u2 ≤ 18446744073709551615 := by omega
  simp only [List.cons.injEq, and_true] at e2
  have q3 : ((cs.drop 3).take (Tryz.prog.cellsOf 22)) = [cs[3]] := by rw [show Tryz.prog.cellsOf 22 = 1 by kernel_rfl]; exact drop_take_one (by omega)
  have t3 : DataW.trod enc Tryz.prog w base (fun _ => true) held n3 22 ((cs.drop 3).take (Tryz.prog.cellsOf 22)) = some y3 := t3
  rw [q3] at t3
  obtain ⟨x3, e3, _, w3⟩ := DataW.trod_int Tryz.underlying22 t3
  have b3 := bounds_u64 w3
  obtain ⟨u3, rfl⟩ := Int.eq_ofNat_of_zero_le b3.1
  have c3 : u3 ≤ 18446744073709551615 := by omega
  simp only [List.cons.injEq, and_true] at e3
  have q4 : ((cs.drop 4).take (Tryz.prog.cellsOf 4)) = [cs[4]] := by rw [show Tryz.prog.cellsOf 4 = 1 by kernel_rfl]; exact drop_take_one (by omega)
  have t4 : DataW.trod enc Tryz.prog w base (fun _ => true) held n4 4 ((cs.drop 4).take (Tryz.prog.cellsOf 4)) = some y4 := t4
  rw [q4] at t4
  obtain ⟨u4, e4, _⟩ := DataW.trod_bool Tryz.underlying4 t4
  simp only [List.cons.injEq, and_true] at e4
  have q5 : ((cs.drop 5).take (Tryz.prog.cellsOf 9)) = [cs[5]] := by rw [show Tryz.prog.cellsOf 9 = 1 by kernel_rfl]; exact drop_take_one (by omega)
  have t5 : DataW.trod enc Tryz.prog w base (fun _ => true) held n5 9 ((cs.drop 5).take (Tryz.prog.cellsOf 9)) = some y5 := t5
  rw [q5] at t5
  obtain ⟨u5, e5, _, w5⟩ := DataW.trod_string Tryz.underlying9 t5
  simp only [List.cons.injEq, and_true] at e5
  have q6 : ((cs.drop 6).take (Tryz.prog.cellsOf 9)) = [cs[6]] := by rw [show Tryz.prog.cellsOf 9 = 1 by kernel_rfl]; exact drop_take_one (by omega)
  have t6 : DataW.trod enc Tryz.prog w base (fun _ => true) held n6 9 ((cs.drop 6).take (Tryz.prog.cellsOf 9)) = some y6 := t6
  rw [q6] at t6
  obtain ⟨u6, e6, _, w6⟩ := DataW.trod_string Tryz.underlying9 t6
  simp only [List.cons.injEq, and_true] at e6
  have q7 : ((cs.drop 7).take (Tryz.prog.cellsOf 29)) = [cs[7]] := by rw [show Tryz.prog.cellsOf 29 = 1 by kernel_rfl]; exact drop_take_one (by omega)
  have t7 : DataW.trod enc Tryz.prog w base (fun _ => true) held n7 29 ((cs.drop 7).take (Tryz.prog.cellsOf 29)) = some y7 := t7
  rw [q7] at t7
  obtain ⟨A7, c7, l7, e7, el7, _⟩ := trod_elems (sz := 2) (cells := fun y : Nat × Nat => [Value.int .u64 (y.1 : Nat), .int .u64 (y.2 : Nat)]) (ok := fun _ => True) Tryz.underlying29 (by kernel_rfl) (by omega) (fun _ => rfl) trod_range t7
  refine ⟨⟨⟨u0, u1, u2, u3, u4, u5, u6, l7⟩, A7, c7⟩, ?_, ⟨c0, c1, c2, c3, w5, w6, el7.len⟩⟩
  apply List.ext_getElem (by rw [hl]; rfl)
  intro i h1 h2
  have : i = 0 ∨ i = 1 ∨ i = 2 ∨ i = 3 ∨ i = 4 ∨ i = 5 ∨ i = 6 ∨ i = 7 := by omega
  rcases this with rfl | rfl | rfl | rfl | rfl | rfl | rfl | rfl
  · exact e0
  · exact e1
  · exact e2
  · exact e3
  · exact e4
  · exact e5
  · exact e6
  · exact e7
set_option maxRecDepth 100000 in
set_option maxHeartbeats 4000000 in
theorem trod_limits (fuel : Nat) (cs : List Value) (x : DataW H × List MemPlace) (hlen : cs.length = 6) (h : DataW.trod enc Tryz.prog w base (fun _ => true) held fuel 24 cs = some x) : ∃ y : Lm, cs = y.vals ∧ y.U := by
  obtain ⟨hl, hf⟩ := trod_cells Tryz.underlying24 h
  rw [show Tryz.prog.cellsOf 24 = 6 by kernel_rfl] at hl
  obtain ⟨y0, n0, t0⟩ := hf 0 _ rfl
  obtain ⟨y1, n1, t1⟩ := hf 1 _ rfl
  obtain ⟨y2, n2, t2⟩ := hf 2 _ rfl
  obtain ⟨y3, n3, t3⟩ := hf 3 _ rfl
  obtain ⟨y4, n4, t4⟩ := hf 4 _ rfl
  obtain ⟨y5, n5, t5⟩ := hf 5 _ rfl
  have q0 : ((cs.drop 0).take (Tryz.prog.cellsOf 22)) = [cs[0]] := by rw [show Tryz.prog.cellsOf 22 = 1 by kernel_rfl]; exact drop_take_one (by omega)
  have t0 : DataW.trod enc Tryz.prog w base (fun _ => true) held n0 22 ((cs.drop 0).take (Tryz.prog.cellsOf 22)) = some y0 := t0
  rw [q0] at t0
  obtain ⟨x0, e0, _, w0⟩ := DataW.trod_int Tryz.underlying22 t0
  have b0 := bounds_u64 w0
  obtain ⟨u0, rfl⟩ := Int.eq_ofNat_of_zero_le b0.1
  have c0 : u0 ≤ 18446744073709551615 := by omega
  simp only [List.cons.injEq, and_true] at e0
  have q1 : ((cs.drop 1).take (Tryz.prog.cellsOf 22)) = [cs[1]] := by rw [show Tryz.prog.cellsOf 22 = 1 by kernel_rfl]; exact drop_take_one (by omega)
  have t1 : DataW.trod enc Tryz.prog w base (fun _ => true) held n1 22 ((cs.drop 1).take (Tryz.prog.cellsOf 22)) = some y1 := t1
  rw [q1] at t1
  obtain ⟨x1, e1, _, w1⟩ := DataW.trod_int Tryz.underlying22 t1
  have b1 := bounds_u64 w1
  obtain ⟨u1, rfl⟩ := Int.eq_ofNat_of_zero_le b1.1
  have c1 : u1 ≤ 18446744073709551615 := by omega
  simp only [List.cons.injEq, and_true] at e1
  have q2 : ((cs.drop 2).take (Tryz.prog.cellsOf 22)) = [cs[2]] := by rw [show Tryz.prog.cellsOf 22 = 1 by kernel_rfl]; exact drop_take_one (by omega)
  have t2 : DataW.trod enc Tryz.prog w base (fun _ => true) held n2 22 ((cs.drop 2).take (Tryz.prog.cellsOf 22)) = some y2 := t2
  rw [q2] at t2
  obtain ⟨x2, e2, _, w2⟩ := DataW.trod_int Tryz.underlying22 t2
  have b2 := bounds_u64 w2
  obtain ⟨u2, rfl⟩ := Int.eq_ofNat_of_zero_le b2.1
  have c2 : u2 ≤ 18446744073709551615 := by omega
  simp only [List.cons.injEq, and_true] at e2
  have q3 : ((cs.drop 3).take (Tryz.prog.cellsOf 22)) = [cs[3]] := by rw [show Tryz.prog.cellsOf 22 = 1 by kernel_rfl]; exact drop_take_one (by omega)
  have t3 : DataW.trod enc Tryz.prog w base (fun _ => true) held n3 22 ((cs.drop 3).take (Tryz.prog.cellsOf 22)) = some y3 := t3
  rw [q3] at t3
  obtain ⟨x3, e3, _, w3⟩ := DataW.trod_int Tryz.underlying22 t3
  have b3 := bounds_u64 w3
  obtain ⟨u3, rfl⟩ := Int.eq_ofNat_of_zero_le b3.1
  have c3 : u3 ≤ 18446744073709551615 := by omega
  simp only [List.cons.injEq, and_true] at e3
  have q4 : ((cs.drop 4).take (Tryz.prog.cellsOf 22)) = [cs[4]] := by rw [show Tryz.prog.cellsOf 22 = 1 by kernel_rfl]; exact drop_take_one (by omega)
  have t4 : DataW.trod enc Tryz.prog w base (fun _ => true) held n4 22 ((cs.drop 4).take (Tryz.prog.cellsOf 22)) = some y4 := t4
  rw [q4] at t4
  obtain ⟨x4, e4, _, w4⟩ := DataW.trod_int Tryz.underlying22 t4
  have b4 := bounds_u64 w4
  obtain ⟨u4, rfl⟩ := Int.eq_ofNat_of_zero_le b4.1
  have c4 : u4 ≤ 18446744073709551615 := by omega
  simp only [List.cons.injEq, and_true] at e4
  have q5 : ((cs.drop 5).take (Tryz.prog.cellsOf 22)) = [cs[5]] := by rw [show Tryz.prog.cellsOf 22 = 1 by kernel_rfl]; exact drop_take_one (by omega)
  have t5 : DataW.trod enc Tryz.prog w base (fun _ => true) held n5 22 ((cs.drop 5).take (Tryz.prog.cellsOf 22)) = some y5 := t5
  rw [q5] at t5
  obtain ⟨x5, e5, _, w5⟩ := DataW.trod_int Tryz.underlying22 t5
  have b5 := bounds_u64 w5
  obtain ⟨u5, rfl⟩ := Int.eq_ofNat_of_zero_le b5.1
  have c5 : u5 ≤ 18446744073709551615 := by omega
  simp only [List.cons.injEq, and_true] at e5
  refine ⟨⟨u0, u1, u2, u3, u4, u5⟩, ?_, ⟨c0, c1, c2, c3, c4, c5⟩⟩
  apply List.ext_getElem (by rw [hl]; rfl)
  intro i h1 h2
  have : i = 0 ∨ i = 1 ∨ i = 2 ∨ i = 3 ∨ i = 4 ∨ i = 5 := by omega
  rcases this with rfl | rfl | rfl | rfl | rfl | rfl
  · exact e0
  · exact e1
  · exact e2
  · exact e3
  · exact e4
  · exact e5
set_option maxRecDepth 100000 in
set_option maxHeartbeats 4000000 in
theorem open_limits {v : Value} {d : DataW H} {p : List MemPlace} {r : Reach} {b0 : Nat} (hv : Value.okWide Tryz.prog w r b0 24 v) (h : DataW.Trod enc Tryz.prog w base (fun _ => true) held 24 v d p) :
    ∃ l : Lm, v = l.val ∧ l.U := by
  obtain ⟨cs, rfl, hsz⟩ := okWide_struct Tryz.underlying24 hv
  obtain ⟨fuel, hf⟩ := h
  obtain ⟨l, hl, hu⟩ := trod_limits _ _ _ ((trod_cells Tryz.underlying24 hf).1.trans (by kernel_rfl)) hf
  refine ⟨l, ?_, hu⟩
  have e : (Value.agg cs).cells.toList = cs.toList := rfl
  rw [e] at hl
  unfold Lm.val
  congr 1
  exact Array.toList_inj.1 hl
set_option maxRecDepth 100000 in
set_option maxHeartbeats 4000000 in
theorem open_flags {v : Value} {d : DataW H} {p : List MemPlace} {r : Reach} {b0 : Nat} (hv : Value.okWide Tryz.prog w r b0 38 v) (h : DataW.Trod enc Tryz.prog w base (fun _ => true) held 38 v d p) :
    ∃ (A : Option Addr) (c : Nat) (l : List Bool), v = .slice A l.length c ∧ Elems w A (fun b => [Value.bool b]) 1 l := by
  obtain ⟨A, c, l, hv, he, _⟩ := open_elems (sz := 1) (cells := fun b : Bool => [Value.bool b]) (ok := fun _ => True) Tryz.underlying38 (by kernel_rfl) (by omega) (fun _ => rfl) (fun fuel cs x hl hx => by
    match cs, hl, hx with
    | [v], _, hx =>
      obtain ⟨b, e, _⟩ := DataW.trod_bool Tryz.underlying4 hx
      exact ⟨b, e, trivial⟩) hv h
  exact ⟨A, c, l, hv, he⟩
set_option maxRecDepth 100000 in
set_option maxHeartbeats 4000000 in
theorem open_framesA {v : Value} {d : DataW H} {p : List MemPlace} {r : Reach} {b0 : Nat} (hv : Value.okWide Tryz.prog w r b0 25 v) (h : DataW.Trod enc Tryz.prog w base (fun _ => true) held 25 v d p) :
    ∃ (A : Option Addr) (c : Nat) (l : List FA), v = .slice A l.length c ∧ Elems w A FA.cells 8 l ∧ ∀ y ∈ l, y.OK :=
  open_elems (sz := 8) Tryz.underlying25 (by kernel_rfl) (by omega) (fun _ => rfl) trod_frame hv h
set_option maxRecDepth 100000 in
set_option maxHeartbeats 4000000 in
theorem trod_act (fuel : Nat) (cs : List Value) (x : DataW H × List MemPlace) (hlen : cs.length = 20) (h : DataW.trod enc Tryz.prog w base (fun _ => true) held fuel 52 cs = some x) : ∃ y : SAct, cs = y.cells ∧ y.OK := by
  obtain ⟨hl, hf⟩ := trod_cells Tryz.underlying52 h
  rw [show Tryz.prog.cellsOf 52 = 20 by kernel_rfl] at hl
  obtain ⟨y0, n0, t0⟩ := hf 0 _ rfl
  obtain ⟨y1, n1, t1⟩ := hf 1 _ rfl
  obtain ⟨y2, n2, t2⟩ := hf 2 _ rfl
  obtain ⟨y3, n3, t3⟩ := hf 3 _ rfl
  obtain ⟨y4, n4, t4⟩ := hf 4 _ rfl
  obtain ⟨y5, n5, t5⟩ := hf 5 _ rfl
  obtain ⟨y6, n6, t6⟩ := hf 6 _ rfl
  obtain ⟨y7, n7, t7⟩ := hf 7 _ rfl
  have q0 : ((cs.drop 0).take (Tryz.prog.cellsOf 3)) = [cs[0]] := by rw [show Tryz.prog.cellsOf 3 = 1 by kernel_rfl]; exact drop_take_one (by omega)
  have t0 : DataW.trod enc Tryz.prog w base (fun _ => true) held n0 3 ((cs.drop 0).take (Tryz.prog.cellsOf 3)) = some y0 := t0
  rw [q0] at t0
  obtain ⟨u0, e0, _, w0⟩ := DataW.trod_int Tryz.underlying3 t0
  have b0 := bounds_i64 w0
  simp only [List.cons.injEq, and_true] at e0
  have q1 : ((cs.drop 1).take (Tryz.prog.cellsOf 3)) = [cs[1]] := by rw [show Tryz.prog.cellsOf 3 = 1 by kernel_rfl]; exact drop_take_one (by omega)
  have t1 : DataW.trod enc Tryz.prog w base (fun _ => true) held n1 3 ((cs.drop 1).take (Tryz.prog.cellsOf 3)) = some y1 := t1
  rw [q1] at t1
  obtain ⟨u1, e1, _, w1⟩ := DataW.trod_int Tryz.underlying3 t1
  have b1 := bounds_i64 w1
  simp only [List.cons.injEq, and_true] at e1
  have q2 : ((cs.drop 2).take (Tryz.prog.cellsOf 22)) = [cs[2]] := by rw [show Tryz.prog.cellsOf 22 = 1 by kernel_rfl]; exact drop_take_one (by omega)
  have t2 : DataW.trod enc Tryz.prog w base (fun _ => true) held n2 22 ((cs.drop 2).take (Tryz.prog.cellsOf 22)) = some y2 := t2
  rw [q2] at t2
  obtain ⟨x2, e2, _, w2⟩ := DataW.trod_int Tryz.underlying22 t2
  have b2 := bounds_u64 w2
  obtain ⟨u2, rfl⟩ := Int.eq_ofNat_of_zero_le b2.1
  have c2 : u2 ≤ 18446744073709551615 := by omega
  simp only [List.cons.injEq, and_true] at e2
  have q3 : ((cs.drop 3).take (Tryz.prog.cellsOf 22)) = [cs[3]] := by rw [show Tryz.prog.cellsOf 22 = 1 by kernel_rfl]; exact drop_take_one (by omega)
  have t3 : DataW.trod enc Tryz.prog w base (fun _ => true) held n3 22 ((cs.drop 3).take (Tryz.prog.cellsOf 22)) = some y3 := t3
  rw [q3] at t3
  obtain ⟨x3, e3, _, w3⟩ := DataW.trod_int Tryz.underlying22 t3
  have b3 := bounds_u64 w3
  obtain ⟨u3, rfl⟩ := Int.eq_ofNat_of_zero_le b3.1
  have c3 : u3 ≤ 18446744073709551615 := by omega
  simp only [List.cons.injEq, and_true] at e3
  have q4 : ((cs.drop 4).take (Tryz.prog.cellsOf 9)) = [cs[4]] := by rw [show Tryz.prog.cellsOf 9 = 1 by kernel_rfl]; exact drop_take_one (by omega)
  have t4 : DataW.trod enc Tryz.prog w base (fun _ => true) held n4 9 ((cs.drop 4).take (Tryz.prog.cellsOf 9)) = some y4 := t4
  rw [q4] at t4
  obtain ⟨u4, e4, _, w4⟩ := DataW.trod_string Tryz.underlying9 t4
  simp only [List.cons.injEq, and_true] at e4
  have q5 : ((cs.drop 5).take (Tryz.prog.cellsOf 4)) = [cs[5]] := by rw [show Tryz.prog.cellsOf 4 = 1 by kernel_rfl]; exact drop_take_one (by omega)
  have t5 : DataW.trod enc Tryz.prog w base (fun _ => true) held n5 4 ((cs.drop 5).take (Tryz.prog.cellsOf 4)) = some y5 := t5
  rw [q5] at t5
  obtain ⟨u5, e5, _⟩ := DataW.trod_bool Tryz.underlying4 t5
  simp only [List.cons.injEq, and_true] at e5
  have t6 : DataW.trod enc Tryz.prog w base (fun _ => true) held n6 31 ((cs.drop 6).take (Tryz.prog.cellsOf 31)) = some y6 := t6
  have t7 : DataW.trod enc Tryz.prog w base (fun _ => true) held n7 24 ((cs.drop 14).take (Tryz.prog.cellsOf 24)) = some y7 := t7
  obtain ⟨fr, e6, ok6⟩ := trod_frame _ _ _ (by rw [show Tryz.prog.cellsOf 31 = 8 by kernel_rfl]; simp; omega) t6
  obtain ⟨lm, e7, ok7⟩ := trod_limits _ _ _ (by rw [show Tryz.prog.cellsOf 24 = 6 by kernel_rfl]; simp; omega) t7
  rw [show Tryz.prog.cellsOf 31 = 8 by kernel_rfl] at e6
  rw [show Tryz.prog.cellsOf 24 = 6 by kernel_rfl] at e7
  refine ⟨⟨u0, u1, u2, u3, u4, u5, fr, lm⟩, ?_, ⟨b0.1, b0.2, b1.1, b1.2, c2, c3, w4, ok6, ok7⟩⟩
  have h6 : cs = cs.take 6 ++ ((cs.drop 6).take 8 ++ (cs.drop 14).take 6) := by
    rw [show cs.drop 14 = (cs.drop 6).drop 8 by rw [List.drop_drop], List.take_of_length_le (l := (cs.drop 6).drop 8) (by simp; omega), List.take_append_drop, List.take_append_drop]
  have h0 : cs.take 6 = [.int .i64 u0, .int .i64 u1, .int .u64 (u2 : Nat), .int .u64 (u3 : Nat), .string u4, .bool u5] := by
    apply List.ext_getElem (by simp; omega)
    intro i h1 h2
    rw [List.getElem_take]
    have : i = 0 ∨ i = 1 ∨ i = 2 ∨ i = 3 ∨ i = 4 ∨ i = 5 := by simp at h2; omega
    rcases this with rfl | rfl | rfl | rfl | rfl | rfl
    · exact e0
    · exact e1
    · exact e2
    · exact e3
    · exact e4
    · exact e5
  rw [h6, h0, e6, e7]
  rfl
set_option maxRecDepth 100000 in
set_option maxHeartbeats 4000000 in
theorem open_sacts {v : Value} {d : DataW H} {p : List MemPlace} {r : Reach} {b0 : Nat} (hv : Value.okWide Tryz.prog w r b0 49 v) (h : DataW.Trod enc Tryz.prog w base (fun _ => true) held 49 v d p) :
    ∃ (A : Option Addr) (c : Nat) (l : List SAct), v = .slice A l.length c ∧ Elems w A SAct.cells 20 l ∧ ∀ y ∈ l, y.OK :=
  open_elems (sz := 20) Tryz.underlying49 (by kernel_rfl) (by omega) (fun _ => rfl) trod_act hv h
end
end Go.Proofs.YtjdfemfobcjecaaGreat

/-
  streams, plain: which streams the other side names.
-/
namespace Go.Proofs.YtjdfemfobcjecaaGreat
open Go.RowKit
set_option linter.unusedVariables false
set_option linter.unusedSimpArgs false
/-- a set of side 0 whose streams were all named by the other side -/
structure Named (s : Ss) (own : Lm) : Prop where
  side : s.side = 0
  ow : s.own = own.capped
  ids : ∀ x ∈ s.l, x.id % 2 = 1 ∧ x.id / 4 < own.capped.count x.id
theorem Named.of_ids {s s' : Ss} {own : Lm} (h : Named s own) (h1 : s'.side = s.side) (h2 : s'.own = s.own) (h3 : s'.l.map St.id = s.l.map St.id) : Named s' own := by
  refine ⟨h1.trans h.side, h2.trans h.ow, fun y hy => ?_⟩
  have : y.id ∈ s.l.map St.id := by rw [← h3]; exact List.mem_map.2 ⟨y, hy, rfl⟩
  obtain ⟨x, hx, e⟩ := List.mem_map.1 this
  rw [← e]
  exact h.ids x hx
theorem Ss.Others.ids {s s' : Ss} {l : Lm} (h : s.Others l s') : s'.l.map St.id = s.l.map St.id := by
  apply List.ext_getElem?
  intro i
  rw [List.getElem?_map, List.getElem?_map]
  cases hx : s.l[i]? with
  | none =>
    have : s'.l[i]? = none := by rw [List.getElem?_eq_none_iff] at hx ⊢; rw [h.len]; exact hx
    rw [this]
  | some x =>
    obtain ⟨y, hy, hr⟩ := h.each i x hx
    rw [hy]
    simp only [Option.map_some, hr.id.1]
theorem count_kind (l : Lm) {a b : Nat} (h : a % 4 = b % 4) : l.count a = l.count b := by unfold Lm.count; rw [h]
theorem Named.names {s s' : Ss} {own : Lm} {id c : Nat} {may : Bool} {v : Value} (h : Named s own) (hn : s.Names id may v c s') : Named s' own ∧ s.l.length ≤ s'.l.length ∧ (c ≠ 0 → s' = s) := by
  cases hn with
  | made s' x n h1 hn hm hc hl hf hop hx hid =>
    have hg := hf.grew (Nat.mod_lt _ (by omega))
    obtain ⟨t, e1, e2, e3⟩ := hg.l
    refine ⟨⟨hg.side.trans h.side, hg.own.trans h.ow, fun y hy => ?_⟩, by rw [e1, List.length_append]; omega, fun hne => absurd rfl hne⟩
    rw [e1, List.mem_append] at hy
    rcases hy with hy | hy
    · exact h.ids y hy
    · obtain ⟨k1, k2, _⟩ := e3 y hy
      have hodd : id % 2 = 1 := by
        unfold Ss.mine at hm
        rw [h.side] at hm
        simp at hm
        omega
      rw [h.ow] at hc
      refine ⟨by omega, ?_⟩
      rw [count_kind own.capped k1]
      omega
  | state => exact ⟨h, Nat.le_refl _, fun _ => rfl⟩
  | here => exact ⟨h, Nat.le_refl _, fun _ => rfl⟩
  | limit => exact ⟨h, Nat.le_refl _, fun _ => rfl⟩
  | many => exact ⟨h, Nat.le_refl _, fun _ => rfl⟩
theorem Named.put {s : Ss} {own : Lm} (h : Named s own) (x' : St) : Named (s.put x') own := h.of_ids rfl rfl (Ss.put_ids s x')
theorem Ss.put_len (s : Ss) (x' : St) : (s.put x').l.length = s.l.length := by unfold Ss.put; simp
structure Ss.Told (s : Ss) (f : Fr) (r : Int) (s' : Ss) : Prop where
  more : s.l.length ≤ s'.l.length
  bad : r = 21 ∨ r = 22 ∨ r = 4 ∨ r = 1 → s'.l.length = s.l.length
  there : r = 0 → f.kind = 8 ∨ f.kind = 4 → ∃ x ∈ s'.l, x.id = f.a
theorem resetErr_few (o : Ib) (n : Nat) : o.resetErr n = 0 ∨ o.resetErr n = 20 ∨ o.resetErr n = 23 := by
  unfold Ib.resetErr
  split
  · exact .inr (.inl rfl)
  · split
    · exact .inr (.inr rfl)
    · exact .inl rfl
theorem putErr_few (o : Ib) (a n : Nat) (fin : Bool) : o.putErr a n fin = 0 ∨ o.putErr a n fin = 20 ∨ o.putErr a n fin = 23 := by
  unfold Ib.putErr Ib.fitErr
  split
  · exact .inr (.inl rfl)
  · split
    · exact .inr (.inl rfl)
    · split
      · exact .inr (.inr rfl)
      · exact .inl rfl
theorem Named.gots {s s' : Ss} {own : Lm} {f : Fr} {r : Int} (h : Named s own) (hg : s.Gots f r s') : Named s' own ∧ s.Told f r s' := by
  cases hg with
  | comes r s' hk hc =>
    cases hc with
    | names v c s' hn hc =>
      obtain ⟨h1, h2, h3⟩ := h.names hn
      obtain rfl := h3 hc
      exact ⟨h1, ⟨h2, fun _ => rfl, fun h0 => by omega⟩⟩
    | beyond s' x hn hx hid hb =>
      obtain ⟨h1, h2, _⟩ := h.names hn
      exact ⟨h1, ⟨h2, fun h0 => by omega, fun h0 => by omega⟩⟩
    | reset s1 x b m m' o hn hx hid hb hi hk =>
      obtain ⟨h1, h2, _⟩ := h.names hn
      have hf := resetErr_few o f.c
      exact ⟨h1.put _, ⟨by rw [Ss.put_len]; exact h2, fun h0 => by omega, fun _ _ => ⟨_, Ss.put_mem hx rfl, hid⟩⟩⟩
    | put s1 x b m m' o o' hn hx hid hb hi hk hp =>
      obtain ⟨h1, h2, _⟩ := h.names hn
      have hf := putErr_few o f.b f.data.size f.fin
      exact ⟨h1.put _, ⟨by rw [Ss.put_len]; exact h2, fun h0 => by omega, fun _ _ => ⟨_, Ss.put_mem hx rfl, hid⟩⟩⟩
  | stopBad v c s' hk hn hc =>
    obtain ⟨h1, h2, h3⟩ := h.names hn
    obtain rfl := h3 hc
    exact ⟨h1, ⟨h2, fun _ => rfl, fun h0 => by omega⟩⟩
  | stop s1 x b dv sv dv' sv' o hk hn hx hid ho =>
    obtain ⟨h1, h2, _⟩ := h.names hn
    exact ⟨h1.put _, ⟨by rw [Ss.put_len]; exact h2, fun h0 => by omega, fun _ hk' => by omega⟩⟩
  | raiseBad v c s' hk hn hc =>
    obtain ⟨h1, h2, h3⟩ := h.names hn
    obtain rfl := h3 hc
    exact ⟨h1, ⟨h2, fun _ => rfl, fun h0 => by omega⟩⟩
  | raise s1 x b dv sv dv' sv' o hk hn hx hid ho =>
    obtain ⟨h1, h2, _⟩ := h.names hn
    exact ⟨h1.put _, ⟨by rw [Ss.put_len]; exact h2, fun h0 => by omega, fun _ hk' => by omega⟩⟩
  | blocked v c s' hk hn =>
    obtain ⟨h1, h2, h3⟩ := h.names hn
    refine ⟨h1, ⟨h2, fun h0 => ?_, fun _ hk' => by omega⟩⟩
    have hc : c ≠ 0 := by omega
    rw [h3 hc]
  | data s' hk ho =>
    have hl : s'.l.length = s.l.length := ho.len
    exact ⟨h.of_ids (by rw [ho.eq]) (by rw [ho.eq]) ho.ids, ⟨by omega, fun _ => hl, fun _ hk' => by omega⟩⟩
  | bidis s' hk ho =>
    have hl : s'.l.length = s.l.length := ho.len
    exact ⟨h.of_ids (by rw [ho.eq]) (by rw [ho.eq]) ho.ids, ⟨by omega, fun _ => hl, fun _ hk' => by omega⟩⟩
  | unis s' hk ho =>
    have hl : s'.l.length = s.l.length := ho.len
    exact ⟨h.of_ids (by rw [ho.eq]) (by rw [ho.eq]) ho.ids, ⟨by omega, fun _ => hl, fun _ hk' => by omega⟩⟩
  | idle hk => exact ⟨h, ⟨Nat.le_refl _, fun _ => rfl, fun _ hk' => by omega⟩⟩
  | bad hk => exact ⟨h, ⟨Nat.le_refl _, fun _ => rfl, fun h0 => by omega⟩⟩
theorem Named.fresh (mb : Nat) (own other : Lm) : Named (Ss.fresh mb 0 own other) own := ⟨rfl, rfl, fun x hx => by cases hx⟩
/-- what each id is, in their order -/
theorem Named.id_at {s : Ss} {own : Lm} {ss : List Int} (h : Named s own) (hw : s.WF) (hu : s.Up ss) {j : Nat} (hj : j < ss.length) :
    ∃ id : Nat, ss[j] = (id : Int) ∧ id ≤ 4611686018427387903 ∧ id % 2 = 1 ∧ (id % 4 = 1 → id / 4 < own.bidis) ∧ (id % 4 = 3 → id / 4 < own.unis) ∧ (4 ≤ id → ((id - 4 : Nat) : Int) ∈ ss.take j) := by
  obtain ⟨x, hx, e⟩ := (hu.2.2 ss[j]).1 (List.getElem_mem hj)
  obtain ⟨h1, h2⟩ := h.ids x hx
  refine ⟨x.id, e.symm, (hw.vals x hx).1, h1, fun h4 => ?_, fun h4 => ?_, fun h4 => ?_⟩
  · unfold Lm.count at h2
    rw [if_pos (by omega)] at h2
    exact Nat.lt_of_lt_of_le h2 (Nat.min_le_left _ _)
  · unfold Lm.count at h2
    rw [if_neg (by omega)] at h2
    exact Nat.lt_of_lt_of_le h2 (Nat.min_le_left _ _)
  · have hlow := hw.low x hx
    obtain ⟨y, hy, ey⟩ := hw.have_ (x.id % 4) (x.id / 4 - 1) (Nat.mod_lt _ (by omega)) (by omega)
    have hyi : y.id = x.id - 4 := by omega
    have hmem : ((x.id - 4 : Nat) : Int) ∈ ss := (hu.2.2 _).2 ⟨y, hy, by rw [hyi]⟩
    obtain ⟨m, hm, em⟩ := List.mem_iff_getElem.1 hmem
    have hlt : m < j := by
      apply Nat.lt_of_not_le
      intro hle
      rcases Nat.lt_or_eq_of_le hle with hlt | rfl
      · have := List.pairwise_iff_getElem.1 hu.1 j m hj hm hlt
        rw [em, ← e] at this
        omega
      · rw [em] at e; omega
    rw [List.mem_take_iff_getElem]
    exact ⟨m, by omega, em⟩
/-- those of a list's first ones -/
def marks (ss : List Int) (j : Nat) (x : Int) : Option Value := if x ∈ ss.take j then some (.bool true) else none
theorem marks_zero (ss : List Int) : marks ss 0 = fun _ => none := by funext x; unfold marks; simp
theorem marks_step (ss : List Int) {j : Nat} (hj : j < ss.length) : upd (marks ss j) ss[j] (some (.bool true)) = marks ss (j + 1) := by
  funext x
  unfold upd marks
  rw [List.take_succ_eq_append_getElem hj]
  simp only [List.mem_append, List.mem_singleton]
  by_cases e : x = ss[j]
  · rw [if_pos e, if_pos (.inr e)]
  · rw [if_neg e]
    by_cases h : x ∈ ss.take j
    · rw [if_pos h, if_pos (.inl h)]
    · rw [if_neg h, if_neg (fun h2 => h2.elim h e)]
end Go.Proofs.YtjdfemfobcjecaaGreat

/-
  The statement StreamsNames, walked; no condition.
-/
namespace Go.Proofs.YtjdfemfobcjecaaGreat
open Go.RowKit Go.Sort
set_option linter.unusedVariables false
set_option linter.unusedSimpArgs false
set_option maxRecDepth 100000 in
set_option maxHeartbeats 40000000 in
theorem walkStreamsNames (own : Lm) (A : Option Addr) (c : Nat) (l : List FA) (W : World) (hu : own.U) (hE : Elems W A FA.cells 8 l) (hok : ∀ y ∈ l, y.OK) :
    Calls Tryz.prog 3 #[own.val, .slice A l.length c] W fun e w' => e = .returned (.bool true) ∧ Below W.heap.size W w' := by
  have HE := hide hE
  have HOk := hide hok
  clear hE hok
  have hM0 : Mod [] W (W.alloc (.cells #[.int .u64 (own.data : Int), .int .u64 (own.bl : Int), .int .u64 (own.br : Int), .int .u64 (own.un : Int), .int .u64 (own.bidis : Int), .int .u64 (own.unis : Int)] 24)) := (Mod.refl [] W).alloc _
  have HM0 := hide hM0
  have HBx0 := hide (Blk.new W 24 #[.int .u64 (own.data : Int), .int .u64 (own.bl : Int), .int .u64 (own.br : Int), .int .u64 (own.un : Int), .int .u64 (own.bidis : Int), .int .u64 (own.unis : Int)])
  have HAw := hide (stawake_any (W.alloc (.cells #[.int .u64 (own.data : Int), .int .u64 (own.bl : Int), .int .u64 (own.br : Int), .int .u64 (own.un : Int), .int .u64 (own.bidis : Int), .int .u64 (own.unis : Int)] 24)))
  have hmm := @run_makeMap Tryz.prog
  clear hM0
  unfold Lm.val
  go_enter Tryz.func3, Tryz.ntmps3
  go_wp2_with fail
  refine HAw.out.mono ?_
  rintro e w1 ⟨rfl, hm1⟩
  have HM1 := hide (HM0.out.trans hm1 (by simp))
  have hbx1 := hm1.blk HBx0.out (by simp)
  have HBx1 := hide hbx1
  have hw1 : W.heap.size < w1.heap.size := hbx1.lt
  have u0 : w1.cell? ⟨W.heap.size, 0, none⟩ = some (.int .u64 (own.data : Int)) := hbx1.cell 0
  have u1 : w1.cell? ⟨W.heap.size, 1, none⟩ = some (.int .u64 (own.bl : Int)) := hbx1.cell 1
  have u2 : w1.cell? ⟨W.heap.size, 2, none⟩ = some (.int .u64 (own.br : Int)) := hbx1.cell 2
  have u3 : w1.cell? ⟨W.heap.size, 3, none⟩ = some (.int .u64 (own.un : Int)) := hbx1.cell 3
  have u4 : w1.cell? ⟨W.heap.size, 4, none⟩ = some (.int .u64 (own.bidis : Int)) := hbx1.cell 4
  have u5 : w1.cell? ⟨W.heap.size, 5, none⟩ = some (.int .u64 (own.unis : Int)) := hbx1.cell 5
  have hnw := own_new w1 0 own ⟨0, 0, 0, 0, 0, 0⟩
  unfold Lm.val at hnw
  simp only [Int.natCast_zero] at hnw
  have HNw := hide hnw
  clear hm1 hbx1 hnw
  go_wp2_with fail
  refine HNw.out.mono ?_
  rintro e w2 ⟨sb, mb, rfl, hO⟩
  have hnm := Named.fresh mb own ⟨0, 0, 0, 0, 0, 0⟩
  obtain ⟨s0, hs0⟩ : ∃ s0, Ss.fresh mb 0 own ⟨0, 0, 0, 0, 0, 0⟩ = s0 := ⟨_, rfl⟩
  rw [hs0] at hO hnm
  have HO0 := hide hO
  have HNm0 := hide hnm
  clear hO hnm hs0 u0 u1 u2 u3 u4 u5
  have hll := HE.out.len
  go_wp2_with fail
  go_loopw [6] (fun i wr => ∃ (k : Nat) (s : Ss), i = .int .i64 (k : Int) ∧ k ≤ l.length ∧ k ≤ 60 ∧ Own (200 * k) w1 wr sb s ∧ Named s own) (fun i _ => l.length - (intOf i).toNat)
  case atStart => exact ⟨0, s0, rfl, Nat.zero_le _, by omega, HO0.out, HNm0.out⟩
  case round =>
    obtain ⟨k, s, rfl, hk, hk60, hO, hnm⟩ := hrel
    have HO := hide hO
    have HNm := hide hnm
    have HMr := hide (HM1.out.trans hO.mod (by simp))
    clear hO hnm
    by_cases hlt : k < l.length
    · by_cases hl6 : k < 60
      · obtain ⟨y, hy⟩ : ∃ y, l[k]? = some y := ⟨_, List.getElem?_eq_getElem hlt⟩
        obtain ⟨g, o, rfl, hg, hcl⟩ := HE.out.at_ hy
        have hcl : ∀ (j : Nat) u, y.cells[j]? = some u → W.cell? ⟨g, o + k * 8 + j, none⟩ = some u := hcl
        have hyok := HOk.out y (List.mem_of_getElem? hy)
        have d60 : decide ((k : Int) < 60) = true := decide_eq_true (by omega)
        have x5 : wr.cell? ⟨g, o + k * 8 + 5, none⟩ = some (.string y.f.data) := (HMr.out.cell (p := ⟨g, o + k * 8 + 5, none⟩) hg (by simp)).trans (hcl 5 _ rfl)
        have hdz := hyok.data
        by_cases hbig : 200 < y.f.data.size
        · have hb2 : (y.f.data.size : Int) > 200 := by omega
          go_wp2_with fail
          go_ret
          exact ⟨rfl, HMr.out.below (Nat.le_refl _) (by simp)⟩
        · have hb2 : ¬ ((y.f.data.size : Int) > 200) := by omega
          go_wp2_with fail
          clear x5
          refine (own_ids HO.out).mono ?_
          rintro e w3 ⟨v3, ss3, rfl, hu3, hr3, hm3, hO3⟩
          obtain ⟨A3, cap3, rfl, _, _, _, _⟩ := urow_form hr3
          rw [hu3.2.1]
          have HM3 := hide (HMr.out.trans hm3 (by simp))
          have HO3 := hide hO3
          have hl3 : s.l.length ≤ 100 := hO3.ok.wf.len
          obtain ⟨n3, hn3⟩ : ∃ n3, s.l.length = n3 := ⟨_, rfl⟩
          have HN3 := hide hn3
          rw [hn3] at hl3 ⊢
          have x0 : w3.cell? ⟨g, o + k * 8, none⟩ = some (.int .u64 (y.f.kind : Nat)) := (HM3.out.cell (p := ⟨g, o + k * 8 + 0, none⟩) hg (by simp)).trans (hcl 0 _ rfl)
          have x1 : w3.cell? ⟨g, o + k * 8 + 1, none⟩ = some (.int .u64 (y.f.a : Nat)) := (HM3.out.cell (p := ⟨g, o + k * 8 + 1, none⟩) hg (by simp)).trans (hcl 1 _ rfl)
          have x2 : w3.cell? ⟨g, o + k * 8 + 2, none⟩ = some (.int .u64 (y.f.b : Nat)) := (HM3.out.cell (p := ⟨g, o + k * 8 + 2, none⟩) hg (by simp)).trans (hcl 2 _ rfl)
          have x3 : w3.cell? ⟨g, o + k * 8 + 3, none⟩ = some (.int .u64 (y.f.c : Nat)) := (HM3.out.cell (p := ⟨g, o + k * 8 + 3, none⟩) hg (by simp)).trans (hcl 3 _ rfl)
          have x4 : w3.cell? ⟨g, o + k * 8 + 4, none⟩ = some (.bool y.f.fin) := (HM3.out.cell (p := ⟨g, o + k * 8 + 4, none⟩) hg (by simp)).trans (hcl 4 _ rfl)
          have x5 : w3.cell? ⟨g, o + k * 8 + 5, none⟩ = some (.string y.f.data) := (HM3.out.cell (p := ⟨g, o + k * 8 + 5, none⟩) hg (by simp)).trans (hcl 5 _ rfl)
          have x6 : w3.cell? ⟨g, o + k * 8 + 6, none⟩ = some (.string y.f.more) := (HM3.out.cell (p := ⟨g, o + k * 8 + 6, none⟩) hg (by simp)).trans (hcl 6 _ rfl)
          have x7 : w3.cell? ⟨g, o + k * 8 + 7, none⟩ = some (.slice y.A y.f.list.length y.c) := (HM3.out.cell (p := ⟨g, o + k * 8 + 7, none⟩) hg (by simp)).trans (hcl 7 _ rfl)
          have hgt := own_got HO3.out (by omega) y.A y.f.list.length y.c y.f hyok.kind hyok.a hyok.b hyok.c (by omega)
          unfold fval fcs at hgt
          have HGt := hide hgt
          clear hu3 hr3 hm3 hO3 hgt hn3
          go_wp2_with fail
          refine HGt.out.mono ?_
          rintro e w4 ⟨r, s', rfl, ho, hst, hO4⟩
          obtain ⟨hn4, htd⟩ := HNm.out.gots ho
          have HTd := hide htd
          have HNm4 := hide hn4
          have HO4 := hide (hO4.mono (show 200 * k + y.f.data.size ≤ 200 * (k + 1) by omega))
          clear ho hst hO4 htd hn4 HGt
          clear x0 x1 x2 x3 x4 x5 x6 x7
          go_wp2_with fail
          refine (own_ids HO4.out).mono ?_
          rintro e w5 ⟨v5, ss, rfl, hu5, hr5, hm5, hO5⟩
          obtain ⟨A5, cap5, rfl, hn51, hn52, _, hat5⟩ := urow_form hr5
          have HU5 := hide hu5
          have HO5 := hide hO5
          have hl5 : ss.length ≤ 100 := by rw [hu5.2.1]; exact hO5.ok.wf.len
          have hge : n3 ≤ ss.length := by rw [hu5.2.1, ← HN3.out]; exact HTd.out.more
          have HAt := hide hat5
          clear hu5 hr5 hm5 hO5 hat5
          have dge : decide ((ss.length : Int) < (n3 : Int)) = false := decide_eq_false (by omega)
          have dgt : decide ((ss.length : Int) > 100) = false := decide_eq_false (by omega)
          go_wp2_with fail
          have HMp : Hid (IMap (w5.alloc (.map #[] 0)) w5.heap.size .u64 (marks ss 0)) := hide (by rw [marks_zero]; exact IMap.made w5 .u64)
          have HMa : Hid (Mod [] w5 (w5.alloc (.map #[] 0))) := hide ((Mod.refl [] w5).alloc _)
          go_loopw [58] (fun i wq => ∃ (j : Nat), i = .int .i64 (j : Int) ∧ j ≤ ss.length ∧ IMap wq w5.heap.size .u64 (marks ss j) ∧ Mod [] w5 wq) (fun i _ => ss.length - (intOf i).toNat)
          case atStart => exact ⟨0, rfl, Nat.zero_le _, HMp.out, HMa.out⟩
          case round =>
            obtain ⟨j, rfl, hj, hmp, hmq⟩ := hrel
            have HMq := hide hmq
            have HMpj := hide hmp
            by_cases hjl : j < ss.length
            · obtain ⟨id, hid, hidl, hodd, hk1, hk3, hprev⟩ := HNm4.out.id_at HO5.out.ok.wf HU5.out hjl
              obtain ⟨gr, rfl, _, hgr, hcr⟩ := HAt.out j hjl
              rw [hid] at hcr
              have hcj : wr.cell? ⟨gr, j, none⟩ = some (.int .u64 (id : Int)) := (hmq.cell (p := ⟨gr, j, none⟩) hgr (by simp)).trans hcr
              have hbx : Blk wr W.heap.size 24 #[.int .u64 (own.data : Int), .int .u64 (own.bl : Int), .int .u64 (own.br : Int), .int .u64 (own.un : Int), .int .u64 (own.bidis : Int), .int .u64 (own.unis : Int)] := (HO5.out.mod.trans hmq (by simp)).blk HBx1.out (by simp)
              have b4 : wr.cell? ⟨W.heap.size, 4, none⟩ = some (.int .u64 (own.bidis : Int)) := hbx.cell 4
              have b5 : wr.cell? ⟨W.heap.size, 5, none⟩ = some (.int .u64 (own.unis : Int)) := hbx.cell 5
              obtain ⟨w6, hup, hm6, mm6, hsz6⟩ := hmp.update (P := Tryz.prog) (T := 36) Tryz.underlying36 Tryz.underlying22 (id : Int) (.bool true)
              rw [← hid, marks_step ss hjl] at hm6
              have HMp6 := hide hm6
              have HM6 := hide (hmq.trans mm6 (fun z hz => by simp at hz; exact .inr (by omega)))
              have hlk := hm6.lookup (P := Tryz.prog) (T := 36) Tryz.underlying36 Tryz.underlying22 (z := .bool false) (by kernel_rfl) ((id : Int) - 4)
              have HLk : Hid (4 ≤ id → (marks ss (j + 1) ((id : Int) - 4)).getD (.bool false) = .bool true) := hide (fun h4 => by
                have hm := hprev h4
                have e : ((id - 4 : Nat) : Int) = (id : Int) - 4 := by omega
                rw [e] at hm
                unfold marks
                rw [if_pos (by rw [List.take_succ_eq_append_getElem hjl]; exact List.mem_append.2 (.inl hm))]
                rfl)
              have hid' : (id : Int) = ss[j] := hid.symm
              rw [← hid] at hup
              rw [hid] at hup
              have i2 : ((id : Int) % 2) = 1 := by omega
              have k0 : (0 : Int) ≤ (j : Int) := by omega
              have HOdd := hide hodd
              have HSo : Hid (∀ m (hm : m + 1 < ss.length) (p : Nat), ss[m] = (p : Int) → ss[m + 1] = (id : Int) → p < id) := hide (fun m hm p hp hq => by
                have := List.pairwise_iff_getElem.1 HU5.out.1 m (m + 1) (by omega) hm (by omega)
                rw [hp, hq] at this
                omega)
              have HId := hide hid
              have HJl := hide hjl
              have q4 : ((id : Int) / 4) = ((id / 4 : Nat) : Int) := by omega
              obtain ⟨iq, hiq⟩ : ∃ iq, id / 4 = iq := ⟨_, rfl⟩
              rw [hiq] at q4 hk1 hk3
              have hk1i : id % 4 = 1 → ¬ own.bidis ≤ iq := fun h => by have := hk1 h; omega
              have hk3i : id % 4 = 3 → ¬ own.unis ≤ iq := fun h => by have := hk3 h; omega
              have HK1 := hide hk1i
              have HK3 := hide hk3i
              have hiqz : (0 : Int) ≤ (iq : Int) := by omega
              clear hmp hmq hcr hbx hm6 hid hid' hprev hodd hk1 hk3 hk1i hk3i hgr
              cases j with
              | zero =>
                rcases (show id % 4 = 1 ∨ id % 4 = 3 by have := HOdd.out; omega) with hk4 | hk4
                · by_cases hge4 : 4 ≤ id
                  · have i4 : ((id : Int) % 4) = 1 := by omega
                    have dlt := HK1.out (by omega)
                    rw [HLk.out (by omega)] at hlk
                    have d4 : decide ((id : Int) ≥ 4) = true := decide_eq_true (by omega)
                    have d4b : IntKind.u64.wrap ((id : Int) - 4) = (id : Int) - 4 := IntWalk.u64_in _ (by omega)
                    go_wp2_with fail
                    go_roundw
                    case rel => exact ⟨0 + 1, by go_num, by have := HJl.out; omega, HMp6.out, HM6.out⟩
                    case measure => have := HJl.out; simp [intOf]; omega
                  · have i4 : ((id : Int) % 4) = 1 := by omega
                    have dlt := HK1.out (by omega)
                    have d4 : decide ((id : Int) ≥ 4) = false := decide_eq_false (by omega)
                    clear hlk
                    go_wp2_with fail
                    go_roundw
                    case rel => exact ⟨0 + 1, by go_num, by have := HJl.out; omega, HMp6.out, HM6.out⟩
                    case measure => have := HJl.out; simp [intOf]; omega
                · by_cases hge4 : 4 ≤ id
                  · have i4 : ((id : Int) % 4) = 3 := by omega
                    have dlt := HK3.out (by omega)
                    rw [HLk.out (by omega)] at hlk
                    have d4 : decide ((id : Int) ≥ 4) = true := decide_eq_true (by omega)
                    have d4b : IntKind.u64.wrap ((id : Int) - 4) = (id : Int) - 4 := IntWalk.u64_in _ (by omega)
                    go_wp2_with fail
                    go_roundw
                    case rel => exact ⟨0 + 1, by go_num, by have := HJl.out; omega, HMp6.out, HM6.out⟩
                    case measure => have := HJl.out; simp [intOf]; omega
                  · have i4 : ((id : Int) % 4) = 3 := by omega
                    have dlt := HK3.out (by omega)
                    have d4 : decide ((id : Int) ≥ 4) = false := decide_eq_false (by omega)
                    clear hlk
                    go_wp2_with fail
                    go_roundw
                    case rel => exact ⟨0 + 1, by go_num, by have := HJl.out; omega, HMp6.out, HM6.out⟩
                    case measure => have := HJl.out; simp [intOf]; omega
              | succ m =>
                obtain ⟨p, hp, hpl, hpo, _, _, _⟩ := HNm4.out.id_at HO5.out.ok.wf HU5.out (show m < ss.length by have := HJl.out; omega)
                have HP := hide hp
                have HPo := hide hpo
                clear hpo
                obtain ⟨gr2, hgr2, _, hgr3, hcr2⟩ := HAt.out m (by have := HJl.out; omega)
                cases hgr2
                rw [hp] at hcr2
                have hcm : wr.cell? ⟨gr, m, none⟩ = some (.int .u64 (p : Int)) := (HMq.out.cell (p := ⟨gr, m, none⟩) hgr3 (by simp)).trans hcr2
                have hml := HJl.out
                have m0 : (0 : Int) ≤ (m : Int) := by omega
                clear hp hcr2 hgr3
                rcases (show id % 4 = 1 ∨ id % 4 = 3 by have := HOdd.out; omega) with hk4 | hk4
                · by_cases hge4 : 4 ≤ id
                  · have i4 : ((id : Int) % 4) = 1 := by omega
                    have dlt := HK1.out (by omega)
                    have dps : ¬ (id ≤ p) := by have := HSo.out m HJl.out p HP.out HId.out; omega
                    rw [HLk.out (by omega)] at hlk
                    have d4 : decide ((id : Int) ≥ 4) = true := decide_eq_true (by omega)
                    have d4b : IntKind.u64.wrap ((id : Int) - 4) = (id : Int) - 4 := IntWalk.u64_in _ (by omega)
                    go_wp2_with fail
                    go_roundw
                    case rel => exact ⟨m + 1 + 1, by go_num, by have := HJl.out; omega, HMp6.out, HM6.out⟩
                    case measure => have := HJl.out; simp [intOf]; omega
                  · exfalso
                    have h8 := HSo.out m HJl.out p HP.out HId.out
                    have h9 := HPo.out
                    omega
                · by_cases hge4 : 4 ≤ id
                  · have i4 : ((id : Int) % 4) = 3 := by omega
                    have dlt := HK3.out (by omega)
                    have dps : ¬ (id ≤ p) := by have := HSo.out m HJl.out p HP.out HId.out; omega
                    rw [HLk.out (by omega)] at hlk
                    have d4 : decide ((id : Int) ≥ 4) = true := decide_eq_true (by omega)
                    have d4b : IntKind.u64.wrap ((id : Int) - 4) = (id : Int) - 4 := IntWalk.u64_in _ (by omega)
                    go_wp2_with fail
                    go_roundw
                    case rel => exact ⟨m + 1 + 1, by go_num, by have := HJl.out; omega, HMp6.out, HM6.out⟩
                    case measure => have := HJl.out; simp [intOf]; omega
                  · have i4 : ((id : Int) % 4) = 3 := by omega
                    have dlt := HK3.out (by omega)
                    have dps : ¬ (id ≤ p) := by have := HSo.out m HJl.out p HP.out HId.out; omega
                    have d4 : decide ((id : Int) ≥ 4) = false := decide_eq_false (by omega)
                    clear hlk
                    go_wp2_with fail
                    go_roundw
                    case rel => exact ⟨m + 1 + 1, by go_num, by have := HJl.out; omega, HMp6.out, HM6.out⟩
                    case measure => have := HJl.out; simp [intOf]; omega
            · obtain rfl : j = ss.length := by omega
              have hall : ∀ x : Int, marks ss ss.length x = if x ∈ ss then some (.bool true) else none := fun x => by unfold marks; rw [List.take_length]
              have HAll := hide hall
              have HM7 := hide (HM3.out)
              have hmw : Mod [] W wr := HM1.out.trans (HO5.out.mod.trans hmq (by simp)) (by simp)
              have HMw := hide hmw
              have HO7 := hide (HO5.out.next hmq)
              have z0 : wr.cell? ⟨g, o + k * 8, none⟩ = some (.int .u64 (y.f.kind : Nat)) := (hmw.cell (p := ⟨g, o + k * 8 + 0, none⟩) hg (by simp)).trans (hcl 0 _ rfl)
              have z1 : wr.cell? ⟨g, o + k * 8 + 1, none⟩ = some (.int .u64 (y.f.a : Nat)) := (hmw.cell (p := ⟨g, o + k * 8 + 1, none⟩) hg (by simp)).trans (hcl 1 _ rfl)
              have hlk := hmp.lookup (P := Tryz.prog) (T := 36) Tryz.underlying36 Tryz.underlying22 (z := .bool false) (by kernel_rfl) (y.f.a : Int)
              have HLa : Hid (r = 0 → y.f.kind = 8 ∨ y.f.kind = 4 → (marks ss ss.length (y.f.a : Int)).getD (.bool false) = .bool true) := hide (fun h0 hk' => by
                obtain ⟨x, hx, e⟩ := HTd.out.there h0 hk'
                rw [HAll.out, if_pos ((HU5.out.2.2 _).2 ⟨x, hx, by rw [e]⟩)]
                rfl)
              have HLen : Hid (r = 21 ∨ r = 22 ∨ r = 4 ∨ r = 1 → (ss.length : Int) = (n3 : Int)) := hide (fun h => by
                have h1 := HTd.out.bad h
                have h2 := HU5.out.2.1
                have h3 := HN3.out
                omega)
              clear hmp hmq hall hmw
              by_cases hr21 : r = 21
              · subst hr21
                have hln := HLen.out (by omega)
                have hne : ((ss.length : Int) != (n3 : Int)) = false := by rw [bne_eq_false_iff_eq]; exact hln
                clear hlk hln
                go_wp2_with fail
                go_roundw
                case rel => exact ⟨k + 1, s', by go_num, by omega, by omega, HO7.out, HNm4.out⟩
                case measure => simp [intOf]; omega
              by_cases hr22 : r = 22
              · subst hr22
                have hln := HLen.out (by omega)
                have hne : ((ss.length : Int) != (n3 : Int)) = false := by rw [bne_eq_false_iff_eq]; exact hln
                clear hlk hln
                go_wp2_with fail
                go_roundw
                case rel => exact ⟨k + 1, s', by go_num, by omega, by omega, HO7.out, HNm4.out⟩
                case measure => simp [intOf]; omega
              by_cases hr4 : r = 4
              · subst hr4
                have hln := HLen.out (by omega)
                have hne : ((ss.length : Int) != (n3 : Int)) = false := by rw [bne_eq_false_iff_eq]; exact hln
                clear hlk hln
                go_wp2_with fail
                go_roundw
                case rel => exact ⟨k + 1, s', by go_num, by omega, by omega, HO7.out, HNm4.out⟩
                case measure => simp [intOf]; omega
              by_cases hr1 : r = 1
              · subst hr1
                have hln := HLen.out (by omega)
                have hne : ((ss.length : Int) != (n3 : Int)) = false := by rw [bne_eq_false_iff_eq]; exact hln
                clear hlk hln
                go_wp2_with fail
                go_roundw
                case rel => exact ⟨k + 1, s', by go_num, by omega, by omega, HO7.out, HNm4.out⟩
                case measure => simp [intOf]; omega
              by_cases hr0 : r = 0
              · subst hr0
                by_cases hkk : y.f.kind = 8
                · rw [HLa.out rfl (.inl hkk)] at hlk
                  have hk8 : ((y.f.kind : Int) == 8) = true := by rw [hkk]; rfl
                  clear hkk
                  go_wp2_with fail
                  go_roundw
                  case rel => exact ⟨k + 1, s', by go_num, by omega, by omega, HO7.out, HNm4.out⟩
                  case measure => simp [intOf]; omega
                · by_cases hkk4 : y.f.kind = 4
                  · rw [HLa.out rfl (.inr hkk4)] at hlk
                    have hk8 : ((y.f.kind : Int) == 8) = false := by rw [beq_eq_false_iff_ne]; omega
                    have hk4 : ((y.f.kind : Int) == 4) = true := by rw [hkk4]; rfl
                    clear hkk hkk4
                    go_wp2_with fail
                    go_roundw
                    case rel => exact ⟨k + 1, s', by go_num, by omega, by omega, HO7.out, HNm4.out⟩
                    case measure => simp [intOf]; omega
                  · clear hlk
                    have hk8 : ((y.f.kind : Int) == 8) = false := by rw [beq_eq_false_iff_ne]; omega
                    have hk4 : ((y.f.kind : Int) == 4) = false := by rw [beq_eq_false_iff_ne]; omega
                    clear hkk hkk4
                    go_wp2_with fail
                    go_roundw
                    case rel => exact ⟨k + 1, s', by go_num, by omega, by omega, HO7.out, HNm4.out⟩
                    case measure => simp [intOf]; omega
              · clear hlk
                have rr21 : (r == 21) = false := by rw [beq_eq_false_iff_ne]; exact hr21
                have rr22 : (r == 22) = false := by rw [beq_eq_false_iff_ne]; exact hr22
                have rr4 : (r == 4) = false := by rw [beq_eq_false_iff_ne]; exact hr4
                have rr1 : (r == 1) = false := by rw [beq_eq_false_iff_ne]; exact hr1
                have rr0 : (r == 0) = false := by rw [beq_eq_false_iff_ne]; exact hr0
                go_wp2_with fail
                go_roundw
                case rel => exact ⟨k + 1, s', by go_num, by omega, by omega, HO7.out, HNm4.out⟩
                case measure => simp [intOf]; omega
      · obtain rfl : k = 60 := by omega
        have d60 : decide (((60 : Nat) : Int) < 60) = false := rfl
        go_wp2_with fail
        go_ret
        exact ⟨rfl, HMr.out.below (Nat.le_refl _) (by simp)⟩
    · go_wp2_with fail
      go_ret
      exact ⟨rfl, HMr.out.below (Nat.le_refl _) (by simp)⟩
end Go.Proofs.YtjdfemfobcjecaaGreat

/-
  The row of 'StreamsNames': the walk's contract brought to the given statement.
-/
namespace Go.Proofs.YtjdfemfobcjecaaGreat.lawStreamsNames
open Go.ChangeShapes Go.WideShapes Go.ChangeAt Go.RowKit
open Go.ChangeMaps (open_string shut_string)
set_option linter.unusedVariables false

theorem own : ownKnob Tryz.prog.godebug = none := by kernel_rfl
theorem laidOut : laidOutB Tryz.prog = true := by kernel_rfl

set_option maxRecDepth 100000 in
theorem lifted (os : Os) (started : os.Started) (H : Type) (enc : TypeId × Value → H) :
    ReturnsInHanded {} Tryz.checked os 3 .any (Rows.streamsNamesSpec.pre6 enc Tryz.prog Tryz.f3 Rows.streamsNamesRow.domain false) (Rows.streamsNamesSpec.post enc Tryz.prog Tryz.f3 false true false false) := by
  refine returnsInHanded_of_change (C := Tryz.checked) own started (by kernel_rfl) Tryz.func3
    (ChangeSpec.witness6 (enc := enc) (C := Tryz.checked) false ⟨#[], #[.agg #[.int .u64 0, .int .u64 0, .int .u64 0, .int .u64 0, .int .u64 0, .int .u64 0], .slice none 0 0], []⟩ 8 (by kernel_rfl) (by kernel_rfl) (by kernel_rfl) (by kernel_rfl)) ?_
  intro W base args ds gs before hval0 hW hcnd _
  have hval : ∀ (j : Nat) t v, Tryz.f3.params[j]? = some t → args[j]? = some v → Value.okWide Tryz.prog W .any base t v := hval0
  have hW' := hW
  obtain ⟨p, q, hA0, hV, rfl, hfz, hnd⟩ := hW
  have hA : DataW.TrodAll enc Tryz.prog W 0 (fun _ => true) true Tryz.f3.params.toList args.toList ds p := hA0
  rw [Tryz.params3] at hA hval
  obtain ⟨v0, vs0, d0, ds0, p0, q0, hargs, rfl, rfl, h0, r0⟩ := trodAll_cons hA
  obtain ⟨v1, vs1, d1, ds1, p1, q1, rfl, rfl, rfl, h1, r1⟩ := trodAll_cons r0
  obtain ⟨rfl, rfl, rfl⟩ := trodAll_nil r1
  obtain rfl : args = #[v0, v1] := by cases args; simp_all
  obtain ⟨rfl, rfl⟩ := trodVars_none hV
  have k0 := h0
  have lt0 : ∀ x ∈ p0, x.block < W.heap.size := by obtain ⟨m, hm⟩ := k0; exact DataW.trod_lt m _ _ _ hm
  obtain ⟨l0, rfl, u0⟩ := open_limits (hval 0 24 v0 rfl rfl) h0
  have k1 := h1
  have lt1 : ∀ x ∈ p1, x.block < W.heap.size := by obtain ⟨m, hm⟩ := k1; exact DataW.trod_lt m _ _ _ hm
  obtain ⟨A1, c1, l1, rfl, u1, ok1⟩ := open_framesA (hval 1 25 v1 rfl rfl) h1
  clear hA0 hval0
  refine (walkStreamsNames l0 A1 c1 l1 W u0 u1 ok1).mono fun e W' ⟨he, bel⟩ => ?_
  subst he
  exact ⟨_, rfl, _, _, _, [], _, [], hW', trodAll_mk1 (shut_bool Tryz.underlying4 _), (trodAll_cons_mk (Below.trod laidOut (by kernel_rfl) (of_decide_eq_true (by kernel_rfl)) k0 bel lt0) (trodAll_cons_mk (Below.trod laidOut (by kernel_rfl) (of_decide_eq_true (by kernel_rfl)) k1 bel lt1) trodAll_mk0)), rfl, bel.frame _, fun h => by cases h⟩

theorem over : Rows.streamsNamesRow.holds Tryz.pinned (OpenSpec.ofChange Rows.streamsNamesSpec) :=
  OpenClaim.holds_of_wide 3 Tryz.f3 rfl rfl rfl rfl rfl rfl rfl ⟨rfl, rfl, rfl, rfl, rfl⟩ rfl rfl rfl rfl rfl (by kernel_rfl) Tryz.func3 (by kernel_rfl)
    (of_decide_eq_true (by kernel_rfl)) (by unfold Func.isWrapper; first | (rw [if_pos (by decide +kernel)]; kernel_rfl) | (rw [if_neg (by decide +kernel)]; exact ⟨rfl, rfl⟩))
    (fun os started H enc _ => lifted os started H enc)

/-- The statement. -/
theorem proved : Rows.StreamsNamesSaid := over
#print axioms proved
end Go.Proofs.YtjdfemfobcjecaaGreat.lawStreamsNames
