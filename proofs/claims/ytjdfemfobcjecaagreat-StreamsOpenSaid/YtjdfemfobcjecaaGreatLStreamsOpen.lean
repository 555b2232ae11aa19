/-
  The statement StreamsOpen: its walk, and the walk brought to the given statement; no condition.
-/
import Derived.Test.YtjdfemfobcjecaaGreatG1
import Derived.OpenShut
import Derived.ChangeSame
import Derived.Deep.Fields
import Derived.Deep.Slices
import Derived.Test.YtjdfemfobcjecaaGreatG5
import Derived.Test.YtjdfemfobcjecaaGreatG8
import Derived.Test.YtjdfemfobcjecaaGreatG11
import Derived.Deep.RegionHeld3
import Derived.Test.YtjdfemfobcjecaaGreatG6
import Derived.Test.YtjdfemfobcjecaaGreatRows
import Derived.WalkKit
import Derived.ProofKit
import Derived.ShutString
import Derived.ChangeOld
import Derived.Below

/-
  A slice that came in whose elements are of any type: opened, element by element; structs by their fields, wherever they lie.
-/
namespace Go.Proofs.YtjdfemfobcjecaaGreat
open Go.RowKit
section
open Go.ChangeShapes Go.WideShapes Go.Deep
variable {H : Type} {enc : TypeId × Value → H} {P : Program} {w : World} {base : Nat} {spare : Nat → Bool} {held : Bool}
/-- a struct's fields, each read off its own cells -/
theorem trod_cells {t : TypeId} {fs : Array Field} {fuel : Nat} {cs : List Value} {x : DataW H × List MemPlace} (hs : P.underlying t = some (.struct fs)) (h : DataW.trod enc P w base spare held fuel t cs = some x) :
    cs.length = P.cellsOf t ∧ ∀ (j : Nat) (f : Field), fs[j]? = some f → ∃ (y : DataW H × List MemPlace) (n : Nat), DataW.trod enc P w base spare held n f.type ((cs.drop f.offset).take (P.cellsOf f.type)) = some y := by
  obtain ⟨ys, n', hn', hy, hlen, hyl, hf⟩ := DataW.trod_struct hs h
  refine ⟨hlen, fun j f hj => ?_⟩
  have hjl : j < fs.size := (Array.getElem?_eq_some_iff.1 hj).1
  exact ⟨ys[j]'(by omega), n', (hf j f hj).trans (List.getElem?_eq_getElem (by omega))⟩
theorem drop_take_one {cs : List Value} {j : Nat} (h : j < cs.length) : (cs.drop j).take 1 = [cs[j]] := by
  rw [List.drop_eq_getElem_cons h]; rfl
end
theorem exists_row {α : Type} {n : Nat} {P : Nat → α → Prop} (h : ∀ i, i < n → ∃ x, P i x) : ∃ l : List α, l.length = n ∧ ∀ i x, l[i]? = some x → P i x := by
  induction n with
  | zero => exact ⟨[], rfl, fun i x hx => by simp at hx⟩
  | succ n ih =>
    obtain ⟨l, hl, hp⟩ := ih (fun i hi => h i (by omega))
    obtain ⟨x, hx⟩ := h n (by omega)
    refine ⟨l ++ [x], by simp [hl], fun i y hy => ?_⟩
    by_cases hi : i < n
    · rw [List.getElem?_append_left (by omega)] at hy
      exact hp i y hy
    · have : i = n := by
        have := (List.getElem?_eq_some_iff.1 hy).1
        simp at this
        omega
      subst this
      rw [List.getElem?_append_right (by omega), hl] at hy
      simp at hy
      subst hy
      exact hx
/-- the slice at A reads as the elements l, each of so many cells -/
structure Elems {α : Type} (w : World) (A : Option Addr) (cells : α → List Value) (sz : Nat) (l : List α) : Prop where
  len : l.length ≤ 9223372036854775807
  row : l = [] ∨ ∃ g o, A = some ⟨g, o, none⟩ ∧ g < w.heap.size ∧ ∀ i y, l[i]? = some y → ∀ j u, (cells y)[j]? = some u → w.cell? ⟨g, o + i * sz + j, none⟩ = some u
theorem Elems.new {α : Type} {w w' : World} {A : Option Addr} {cells : α → List Value} {sz : Nat} {l : List α} (h : Elems w A cells sz l) (m : Mod [] w w') : Elems w' A cells sz l := by
  refine ⟨h.len, ?_⟩
  rcases h.row with h0 | ⟨g, o, hA, hg, hc⟩
  · exact .inl h0
  · exact .inr ⟨g, o, hA, Nat.lt_of_lt_of_le hg m.size, fun i v hv j u hu => (m.cell (p := ⟨g, o + i * sz + j, none⟩) hg (by simp)).trans (hc i v hv j u hu)⟩
theorem Elems.at_ {α : Type} {w : World} {A : Option Addr} {cells : α → List Value} {sz : Nat} {l : List α} (h : Elems w A cells sz l) {i : Nat} {y : α} (hy : l[i]? = some y) :
    ∃ g o, A = some ⟨g, o, none⟩ ∧ g < w.heap.size ∧ ∀ j u, (cells y)[j]? = some u → w.cell? ⟨g, o + i * sz + j, none⟩ = some u := by
  rcases h.row with h0 | ⟨g, o, hA, hg, hc⟩
  · rw [h0] at hy; simp at hy
  · exact ⟨g, o, hA, hg, hc i y hy⟩
section
open Go.ChangeShapes Go.WideShapes Go.Deep
variable {H : Type} {enc : TypeId × Value → H} {P : Program} {w : World} {base : Nat} {held : Bool}
/-- the row of a slice that came in -/
theorem trod_elems {α : Type} {t e : TypeId} {sz : Nat} {cells : α → List Value} {ok : α → Prop} {fuel : Nat} {v : Value} {x : DataW H × List MemPlace} (ht : P.underlying t = some (.slice e)) (hC : P.cellsOf e = sz) (hsz : 0 < sz) (hcl : ∀ y, (cells y).length = sz)
    (hel : ∀ (fuel : Nat) (cs : List Value) (x : DataW H × List MemPlace), cs.length = sz → DataW.trod enc P w base (fun _ => true) held fuel e cs = some x → ∃ y : α, cs = cells y ∧ ok y)
    (h : DataW.trod enc P w base (fun _ => true) held fuel t [v] = some x) :
    ∃ (A : Option Addr) (c : Nat) (l : List α), v = .slice A l.length c ∧ Elems w A cells sz l ∧ ∀ y ∈ l, ok y := by
  rcases open_slice ht h with ⟨hcs, _⟩ | ⟨a, len, cap, m, n, D, Pl, hcs, _, hl, hm, hmm, _, hi⟩
  · simp only [List.cons.injEq, and_true] at hcs
    exact ⟨none, 0, [], hcs, ⟨by simp, .inl rfl⟩, by simp⟩
  · simp only [List.cons.injEq, and_true] at hcs
    simp only [if_true] at hmm
    subst hmm
    have hex : ∀ i, i < len → ∃ y : α, (∀ j u, (cells y)[j]? = some u → w.cell? (a.add (i * sz + j)) = some u) ∧ ok y := by
      intro i hil
      obtain ⟨cs', hc, htr⟩ := hi i (by omega)
      rw [hC] at hc
      obtain ⟨_, hcn, hat⟩ := World.cells?_some hc
      obtain ⟨y, rfl, hy⟩ := hel _ _ _ hcn htr
      refine ⟨y, fun j u hu => ?_, hy⟩
      have hj : j < sz := by have := (List.getElem?_eq_some_iff.1 hu).1; rw [hcl] at this; exact this
      rw [← Go.Deep.add_add, hat j hj, hu]
    obtain ⟨L, hL, hP⟩ := exists_row hex
    refine ⟨some a, _, L, by rw [hcs, hL], ⟨by simp only [maxLen] at hm; omega, ?_⟩, fun y hy => ?_⟩
    · rcases Nat.eq_zero_or_pos len with h0 | h0
      · exact .inl (List.eq_nil_of_length_eq_zero (by omega))
      · right
        obtain ⟨b, off, spot⟩ := a
        obtain ⟨y, hy⟩ : ∃ y, L[0]? = some y := ⟨_, List.getElem?_eq_getElem (by omega)⟩
        obtain ⟨u, hu⟩ : ∃ u, (cells y)[0]? = some u := ⟨_, List.getElem?_eq_getElem (by rw [hcl]; exact hsz)⟩
        have hc0 := (hP 0 y hy).1 0 u hu
        have hspot : spot = none := by simpa [Addr.add] using World.cell?_spot hc0
        subst hspot
        refine ⟨b, off, rfl, by have h9 := World.block_lt_of_cell? w _ hc0; rw [Addr.add_lit] at h9; exact h9, fun i z hz j u hu => ?_⟩
        have h1 := (hP i z hz).1 j u hu
        rw [Addr.add_lit, ← Nat.add_assoc] at h1
        exact h1
    · obtain ⟨i, hi2⟩ := List.mem_iff_getElem?.1 hy
      exact (hP i y hi2).2
theorem open_elems {α : Type} {t e : TypeId} {sz : Nat} {cells : α → List Value} {ok : α → Prop} {v : Value} {d : DataW H} {p : List MemPlace} {r : Reach} {b0 : Nat} (ht : P.underlying t = some (.slice e)) (hC : P.cellsOf e = sz) (hsz : 0 < sz) (hcl : ∀ y, (cells y).length = sz)
    (hel : ∀ (fuel : Nat) (cs : List Value) (x : DataW H × List MemPlace), cs.length = sz → DataW.trod enc P w base (fun _ => true) held fuel e cs = some x → ∃ y : α, cs = cells y ∧ ok y)
    (hv : Value.okWide P w r b0 t v) (h : DataW.Trod enc P w base (fun _ => true) held t v d p) :
    ∃ (A : Option Addr) (c : Nat) (l : List α), v = .slice A l.length c ∧ Elems w A cells sz l ∧ ∀ y ∈ l, ok y := by
  obtain ⟨a, len, cap, rfl⟩ := okWide_slice ht hv
  obtain ⟨fuel, hf⟩ := h
  exact trod_elems ht hC hsz hcl hel hf
end
end Go.Proofs.YtjdfemfobcjecaaGreat

/-
  the statements' arguments over streams, opened.
-/
namespace Go.Proofs.YtjdfemfobcjecaaGreat
open Go.RowKit
set_option linter.unusedVariables false
/-- a frame, and where its ranges lie -/
structure FA where
  f : Fr
  A : Option Addr
  c : Nat
def FA.cells (x : FA) : List Value := [.int .u64 (x.f.kind : Nat), .int .u64 (x.f.a : Nat), .int .u64 (x.f.b : Nat), .int .u64 (x.f.c : Nat), .bool x.f.fin, .string x.f.data, .string x.f.more, .slice x.A x.f.list.length x.c]
structure FA.OK (x : FA) : Prop where
  kind : x.f.kind ≤ 18446744073709551615
  a : x.f.a ≤ 18446744073709551615
  b : x.f.b ≤ 18446744073709551615
  c : x.f.c ≤ 18446744073709551615
  data : x.f.data.size ≤ 9223372036854775807
  more : x.f.more.size ≤ 9223372036854775807
  list : x.f.list.length ≤ 9223372036854775807
structure Lm.U (l : Lm) : Prop where
  data : l.data ≤ 18446744073709551615
  bl : l.bl ≤ 18446744073709551615
  br : l.br ≤ 18446744073709551615
  un : l.un ≤ 18446744073709551615
  bidis : l.bidis ≤ 18446744073709551615
  unis : l.unis ≤ 18446744073709551615
structure SAct where
  kind : Int
  n : Int
  id : Nat
  code : Nat
  text : ByteArray
  fin : Bool
  fr : FA
  lim : Lm
def SAct.cells (x : SAct) : List Value := [.int .i64 x.kind, .int .i64 x.n, .int .u64 (x.id : Nat), .int .u64 (x.code : Nat), .string x.text, .bool x.fin, .int .u64 (x.fr.f.kind : Nat), .int .u64 (x.fr.f.a : Nat), .int .u64 (x.fr.f.b : Nat), .int .u64 (x.fr.f.c : Nat), .bool x.fr.f.fin, .string x.fr.f.data, .string x.fr.f.more, .slice x.fr.A x.fr.f.list.length x.fr.c,
  .int .u64 (x.lim.data : Int), .int .u64 (x.lim.bl : Int), .int .u64 (x.lim.br : Int), .int .u64 (x.lim.un : Int), .int .u64 (x.lim.bidis : Int), .int .u64 (x.lim.unis : Int)]
structure SAct.OK (x : SAct) : Prop where
  k1 : -9223372036854775808 ≤ x.kind
  k2 : x.kind ≤ 9223372036854775807
  n1 : -9223372036854775808 ≤ x.n
  n2 : x.n ≤ 9223372036854775807
  id : x.id ≤ 18446744073709551615
  code : x.code ≤ 18446744073709551615
  text : x.text.size ≤ 9223372036854775807
  fr : x.fr.OK
  lim : x.lim.U
section
open Go.ChangeShapes Go.WideShapes Go.Deep
variable {H : Type} {enc : TypeId × Value → H} {w : World} {base : Nat} {held : Bool}
set_option maxRecDepth 100000 in
theorem trod_range (fuel : Nat) (cs : List Value) (x : DataW H × List MemPlace) (hlen : cs.length = 2) (h : DataW.trod enc Tryz.prog w base (fun _ => true) held fuel 92 cs = some x) : ∃ y : Nat × Nat, cs = [.int .u64 (y.1 : Nat), .int .u64 (y.2 : Nat)] ∧ True := by
  obtain ⟨hl, hf⟩ := trod_cells Tryz.underlying92 h
  rw [show Tryz.prog.cellsOf 92 = 2 by kernel_rfl] at hl
  obtain ⟨y0, n0, t0⟩ := hf 0 _ rfl
  obtain ⟨y1, n1, t1⟩ := hf 1 _ rfl
  have q0 : ((cs.drop 0).take (Tryz.prog.cellsOf 22)) = [cs[0]] := by rw [show Tryz.prog.cellsOf 22 = 1 by kernel_rfl]; exact drop_take_one (by omega)
  have t0 : DataW.trod enc Tryz.prog w base (fun _ => true) held n0 22 ((cs.drop 0).take (Tryz.prog.cellsOf 22)) = some y0 := t0
  rw [q0] at t0
  obtain ⟨x0, e0, _, w0⟩ := DataW.trod_int Tryz.underlying22 t0
  have b0 := bounds_u64 w0
  obtain ⟨u0, rfl⟩ := Int.eq_ofNat_of_zero_le b0.1
  have c0 : u0 ≤ 18446744073709551615 := by omega
  simp only [List.cons.injEq, and_true] at e0
  have q1 : ((cs.drop 1).take (Tryz.prog.cellsOf 22)) = [cs[1]] := by rw [show Tryz.prog.cellsOf 22 = 1 by kernel_rfl]; exact drop_take_one (by omega)
  have t1 : DataW.trod enc Tryz.prog w base (fun _ => true) held n1 22 ((cs.drop 1).take (Tryz.prog.cellsOf 22)) = some y1 := t1
  rw [q1] at t1
  obtain ⟨x1, e1, _, w1⟩ := DataW.trod_int Tryz.underlying22 t1
  have b1 := bounds_u64 w1
  obtain ⟨u1, rfl⟩ := Int.eq_ofNat_of_zero_le b1.1
  have c1 : u1 ≤ 18446744073709551615 := by omega
  simp only [List.cons.injEq, and_true] at e1
  refine ⟨(u0, u1), ?_, trivial⟩
  apply List.ext_getElem (by simp [hl])
  intro i h1 h2
  have : i = 0 ∨ i = 1 := by omega
  rcases this with rfl | rfl
  · exact e0
  · exact e1
set_option maxRecDepth 100000 in
set_option maxHeartbeats 4000000 in
theorem trod_frame (fuel : Nat) (cs : List Value) (x : DataW H × List MemPlace) (hlen : cs.length = 8) (h : DataW.trod enc Tryz.prog w base (fun _ => true) held fuel 31 cs = some x) : ∃ y : FA, cs = y.cells ∧ y.OK := by
  obtain ⟨hl, hf⟩ := trod_cells Tryz.underlying31 h
  rw [show Tryz.prog.cellsOf 31 = 8 by kernel_rfl] at hl
  obtain ⟨y0, n0, t0⟩ := hf 0 _ rfl
  obtain ⟨y1, n1, t1⟩ := hf 1 _ rfl
  obtain ⟨y2, n2, t2⟩ := hf 2 _ rfl
  obtain ⟨y3, n3, t3⟩ := hf 3 _ rfl
  obtain ⟨y4, n4, t4⟩ := hf 4 _ rfl
  obtain ⟨y5, n5, t5⟩ := hf 5 _ rfl
  obtain ⟨y6, n6, t6⟩ := hf 6 _ rfl
  obtain ⟨y7, n7, t7⟩ := hf 7 _ rfl
  have q0 : ((cs.drop 0).take (Tryz.prog.cellsOf 22)) = [cs[0]] := by rw [show Tryz.prog.cellsOf 22 = 1 by kernel_rfl]; exact drop_take_one (by omega)
  have t0 : DataW.trod enc Tryz.prog w base (fun _ => true) held n0 22 ((cs.drop 0).take (Tryz.prog.cellsOf 22)) = some y0 := t0
  rw [q0] at t0
  obtain ⟨x0, e0, _, w0⟩ := DataW.trod_int Tryz.underlying22 t0
  have b0 := bounds_u64 w0
  obtain ⟨u0, rfl⟩ := Int.eq_ofNat_of_zero_le b0.1
  have c0 : u0 ≤ 18446744073709551615 := by omega
  simp only [List.cons.injEq, and_true] at e0
  have q1 : ((cs.drop 1).take (Tryz.prog.cellsOf 22)) = [cs[1]] := by rw [show Tryz.prog.cellsOf 22 = 1 by kernel_rfl]; exact drop_take_one (by omega)
  have t1 : DataW.trod enc Tryz.prog w base (fun _ => true) held n1 22 ((cs.drop 1).take (Tryz.prog.cellsOf 22)) = some y1 := t1
  rw [q1] at t1
  obtain ⟨x1, e1, _, w1⟩ := DataW.trod_int Tryz.underlying22 t1
  have b1 := bounds_u64 w1
  obtain ⟨u1, rfl⟩ := Int.eq_ofNat_of_zero_le b1.1
  have c1 : u1 ≤ 18446744073709551615 := by omega
  simp only [List.cons.injEq, and_true] at e1
  have q2 : ((cs.drop 2).take (Tryz.prog.cellsOf 22)) = [cs[2]] := by rw [show Tryz.prog.cellsOf 22 = 1 by kernel_rfl]; exact drop_take_one (by omega)
  have t2 : DataW.trod enc Tryz.prog w base (fun _ => true) held n2 22 ((cs.drop 2).take (Tryz.prog.cellsOf 22)) = some y2 := t2
  rw [q2] at t2
  obtain ⟨x2, e2, _, w2⟩ := DataW.trod_int Tryz.underlying22 t2
  have b2 := bounds_u64 w2
  obtain ⟨u2, rfl⟩ := Int.eq_ofNat_of_zero_le b2.1
  have c2 : u2 ≤ 18446744073709551615 := by omega
  simp only [List.cons.injEq, and_true] at e2
  have q3 : ((cs.drop 3).take (Tryz.prog.cellsOf 22)) = [cs[3]] := by rw [show Tryz.prog.cellsOf 22 = 1 by kernel_rfl]; exact drop_take_one (by omega)
  have t3 : DataW.trod enc Tryz.prog w base (fun _ => true) held n3 22 ((cs.drop 3).take (Tryz.prog.cellsOf 22)) = some y3 := t3
  rw [q3] at t3
  obtain ⟨x3, e3, _, w3⟩ := DataW.trod_int Tryz.underlying22 t3
  have b3 := bounds_u64 w3
  obtain ⟨u3, rfl⟩ := Int.eq_ofNat_of_zero_le b3.1
  have c3 : u3 ≤ 18446744073709551615 := by omega
  simp only [List.cons.injEq, and_true] at e3
  have q4 : ((cs.drop 4).take (Tryz.prog.cellsOf 4)) = [cs[4]] := by rw [show Tryz.prog.cellsOf 4 = 1 by kernel_rfl]; exact drop_take_one (by omega)
  have t4 : DataW.trod enc Tryz.prog w base (fun _ => true) held n4 4 ((cs.drop 4).take (Tryz.prog.cellsOf 4)) = some y4 := t4
  rw [q4] at t4
  obtain ⟨u4, e4, _⟩ := DataW.trod_bool Tryz.underlying4 t4
  simp only [List.cons.injEq, and_true] at e4
  have q5 : ((cs.drop 5).take (Tryz.prog.cellsOf 9)) = [cs[5]] := by rw [show Tryz.prog.cellsOf 9 = 1 by kernel_rfl]; exact drop_take_one (by omega)
  have t5 : DataW.trod enc Tryz.prog w base (fun _ => true) held n5 9 ((cs.drop 5).take (Tryz.prog.cellsOf 9)) = some y5 := t5
  rw [q5] at t5
  obtain ⟨u5, e5, _, w5⟩ := DataW.trod_string Tryz.underlying9 t5
  simp only [List.cons.injEq, and_true] at e5
  have q6 : ((cs.drop 6).take (Tryz.prog.cellsOf 9)) = [cs[6]] := by rw [show Tryz.prog.cellsOf 9 = 1 by kernel_rfl]; exact drop_take_one (by omega)
  have t6 : DataW.trod enc Tryz.prog w base (fun _ => true) held n6 9 ((cs.drop 6).take (Tryz.prog.cellsOf 9)) = some y6 := t6
  rw [q6] at t6
  obtain ⟨u6, e6, _, w6⟩ := DataW.trod_string Tryz.underlying9 t6
  simp only [List.cons.injEq, and_true] at e6
  have q7 : ((cs.drop 7).take (Tryz.prog.cellsOf 29)) = [cs[7]] := by rw [show Tryz.prog.cellsOf 29 = 1 by kernel_rfl]; exact drop_take_one (by omega)
  have t7 : DataW.trod enc Tryz.prog w base (fun _ => true) held n7 29 ((cs.drop 7).take (Tryz.prog.cellsOf 29)) = some y7 := t7
  rw [q7] at t7
  obtain ⟨A7, c7, l7, e7, el7, _⟩ := trod_elems (sz := 2) (cells := fun y : Nat × Nat => [Value.int .u64 (y.1 : Nat), .int .u64 (y.2 : Nat)]) (ok := fun _ => True) Tryz.underlying29 (by kernel_rfl) (by omega) (fun _ => rfl) trod_range t7
  refine ⟨⟨⟨u0, u1, u2, u3, u4, u5, u6, l7⟩, A7, c7⟩, ?_, ⟨c0, c1, c2, c3, w5, w6, el7.len⟩⟩
  apply List.ext_getElem (by rw [hl]; rfl)
  intro i h1 h2
  have : i = 0 ∨ i = 1 ∨ i = 2 ∨ i = 3 ∨ i = 4 ∨ i = 5 ∨ i = 6 ∨ i = 7 := by omega
  rcases this with rfl | rfl | rfl | rfl | rfl | rfl | rfl | rfl
  · exact e0
  · exact e1
  · exact e2
  · exact e3
  · exact e4
  · exact e5
  · exact e6
  · exact e7
set_option maxRecDepth 100000 in
set_option maxHeartbeats 4000000 in
theorem trod_limits (fuel : Nat) (cs : List Value) (x : DataW H × List MemPlace) (hlen : cs.length = 6) (h : DataW.trod enc Tryz.prog w base (fun _ => true) held fuel 24 cs = some x) : ∃ y : Lm, cs = y.vals ∧ y.U := by
  obtain ⟨hl, hf⟩ := trod_cells Tryz.underlying24 h
  rw [show Tryz.prog.cellsOf 24 = 6 by kernel_rfl] at hl
  obtain ⟨y0, n0, t0⟩ := hf 0 _ rfl
  obtain ⟨y1, n1, t1⟩ := hf 1 _ rfl
  obtain ⟨y2, n2, t2⟩ := hf 2 _ rfl
  obtain ⟨y3, n3, t3⟩ := hf 3 _ rfl
  obtain ⟨y4, n4, t4⟩ := hf 4 _ rfl
  obtain ⟨y5, n5, t5⟩ := hf 5 _ rfl
  have q0 : ((cs.drop 0).take (Tryz.prog.cellsOf 22)) = [cs[0]] := by rw [show Tryz.prog.cellsOf 22 = 1 by kernel_rfl]; exact drop_take_one (by omega)
  have t0 : DataW.trod enc Tryz.prog w base (fun _ => true) held n0 22 ((cs.drop 0).take (Tryz.prog.cellsOf 22)) = some y0 := t0
  rw [q0] at t0
  obtain ⟨x0, e0, _, w0⟩ := DataW.trod_int Tryz.underlying22 t0
  have b0 := bounds_u64 w0
  obtain ⟨u0, rfl⟩ := Int.eq_ofNat_of_zero_le b0.1
  have c0 : u0 ≤ 18446744073709551615 := by omega
  simp only [List.cons.injEq, and_true] at e0
  have q1 : ((cs.drop 1).take (Tryz.prog.cellsOf 22)) = [cs[1]] := by rw [show Tryz.prog.cellsOf 22 = 1 by kernel_rfl]; exact drop_take_one (by omega)
  have t1 : DataW.trod enc Tryz.prog w base (fun _ => true) held n1 22 ((cs.drop 1).take (Tryz.prog.cellsOf 22)) = some y1 := t1
  rw [q1] at t1
  obtain ⟨x1, e1, _, w1⟩ := DataW.trod_int Tryz.underlying22 t1
  have b1 := bounds_u64 w1
  obtain ⟨u1, rfl⟩ := Int.eq_ofNat_of_zero_le b1.1
  have c1 : u1 ≤ 18446744073709551615 := by omega
  simp only [List.cons.injEq, and_true] at e1
  have q2 : ((cs.drop 2).take (Tryz.prog.cellsOf 22)) = [cs[2]] := by rw [show Tryz.prog.cellsOf 22 = 1 by kernel_rfl]; exact drop_take_one (by omega)
  have t2 : DataW.trod enc Tryz.prog w base (fun _ => true) held n2 22 ((cs.drop 2).take (Tryz.prog.cellsOf 22)) = some y2 := t2
  rw [q2] at t2
  obtain ⟨x2, e2, _, w2⟩ := DataW.trod_int Tryz.underlying22 t2
  have b2 := bounds_u64 w2
  obtain ⟨u2, rfl⟩ := Int.eq_ofNat_of_zero_le b2.1
  have c2 : u2 ≤ 18446744073709551615 := by omega
  simp only [List.cons.injEq, and_true] at e2
  have q3 : ((cs.drop 3).take (Tryz.prog.cellsOf 22)) = [cs[3]] := by rw [show Tryz.prog.cellsOf 22 = 1 by kernel_rfl]; exact drop_take_one (by omega)
  have t3 : DataW.trod enc Tryz.prog w base (fun _ => true) held n3 22 ((cs.drop 3).take (Tryz.prog.cellsOf 22)) = some y3 := t3
  rw [q3] at t3
  obtain ⟨x3, e3, _, w3⟩ := DataW.trod_int Tryz.underlying22 t3
  have b3 := bounds_u64 w3
  obtain ⟨u3, rfl⟩ := Int.eq_ofNat_of_zero_le b3.1
  have c3 : u3 ≤ 18446744073709551615 := by omega
  simp only [List.cons.injEq, and_true] at e3
  have q4 : ((cs.drop 4).take (Tryz.prog.cellsOf 22)) = [cs[4]] := by rw [show Tryz.prog.cellsOf 22 = 1 by kernel_rfl]; exact drop_take_one (by omega)
  have t4 : DataW.trod enc Tryz.prog w base (fun _ => true) held n4 22 ((cs.drop 4).take (Tryz.prog.cellsOf 22)) = some y4 := t4
  rw [q4] at t4
  obtain ⟨x4, e4, _, w4⟩ := DataW.trod_int Tryz.underlying22 t4
  have b4 := bounds_u64 w4
  obtain ⟨u4, rfl⟩ := Int.eq_ofNat_of_zero_le b4.1
  have c4 : u4 ≤ 18446744073709551615 := by omega
  simp only [List.cons.injEq, and_true] at e4
  have q5 : ((cs.drop 5).take (Tryz.prog.cellsOf 22)) = [cs[5]] := by rw [show Tryz.prog.cellsOf 22 = 1 by kernel_rfl]; exact drop_take_one (by omega)
  have t5 : DataW.trod enc Tryz.prog w base (fun _ => true) held n5 22 ((cs.drop 5).take (Tryz.prog.cellsOf 22)) = some y5 := t5
  rw [q5] at t5
  obtain ⟨x5, e5, _, w5⟩ := DataW.trod_int Tryz.underlying22 t5
  have b5 := bounds_u64 w5
  obtain ⟨u5, rfl⟩ := Int.eq_ofNat_of_zero_le b5.1
  have c5 : u5 ≤ 18446744073709551615 := by omega
  simp only [List.cons.injEq, and_true] at e5
  refine ⟨⟨u0, u1, u2, u3, u4, u5⟩, ?_, ⟨c0, c1, c2, c3, c4, c5⟩⟩
  apply List.ext_getElem (by rw [hl]; rfl)
  intro i h1 h2
  have : i = 0 ∨ i = 1 ∨ i = 2 ∨ i = 3 ∨ i = 4 ∨ i = 5 := by omega
  rcases this with rfl | rfl | rfl | rfl | rfl | rfl
  · exact e0
  · exact e1
  · exact e2
  · exact e3
  · exact e4
  · exact e5
set_option maxRecDepth 100000 in
set_option maxHeartbeats 4000000 in
theorem open_limits {v : Value} {d : DataW H} {p : List MemPlace} {r : Reach} {b0 : Nat} (hv : Value.okWide Tryz.prog w r b0 24 v) (h : DataW.Trod enc Tryz.prog w base (fun _ => true) held 24 v d p) :
    ∃ l : Lm, v = l.val ∧ l.U := by
  obtain ⟨cs, rfl, hsz⟩ := okWide_struct Tryz.underlying24 hv
  obtain ⟨fuel, hf⟩ := h
  obtain ⟨l, hl, hu⟩ := trod_limits _ _ _ ((trod_cells Tryz.underlying24 hf).1.trans (by kernel_rfl)) hf
  refine ⟨l, ?_, hu⟩
  have e : (Value.agg cs).cells.toList = cs.toList := rfl
  rw [e] at hl
  unfold Lm.val
  congr 1
  exact Array.toList_inj.1 hl
set_option maxRecDepth 100000 in
set_option maxHeartbeats 4000000 in
theorem open_flags {v : Value} {d : DataW H} {p : List MemPlace} {r : Reach} {b0 : Nat} (hv : Value.okWide Tryz.prog w r b0 38 v) (h : DataW.Trod enc Tryz.prog w base (fun _ => true) held 38 v d p) :
    ∃ (A : Option Addr) (c : Nat) (l : List Bool), v = .slice A l.length c ∧ Elems w A (fun b => [Value.bool b]) 1 l := by
  obtain ⟨A, c, l, hv, he, _⟩ := open_elems (sz := 1) (cells := fun b : Bool => [Value.bool b]) (ok := fun _ => True) Tryz.underlying38 (by kernel_rfl) (by omega) (fun _ => rfl) (fun fuel cs x hl hx => by
    match cs, hl, hx with
    | [v], _, hx =>
      obtain ⟨b, e, _⟩ := DataW.trod_bool Tryz.underlying4 hx
      exact ⟨b, e, trivial⟩) hv h
  exact ⟨A, c, l, hv, he⟩
set_option maxRecDepth 100000 in
set_option maxHeartbeats 4000000 in
theorem open_framesA {v : Value} {d : DataW H} {p : List MemPlace} {r : Reach} {b0 : Nat} (hv : Value.okWide Tryz.prog w r b0 25 v) (h : DataW.Trod enc Tryz.prog w base (fun _ => true) held 25 v d p) :
    ∃ (A : Option Addr) (c : Nat) (l : List FA), v = .slice A l.length c ∧ Elems w A FA.cells 8 l ∧ ∀ y ∈ l, y.OK :=
  open_elems (sz := 8) Tryz.underlying25 (by kernel_rfl) (by omega) (fun _ => rfl) trod_frame hv h
set_option maxRecDepth 100000 in
set_option maxHeartbeats 4000000 in
theorem trod_act (fuel : Nat) (cs : List Value) (x : DataW H × List MemPlace) (hlen : cs.length = 20) (h : DataW.trod enc Tryz.prog w base (fun _ => true) held fuel 52 cs = some x) : ∃ y : SAct, cs = y.cells ∧ y.OK := by
  obtain ⟨hl, hf⟩ := trod_cells Tryz.underlying52 h
  rw [show Tryz.prog.cellsOf 52 = 20 by kernel_rfl] at hl
  obtain ⟨y0, n0, t0⟩ := hf 0 _ rfl
  obtain ⟨y1, n1, t1⟩ := hf 1 _ rfl
  obtain ⟨y2, n2, t2⟩ := hf 2 _ rfl
  obtain ⟨y3, n3, t3⟩ := hf 3 _ rfl
  obtain ⟨y4, n4, t4⟩ := hf 4 _ rfl
  obtain ⟨y5, n5, t5⟩ := hf 5 _ rfl
  obtain ⟨y6, n6, t6⟩ := hf 6 _ rfl
  obtain ⟨y7, n7, t7⟩ := hf 7 _ rfl
  have q0 : ((cs.drop 0).take (Tryz.prog.cellsOf 3)) = [cs[0]] := by rw [show Tryz.prog.cellsOf 3 = 1 by kernel_rfl]; exact drop_take_one (by omega)
  have t0 : DataW.trod enc Tryz.prog w base (fun _ => true) held n0 3 ((cs.drop 0).take (Tryz.prog.cellsOf 3)) = some y0 := t0
  rw [q0] at t0
  obtain ⟨u0, e0, _, w0⟩ := DataW.trod_int Tryz.underlying3 t0
  have b0 := bounds_i64 w0
  simp only [List.cons.injEq, and_true] at e0
  have q1 : ((cs.drop 1).take (Tryz.prog.cellsOf 3)) = [cs[1]] := by rw [show Tryz.prog.cellsOf 3 = 1 by kernel_rfl]; exact drop_take_one (by omega)
  have t1 : DataW.trod enc Tryz.prog w base (fun _ => true) held n1 3 ((cs.drop 1).take (Tryz.prog.cellsOf 3)) = some y1 := t1
  rw [q1] at t1
  obtain ⟨u1, e1, _, w1⟩ := DataW.trod_int Tryz.underlying3 t1
  have b1 := bounds_i64 w1
  simp only [List.cons.injEq, and_true] at e1
  have q2 : ((cs.drop 2).take (Tryz.prog.cellsOf 22)) = [cs[2]] := by rw [show Tryz.prog.cellsOf 22 = 1 by kernel_rfl]; exact drop_take_one (by omega)
  have t2 : DataW.trod enc Tryz.prog w base (fun _ => true) held n2 22 ((cs.drop 2).take (Tryz.prog.cellsOf 22)) = some y2 := t2
  rw [q2] at t2
  obtain ⟨x2, e2, _, w2⟩ := DataW.trod_int Tryz.underlying22 t2
  have b2 := bounds_u64 w2
  obtain ⟨u2, rfl⟩ := Int.eq_ofNat_of_zero_le b2.1
  have c2 : u2 ≤ 18446744073709551615 := by omega
  simp only [List.cons.injEq, and_true] at e2
  have q3 : ((cs.drop 3).take (Tryz.prog.cellsOf 22)) = [cs[3]] := by rw [show Tryz.prog.cellsOf 22 = 1 by kernel_rfl]; exact drop_take_one (by omega)
  have t3 : DataW.trod enc Tryz.prog w base (fun _ => true) held n3 22 ((cs.drop 3).take (Tryz.prog.cellsOf 22)) = some y3 := t3
  rw [q3] at t3
  obtain ⟨x3, e3, _, w3⟩ := DataW.trod_int Tryz.underlying22 t3
  have b3 := bounds_u64 w3
  obtain ⟨u3, rfl⟩ := Int.eq_ofNat_of_zero_le b3.1
  have c3 : u3 ≤ 18446744073709551615 := by omega
  simp only [List.cons.injEq, and_true] at e3
  have q4 : ((cs.drop 4).take (Tryz.prog.cellsOf 9)) = [cs[4]] := by rw [show Tryz.prog.cellsOf 9 = 1 by kernel_rfl]; exact drop_take_one (by omega)
  have t4 : DataW.trod enc Tryz.prog w base (fun _ => true) held n4 9 ((cs.drop 4).take (Tryz.prog.cellsOf 9)) = some y4 := t4
  rw [q4] at t4
  obtain ⟨u4, e4, _, w4⟩ := DataW.trod_string Tryz.underlying9 t4
  simp only [List.cons.injEq, and_true] at e4
  have q5 : ((cs.drop 5).take (Tryz.prog.cellsOf 4)) = [cs[5]] := by rw [show Tryz.prog.cellsOf 4 = 1 by kernel_rfl]; exact drop_take_one (by omega)
  have t5 : DataW.trod enc Tryz.prog w base (fun _ => true) held n5 4 ((cs.drop 5).take (Tryz.prog.cellsOf 4)) = some y5 := t5
  rw [q5] at t5
  obtain ⟨u5, e5, _⟩ := DataW.trod_bool Tryz.underlying4 t5
  simp only [List.cons.injEq, and_true] at e5
  have t6 : DataW.trod enc Tryz.prog w base (fun _ => true) held n6 31 ((cs.drop 6).take (Tryz.prog.cellsOf 31)) = some y6 := t6
  have t7 : DataW.trod enc Tryz.prog w base (fun _ => true) held n7 24 ((cs.drop 14).take (Tryz.prog.cellsOf 24)) = some y7 := t7
  obtain ⟨fr, e6, ok6⟩ := trod_frame _ _ _ (by rw [show Tryz.prog.cellsOf 31 = 8 by kernel_rfl]; simp; omega) t6
  obtain ⟨lm, e7, ok7⟩ := trod_limits _ _ _ (by rw [show Tryz.prog.cellsOf 24 = 6 by kernel_rfl]; simp; omega) t7
  rw [show Tryz.prog.cellsOf 31 = 8 by kernel_rfl] at e6
  rw [show Tryz.prog.cellsOf 24 = 6 by kernel_rfl] at e7
  refine ⟨⟨u0, u1, u2, u3, u4, u5, fr, lm⟩, ?_, ⟨b0.1, b0.2, b1.1, b1.2, c2, c3, w4, ok6, ok7⟩⟩
  have h6 : cs = cs.take 6 ++ ((cs.drop 6).take 8 ++ (cs.drop 14).take 6) := by
    rw [show cs.drop 14 = (cs.drop 6).drop 8 by rw [List.drop_drop], List.take_of_length_le (l := (cs.drop 6).drop 8) (by simp; omega), List.take_append_drop, List.take_append_drop]
  have h0 : cs.take 6 = [.int .i64 u0, .int .i64 u1, .int .u64 (u2 : Nat), .int .u64 (u3 : Nat), .string u4, .bool u5] := by
    apply List.ext_getElem (by simp; omega)
    intro i h1 h2
    rw [List.getElem_take]
    have : i = 0 ∨ i = 1 ∨ i = 2 ∨ i = 3 ∨ i = 4 ∨ i = 5 := by simp at h2; omega
    rcases this with rfl | rfl | rfl | rfl | rfl | rfl
    · exact e0
    · exact e1
    · exact e2
    · exact e3
    · exact e4
    · exact e5
  rw [h6, h0, e6, e7]
  rfl
set_option maxRecDepth 100000 in
set_option maxHeartbeats 4000000 in
theorem open_sacts {v : Value} {d : DataW H} {p : List MemPlace} {r : Reach} {b0 : Nat} (hv : Value.okWide Tryz.prog w r b0 49 v) (h : DataW.Trod enc Tryz.prog w base (fun _ => true) held 49 v d p) :
    ∃ (A : Option Addr) (c : Nat) (l : List SAct), v = .slice A l.length c ∧ Elems w A SAct.cells 20 l ∧ ∀ y ∈ l, y.OK :=
  open_elems (sz := 20) Tryz.underlying49 (by kernel_rfl) (by omega) (fun _ => rfl) trod_act hv h
end
end Go.Proofs.YtjdfemfobcjecaaGreat

/-
  The statement StreamsOpen, walked; no condition.
-/
namespace Go.Proofs.YtjdfemfobcjecaaGreat
open Go.RowKit Go.Sort
set_option linter.unusedVariables false
set_option linter.unusedSimpArgs false
theorem Own.aside {K : Nat} {W w w' : World} {sb g : Nat} {s : Ss} (h : Own K W w sb s) (m : Mod [g] w w') (hg : g ∉ s.foot sb) (hW : W.heap.size ≤ g) : Own K W w' sb s :=
  ⟨h.box.mod m (fun k hk hm => by simp at hm; exact hg (hm ▸ hk)), h.mod.trans m (fun k hk => by simp at hk; exact .inr (hk ▸ hW)), h.new, h.ok⟩
/-- a set of which streams were opened alone -/
structure Opened (s : Ss) (base : Nat) (other : Lm) (n0 n1 k : Nat) : Prop where
  side : s.side = base
  oth : s.other = other.capped
  o0 : s.op base = n0
  o1 : s.op (base + 2) = n1
  len : s.l.length = n0 + n1
  few : n0 + n1 ≤ k
theorem Opened.kind {s : Ss} {base n0 n1 k : Nat} {other : Lm} (h : Opened s base other n0 n1 k) (b : Bool) : kindOf s b = if b then base + 2 else base := by unfold kindOf; rw [h.side]
theorem Opened.cnt {s : Ss} {base n0 n1 k : Nat} {other : Lm} (h : Opened s base other n0 n1 k) (hb : base ≤ 1) : s.other.count base = min other.bidis mcnt ∧ s.other.count (base + 2) = min other.unis mcnt := by
  rw [h.oth]
  unfold Lm.count Lm.capped
  rw [if_pos (by omega), if_neg (by omega)]
  exact ⟨rfl, rfl⟩
theorem Opened.more {s : Ss} {base n0 n1 k : Nat} {other : Lm} (h : Opened s base other n0 n1 k) (hb : base ≤ 1) (x : St) :
    (x.id % 4 = base → Opened (s.made x) base other (n0 + 1) n1 (k + 1)) ∧ (x.id % 4 = base + 2 → Opened (s.made x) base other n0 (n1 + 1) (k + 1)) := by
  have hf := h.few
  have hl : (s.made x).l.length = n0 + n1 + 1 := by show (s.l ++ [x]).length = _; rw [List.length_append, h.len]; rfl
  refine ⟨fun e => ⟨h.side, h.oth, ?_, ?_, by rw [hl]; omega, by omega⟩, fun e => ⟨h.side, h.oth, ?_, ?_, by rw [hl]; omega, by omega⟩⟩
  · rw [Ss.made_op _ _ _ (by omega), if_pos e, h.o0]
  · rw [Ss.made_op _ _ _ (by omega), if_neg (by omega), h.o1]
  · rw [Ss.made_op _ _ _ (by omega), if_neg (by omega), h.o0]
  · rw [Ss.made_op _ _ _ (by omega), if_pos e, h.o1]
set_option maxRecDepth 100000 in
set_option maxHeartbeats 16000000 in
theorem walkStreamsOpen (side : Int) (hs1 : -9223372036854775808 ≤ side) (hs2 : side ≤ 9223372036854775807) (other : Lm) (A : Option Addr) (c : Nat) (l : List Bool) (W : World) (hu : other.U) (hE : Elems W A (fun b => [Value.bool b]) 1 l) :
    Calls Tryz.prog 4 #[.int .i64 side, other.val, .slice A l.length c] W fun e w' => e = .returned (.bool true) ∧ Below W.heap.size W w' := by
  have HE := hide hE
  clear hE
  have hM0 : Mod [] W (W.alloc (.cells #[.int .u64 (other.data : Int), .int .u64 (other.bl : Int), .int .u64 (other.br : Int), .int .u64 (other.un : Int), .int .u64 (other.bidis : Int), .int .u64 (other.unis : Int)] 24)) := (Mod.refl [] W).alloc _
  have hBx0 := Blk.new W 24 #[.int .u64 (other.data : Int), .int .u64 (other.bl : Int), .int .u64 (other.br : Int), .int .u64 (other.un : Int), .int .u64 (other.bidis : Int), .int .u64 (other.unis : Int)]
  have HM0 := hide hM0
  have HBx0 := hide hBx0
  have HAw := hide (stawake_any (W.alloc (.cells #[.int .u64 (other.data : Int), .int .u64 (other.bl : Int), .int .u64 (other.br : Int), .int .u64 (other.un : Int), .int .u64 (other.bidis : Int), .int .u64 (other.unis : Int)] 24)))
  clear hM0 hBx0
  obtain ⟨base, hbase⟩ : ∃ base, (if side = 1 then 1 else 0 : Nat) = base := ⟨_, rfl⟩
  have hb1 : base ≤ 1 := by rw [← hbase]; split <;> omega
  have HBase := hide hbase
  clear hbase
  unfold Lm.val
  go_enter Tryz.func4, Tryz.ntmps4
  go_wp2_with fail
  refine HAw.out.mono ?_
  rintro e w1 ⟨rfl, hm1⟩
  have HM1 := hide (HM0.out.trans hm1 (by simp))
  have hbx1 := hm1.blk HBx0.out (by simp)
  have HBx1 := hide hbx1
  have hw1 : W.heap.size < w1.heap.size := hbx1.lt
  have u0 : w1.cell? ⟨W.heap.size, 0, none⟩ = some (.int .u64 (other.data : Int)) := hbx1.cell 0
  have u1 : w1.cell? ⟨W.heap.size, 1, none⟩ = some (.int .u64 (other.bl : Int)) := hbx1.cell 1
  have u2 : w1.cell? ⟨W.heap.size, 2, none⟩ = some (.int .u64 (other.br : Int)) := hbx1.cell 2
  have u3 : w1.cell? ⟨W.heap.size, 3, none⟩ = some (.int .u64 (other.un : Int)) := hbx1.cell 3
  have u4 : w1.cell? ⟨W.heap.size, 4, none⟩ = some (.int .u64 (other.bidis : Int)) := hbx1.cell 4
  have u5 : w1.cell? ⟨W.heap.size, 5, none⟩ = some (.int .u64 (other.unis : Int)) := hbx1.cell 5
  have hnw := own_new w1 side ⟨0, 0, 0, 0, 0, 0⟩ other
  unfold Lm.val at hnw
  simp only [Int.natCast_zero] at hnw
  have HNw := hide hnw
  clear hm1 hbx1 hnw
  go_wp2_with fail
  refine HNw.out.mono ?_
  rintro e w2 ⟨sb, mb, rfl, hO⟩
  have hOp0 : Opened (Ss.fresh mb side ⟨0, 0, 0, 0, 0, 0⟩ other) base other 0 0 0 := ⟨HBase.out, rfl, by rcases Nat.le_one_iff_eq_zero_or_eq_one.1 hb1 with h | h <;> rw [h] <;> rfl, by rcases Nat.le_one_iff_eq_zero_or_eq_one.1 hb1 with h | h <;> rw [h] <;> rfl, rfl, Nat.le_refl _⟩
  obtain ⟨s0, hs0⟩ : ∃ s0, Ss.fresh mb side ⟨0, 0, 0, 0, 0, 0⟩ other = s0 := ⟨_, rfl⟩
  rw [hs0] at hO hOp0
  have HO0 := hide hO
  have HOp0 := hide hOp0
  have HBx2 := hide (hO.mod.blk HBx1.out (by simp))
  clear hO hOp0 hs0 u0 u1 u2 u3 u4 u5
  by_cases hs1 : side = 1
  · subst hs1
    obtain rfl : base = 1 := by rw [← HBase.out]; exact rfl
    go_wp2_with fail
    have HN2 : Hid (Blk (w2.alloc (.cells #[.int .u64 0, .int .u64 0] 39)) w2.heap.size 39 #[.int .u64 0, .int .u64 0]) := hide (Blk.new w2 _ _)
    have HO1 := hide (HO0.out.next ((Mod.refl [] w2).alloc (.cells #[.int .u64 0, .int .u64 0] 39)))
    have HF1 := hide (beside_new HO0.out.box)
    obtain ⟨nb, hnb⟩ : ∃ nb, w2.heap.size = nb := ⟨_, rfl⟩
    have hnbW : w1.heap.size ≤ nb := by rw [← hnb]; exact HO0.out.mod.size
    obtain ⟨w3, hw3⟩ : ∃ w3, w2.alloc (.cells #[.int .u64 0, .int .u64 0] 39) = w3 := ⟨_, rfl⟩
    rw [hw3, hnb] at HN2
    rw [hw3] at HO1
    rw [hnb] at HF1
    rw [hw3, hnb]
    clear hw3 hnb
    go_loopw [10] (fun i wr => ∃ (k : Nat) (s : Ss) (n0 n1 : Nat), i = .int .i64 (k : Int) ∧ k ≤ l.length ∧ k ≤ 60 ∧ Opened s 1 other n0 n1 k ∧ Own 0 w1 wr sb s ∧ Blk wr nb 39 #[.int .u64 (n0 : Int), .int .u64 (n1 : Int)] ∧ nb ∉ s.foot sb) (fun i _ => l.length - (intOf i).toNat)
    case atStart => exact ⟨0, s0, 0, 0, rfl, Nat.zero_le _, by omega, HOp0.out, HO1.out, HN2.out, HF1.out⟩
    case round =>
      obtain ⟨k, s, n0, n1, rfl, hk, hk60, hop, hO, hnbk, hfar⟩ := hrel
      have HO := hide hO
      have HNb := hide hnbk
      have HFar := hide hfar
      have hll := HE.out.len
      have hbx := hO.mod.blk HBx1.out (by simp)
      by_cases hlt : k < l.length
      · by_cases hl6 : k < 60
        · obtain ⟨x, hx⟩ : ∃ x, l[k]? = some x := ⟨_, List.getElem?_eq_getElem hlt⟩
          obtain ⟨g, o, rfl, hg, hcl⟩ := HE.out.at_ hx
          have hcell0 := hcl 0 _ rfl
          rw [Nat.mul_one, Nat.add_zero] at hcell0
          have hcell : wr.cell? ⟨g, o + k, none⟩ = some (.bool x) := ((HM1.out.trans hO.mod (by simp)).cell (p := ⟨g, o + k, none⟩) hg (by simp)).trans hcell0
          have d60 : decide ((k : Int) < 60) = true := decide_eq_true (by omega)
          clear hcl hcell0 hg hx hnbk hfar
          cases hxb : x with
          | false =>
            subst hxb
            have hkd : kindOf s false = 1 := hop.kind false
            have hcn : s.other.count (1) = min other.bidis mcnt := (hop.cnt hb1).1
            have hon : s.op (1) = n0 := hop.o0
            have hOp := own_open hO false
            rw [hkd] at hOp
            have HOp := hide hOp
            have HCn := hide hcn
            have HOn := hide hon
            have HHop := hide hop
            have hfw := hop.few
            have hln := hop.len
            have HLn := hide hln
            have v4 : wr.cell? ⟨W.heap.size, 4, none⟩ = some (.int .u64 (other.bidis : Int)) := hbx.cell 4
            have v5 : wr.cell? ⟨W.heap.size, 5, none⟩ = some (.int .u64 (other.unis : Int)) := hbx.cell 5
            clear hO hop hOp hkd hcn hon hbx hln
            go_wp2_with fail
            go_quiet (fail)
            have HOx := hide (HO.out.next ((Mod.refl [] wr).drewN nq))
            have HNbx : Hid (Blk (wr.drewN nq) nb 39 #[.int .u64 (n0 : Int), .int .u64 (n1 : Int)]) := hide HNb.out
            have hcx : (wr.drewN nq).cell? ⟨g, o + k, none⟩ = some (.bool false) := hcell
            have v5x : (wr.drewN nq).cell? ⟨W.heap.size, 5, none⟩ = some (.int .u64 (other.unis : Int)) := v5
            obtain ⟨wx, hwx⟩ : ∃ wx, wr.drewN nq = wx := ⟨_, rfl⟩
            rw [hwx] at HOx HNbx hcx v5x ⊢
            clear hwx hcell v4 v5
            clear v5x
            have hOp := own_open HOx.out false
            rw [HHop.out.kind false] at hOp
            simp only [if_true, Bool.false_eq_true, if_false, Nat.reduceAdd] at hOp
            have HOp2 := hide hOp
            clear hOp
            go_wp2_with fail
            refine HOp2.out.mono ?_
            rintro e w2 ⟨nn, cc, s', rfl, ho, hst, hO2⟩
            have hnb2 := beside_keep HNbx.out HFar.out hst
            have HNb2 := hide hnb2
            have HO2 := hide hO2
            have z0 : w2.cell? ⟨nb, 0, none⟩ = some (.int .u64 (n0 : Int)) := hnb2.1.cell 0
            have z1 : w2.cell? ⟨nb, 1, none⟩ = some (.int .u64 (n1 : Int)) := hnb2.1.cell 1
            have zf : w2.frozen? ⟨nb, 0, none⟩ = false := hnb2.1.frozen 0
            have zl := hnb2.1.lt
            rcases ho with ⟨h1, rfl, rfl, rfl⟩ | ⟨_, h2, _⟩ | ⟨h1, h2, rfl, rfl, xb, ib, im, ob, rfl⟩
            · have hlt : ¬ (n0 < other.bidis) := by have e1 := HCn.out; have e2 := HOn.out; unfold mcnt at e1; omega
              clear hst hO2 hnb2 h1
              go_wp2_with fail
              go_roundw
              case rel => exact ⟨k + 1, s', n0, n1, by go_num, by omega, by omega, ⟨HHop.out.side, HHop.out.oth, HHop.out.o0, HHop.out.o1, HHop.out.len, by have := HHop.out.few; omega⟩, HO2.out, HNb2.out.1, HNb2.out.2⟩
              case measure => simp [intOf]; omega
            · exact absurd h2 (by rw [HLn.out]; omega)
            · have hlt : n0 < other.bidis := by have e1 := HCn.out; have e2 := HOn.out; unfold mcnt at e1; omega
              have hop1 := HOn.out
              have hpi : (HHop.out.more hb1 (s.newSt (s.op (1) * 4 + (1)) xb ib im ob)).1 (by show (s.op (1) * 4 + (1)) % 4 = 1; omega) = (HHop.out.more hb1 (s.newSt (s.op (1) * 4 + (1)) xb ib im ob)).1 (by show (s.op (1) * 4 + (1)) % 4 = 1; omega) := rfl
              have HH2 := hide ((HHop.out.more hb1 (s.newSt (s.op (1) * 4 + (1)) xb ib im ob)).1 (by show (s.op (1) * 4 + (1)) % 4 = 1; omega))
              rw [hop1] at HH2 HO2 HNb2 ⊢
              have hsm : Mod [nb] w2 (w2.setCell ⟨nb, 0, none⟩ (.int .u64 ((n0 : Int) + 1))) := (Mod.refl [nb] w2).setCell (p := ⟨nb, 0, none⟩) (.inl (by simp)) _
              have HO3 := hide (HO2.out.aside hsm HNb2.out.2 hnbW)
              have HNb3 := hide (HNb2.out.1.set_ 0 (.int .u64 ((n0 : Int) + 1)))
              have e4 : IntKind.u64.wrap ((n0 : Int) + 1) = (n0 : Int) + 1 := IntWalk.u64_in _ (by omega)
              have hne0 : ((n0 : Int) * 4 + 1 != 4 * (n0 : Int) + 1) = false := by rw [bne_eq_false_iff_eq]; omega
              clear hst hO2 hnb2 h1 h2 hpi hop1 hsm
              go_wp2_with fail
              go_roundw
              case rel =>
                refine ⟨k + 1, _, n0 + 1, n1, by go_num, by omega, by omega, HH2.out, HO3.out, ?_, HNb2.out.2⟩
                have hb3 := HNb3.out
                rw [show (n0 : Int) + 1 = ((n0 + 1 : Nat) : Int) by omega] at hb3 ⊢
                exact hb3
              case measure => simp [intOf]; omega
          | true =>
            subst hxb
            have hkd : kindOf s true = 3 := hop.kind true
            have hcn : s.other.count (3) = min other.unis mcnt := (hop.cnt hb1).2
            have hon : s.op (3) = n1 := hop.o1
            have hOp := own_open hO true
            rw [hkd] at hOp
            have HOp := hide hOp
            have HCn := hide hcn
            have HOn := hide hon
            have HHop := hide hop
            have hfw := hop.few
            have hln := hop.len
            have HLn := hide hln
            have v4 : wr.cell? ⟨W.heap.size, 4, none⟩ = some (.int .u64 (other.bidis : Int)) := hbx.cell 4
            have v5 : wr.cell? ⟨W.heap.size, 5, none⟩ = some (.int .u64 (other.unis : Int)) := hbx.cell 5
            clear hO hop hOp hkd hcn hon hbx hln
            go_wp2_with fail
            go_quiet (fail)
            have HOx := hide (HO.out.next ((Mod.refl [] wr).drewN nq))
            have HNbx : Hid (Blk (wr.drewN nq) nb 39 #[.int .u64 (n0 : Int), .int .u64 (n1 : Int)]) := hide HNb.out
            have hcx : (wr.drewN nq).cell? ⟨g, o + k, none⟩ = some (.bool true) := hcell
            have v5x : (wr.drewN nq).cell? ⟨W.heap.size, 5, none⟩ = some (.int .u64 (other.unis : Int)) := v5
            obtain ⟨wx, hwx⟩ : ∃ wx, wr.drewN nq = wx := ⟨_, rfl⟩
            rw [hwx] at HOx HNbx hcx v5x ⊢
            clear hwx hcell v4 v5
            go_wp2_with fail
            go_quiet (fail)
            have HOy := hide (HOx.out.next ((Mod.refl [] wx).drewN nq))
            have HNby : Hid (Blk (wx.drewN nq) nb 39 #[.int .u64 (n0 : Int), .int .u64 (n1 : Int)]) := hide HNbx.out
            have hcy : (wx.drewN nq).cell? ⟨g, o + k, none⟩ = some (.bool true) := hcx
            clear HOx HNbx hcx v5x
            obtain ⟨wy, hwy⟩ : ∃ wy, wx.drewN nq = wy := ⟨_, rfl⟩
            rw [hwy] at HOy HNby hcy ⊢
            clear hwy
            have HOx := hide HOy.out
            have HNbx := hide HNby.out
            have hcx := hcy
            clear HOy HNby hcy
            have hOp := own_open HOx.out true
            rw [HHop.out.kind true] at hOp
            simp only [if_true, Bool.false_eq_true, if_false, Nat.reduceAdd] at hOp
            have HOp2 := hide hOp
            clear hOp
            go_wp2_with fail
            refine HOp2.out.mono ?_
            rintro e w2 ⟨nn, cc, s', rfl, ho, hst, hO2⟩
            have hnb2 := beside_keep HNbx.out HFar.out hst
            have HNb2 := hide hnb2
            have HO2 := hide hO2
            have z0 : w2.cell? ⟨nb, 0, none⟩ = some (.int .u64 (n0 : Int)) := hnb2.1.cell 0
            have z1 : w2.cell? ⟨nb, 1, none⟩ = some (.int .u64 (n1 : Int)) := hnb2.1.cell 1
            have zf : w2.frozen? ⟨nb, 1, none⟩ = false := hnb2.1.frozen 1
            have zl := hnb2.1.lt
            rcases ho with ⟨h1, rfl, rfl, rfl⟩ | ⟨_, h2, _⟩ | ⟨h1, h2, rfl, rfl, xb, ib, im, ob, rfl⟩
            · have hlt : ¬ (n1 < other.unis) := by have e1 := HCn.out; have e2 := HOn.out; unfold mcnt at e1; omega
              clear hst hO2 hnb2 h1
              go_wp2_with fail
              go_roundw
              case rel => exact ⟨k + 1, s', n0, n1, by go_num, by omega, by omega, ⟨HHop.out.side, HHop.out.oth, HHop.out.o0, HHop.out.o1, HHop.out.len, by have := HHop.out.few; omega⟩, HO2.out, HNb2.out.1, HNb2.out.2⟩
              case measure => simp [intOf]; omega
            · exact absurd h2 (by rw [HLn.out]; omega)
            · have hlt : n1 < other.unis := by have e1 := HCn.out; have e2 := HOn.out; unfold mcnt at e1; omega
              have hop1 := HOn.out
              have hpi : (HHop.out.more hb1 (s.newSt (s.op (3) * 4 + (3)) xb ib im ob)).2 (by show (s.op (3) * 4 + (3)) % 4 = 3; omega) = (HHop.out.more hb1 (s.newSt (s.op (3) * 4 + (3)) xb ib im ob)).2 (by show (s.op (3) * 4 + (3)) % 4 = 3; omega) := rfl
              have HH2 := hide ((HHop.out.more hb1 (s.newSt (s.op (3) * 4 + (3)) xb ib im ob)).2 (by show (s.op (3) * 4 + (3)) % 4 = 3; omega))
              rw [hop1] at HH2 HO2 HNb2 ⊢
              have hsm : Mod [nb] w2 (w2.setCell ⟨nb, 1, none⟩ (.int .u64 ((n1 : Int) + 1))) := (Mod.refl [nb] w2).setCell (p := ⟨nb, 1, none⟩) (.inl (by simp)) _
              have HO3 := hide (HO2.out.aside hsm HNb2.out.2 hnbW)
              have HNb3 := hide (HNb2.out.1.set_ 1 (.int .u64 ((n1 : Int) + 1)))
              have e4 : IntKind.u64.wrap ((n1 : Int) + 1) = (n1 : Int) + 1 := IntWalk.u64_in _ (by omega)
              have hne0 : ((n1 : Int) * 4 + 3 != 4 * (n1 : Int) + 3) = false := by rw [bne_eq_false_iff_eq]; omega
              have hne1 : ((n1 : Int) * 4 + 3 != 4 * (n1 : Int) + 2 + 1) = false := by rw [bne_eq_false_iff_eq]; omega
              clear hst hO2 hnb2 h1 h2 hpi hop1 hsm
              go_wp2_with fail
              go_roundw
              case rel =>
                refine ⟨k + 1, _, n0, n1 + 1, by go_num, by omega, by omega, HH2.out, HO3.out, ?_, HNb2.out.2⟩
                have hb3 := HNb3.out
                rw [show (n1 : Int) + 1 = ((n1 + 1 : Nat) : Int) by omega] at hb3 ⊢
                exact hb3
              case measure => simp [intOf]; omega
        · obtain rfl : k = 60 := by omega
          have d60 : decide (((60 : Nat) : Int) < 60) = false := rfl
          have hnb3 := HNb.out
          have z0 : wr.cell? ⟨nb, 0, none⟩ = some (.int .u64 (n0 : Int)) := hnb3.cell 0
          have z1 : wr.cell? ⟨nb, 1, none⟩ = some (.int .u64 (n1 : Int)) := hnb3.cell 1
          have zl := hnb3.lt
          have HHop := hide hop
          have hfw := hop.few
          have hIds := fun W' (m : Mod [] wr W') => own_ids (HO.out.next m)
          have HIds := hide hIds
          have q9 : IntKind.u64.wrap ((n0 : Int) + (n1 : Int)) = (n0 : Int) + (n1 : Int) := IntWalk.u64_in _ (by omega)
          clear hO hop hnbk hfar hbx hIds hnb3
          go_wp2_with fail
          refine wp_region_held_drew (S := fun wq => wq.cell? ⟨nb, 0, none⟩ = some (.int .u64 (n0 : Int)) ∧ wq.cell? ⟨nb, 1, none⟩ = some (.int .u64 (n1 : Int))) (by kernel_rfl) ⟨z0, z1⟩ (fun _ => ?_)
          refine take_dst (i := 0) (v := ?_) 90 rfl rfl (by kernel_rfl) (by kernel_rfl) (by kernel_rfl) (fun _ _ _ h => h) (Or.inl ⟨by rfl, ?_⟩) ⟨z0, z1⟩ ?_
          rotate_left
          · intro wq hSw
            have y0 := hSw.1
            have y1 := hSw.2
            go_simp
            first | done | (with_reducible rfl)
          simp only [Act.put, List.setIfInBounds_toArray, List.set_cons_zero, List.set_cons_succ]
          refine take_dst (i := 4) (v := ?_) 94 rfl rfl (by kernel_rfl) (by kernel_rfl) (by kernel_rfl) (fun _ _ _ h => h) (Or.inl ⟨by rfl, ?_⟩) ⟨z0, z1⟩ ?_
          rotate_left
          · intro wq hSw
            have y0 := hSw.1
            have y1 := hSw.2
            go_simp
            first | done | (with_reducible rfl)
          simp only [Act.put, List.setIfInBounds_toArray, List.set_cons_zero, List.set_cons_succ]
          refine take_dst (i := 5) (v := ?_) 95 rfl rfl (by kernel_rfl) (by kernel_rfl) (by kernel_rfl) (fun _ _ _ h => h) (Or.inl ⟨by rfl, ?_⟩) ⟨z0, z1⟩ ?_
          rotate_left
          · intro wq hSw
            have y0 := hSw.1
            have y1 := hSw.2
            go_simp
            first | done | (with_reducible rfl)
          simp only [Act.put, List.setIfInBounds_toArray, List.set_cons_zero, List.set_cons_succ]
          refine take_dst (i := 6) (v := ?_) 96 rfl rfl (by kernel_rfl) (by kernel_rfl) (by kernel_rfl) (fun _ _ _ h => h) (Or.inl ⟨by rfl, ?_⟩) ⟨z0, z1⟩ ?_
          rotate_left
          · intro wq hSw
            have y0 := hSw.1
            have y1 := hSw.2
            go_simp
            first | done | (with_reducible rfl)
          simp only [Act.put, List.setIfInBounds_toArray, List.set_cons_zero, List.set_cons_succ]
          refine take_dst (i := 7) (v := ?_) 97 rfl rfl (by kernel_rfl) (by kernel_rfl) (by kernel_rfl) (fun _ _ _ h => h) (Or.inl ⟨by rfl, ?_⟩) ⟨z0, z1⟩ ?_
          rotate_left
          · intro wq hSw
            have y0 := hSw.1
            have y1 := hSw.2
            go_simp
            first | done | (with_reducible rfl)
          simp only [Act.put, List.setIfInBounds_toArray, List.set_cons_zero, List.set_cons_succ]
          refine take_dst (i := 8) (v := ?_) 98 rfl rfl (by kernel_rfl) (by kernel_rfl) (by kernel_rfl) (fun _ _ _ h => h) (Or.inl ⟨by rfl, ?_⟩) ⟨z0, z1⟩ ?_
          rotate_left
          · intro wq hSw
            have y0 := hSw.1
            have y1 := hSw.2
            go_simp
            first | done | (with_reducible rfl)
          simp only [Act.put, List.setIfInBounds_toArray, List.set_cons_zero, List.set_cons_succ]
          refine wpAnyH_ready (rs := [1]) (by kernel_rfl) (by simp) ?_
          refine AllReadyH.cons rfl (fun K hK => ?_) AllReadyH.nil
          go_simp
          refine (HIds.out _ (Mod.refl [] wr).drew).mono ?_
          rintro e w9 ⟨v9, ss9, rfl, hu9, hr9, hm9, hO9⟩
          obtain ⟨A9, cap9, rfl, _, _, _, _⟩ := urow_form hr9
          rw [hu9.2.1, HHop.out.len]
          have x0 : w9.cell? ⟨nb, 0, none⟩ = some (.int .u64 (n0 : Int)) := (hm9.cell (p := ⟨nb, 0, none⟩) zl (by simp)).trans z0
          have x1 : w9.cell? ⟨nb, 1, none⟩ = some (.int .u64 (n1 : Int)) := (hm9.cell (p := ⟨nb, 1, none⟩) zl (by simp)).trans z1
          have HO9 := hide hO9
          clear hu9 hr9 hm9 hO9
          refine hK.out _ _ ⟨x0, x1⟩ (fun _ => ?_)
          clear hK K
          try simp only [Act.put, List.setIfInBounds_toArray, List.set_cons_zero, List.set_cons_succ]
          refine take_dst (i := 2) (v := ?_) 92 rfl rfl (by kernel_rfl) (by kernel_rfl) (by kernel_rfl) (fun _ _ _ h => h) (Or.inl ⟨by rfl, ?_⟩) ⟨x0, x1⟩ ?_
          rotate_left
          · intro wq hSw
            have y0 := hSw.1
            have y1 := hSw.2
            go_simp
            first | done | (with_reducible rfl)
          simp only [Act.put, List.setIfInBounds_toArray, List.set_cons_zero, List.set_cons_succ]
          refine take_dst (i := 3) (v := ?_) 93 rfl rfl (by kernel_rfl) (by kernel_rfl) (by kernel_rfl) (fun _ _ _ h => h) (Or.inl ⟨by rfl, ?_⟩) ⟨x0, x1⟩ ?_
          rotate_left
          · intro wq hSw
            have y0 := hSw.1
            have y1 := hSw.2
            go_simp
            first | done | (with_reducible rfl)
          simp only [Act.put, List.setIfInBounds_toArray, List.set_cons_zero, List.set_cons_succ]
          refine take_dst (i := 9) (v := ?_) 99 rfl rfl (by kernel_rfl) (by kernel_rfl) (by kernel_rfl) (fun _ _ _ h => h) (Or.inl ⟨by rfl, ?_⟩) ⟨x0, x1⟩ ?_
          rotate_left
          · intro wq hSw
            have y0 := hSw.1
            have y1 := hSw.2
            go_simp
            first | done | (with_reducible rfl)
          simp only [Act.put, List.setIfInBounds_toArray, List.set_cons_zero, List.set_cons_succ]
          refine take_dst (i := 10) (v := ?_) 6 rfl rfl (by kernel_rfl) (by kernel_rfl) (by kernel_rfl) (fun _ _ _ h => h) (Or.inl ⟨by rfl, ?_⟩) ⟨x0, x1⟩ ?_
          rotate_left
          · intro wq hSw
            have y0 := hSw.1
            have y1 := hSw.2
            go_simp
            first | done | (with_reducible rfl)
          simp only [Act.put, List.setIfInBounds_toArray, List.set_cons_zero, List.set_cons_succ]
          refine wpAnyH_done (by kernel_rfl) ?_ _
          go_wp2_with fail
          go_ret
          exact ⟨rfl, (HM1.out.trans HO9.out.mod (by simp)).below (Nat.le_refl _) (by simp)⟩
      · have hkl : k = l.length := by omega
        have hlt2 : ¬ k < l.length := hlt
        have hnb3 := HNb.out
        have z0 : wr.cell? ⟨nb, 0, none⟩ = some (.int .u64 (n0 : Int)) := hnb3.cell 0
        have z1 : wr.cell? ⟨nb, 1, none⟩ = some (.int .u64 (n1 : Int)) := hnb3.cell 1
        have zl := hnb3.lt
        have HHop := hide hop
        have hfw := hop.few
        have hIds := fun W' (m : Mod [] wr W') => own_ids (HO.out.next m)
        have HIds := hide hIds
        have q9 : IntKind.u64.wrap ((n0 : Int) + (n1 : Int)) = (n0 : Int) + (n1 : Int) := IntWalk.u64_in _ (by omega)
        clear hO hop hnbk hfar hbx hIds hnb3
        go_wp2_with fail
        refine wp_region_held_drew (S := fun wq => wq.cell? ⟨nb, 0, none⟩ = some (.int .u64 (n0 : Int)) ∧ wq.cell? ⟨nb, 1, none⟩ = some (.int .u64 (n1 : Int))) (by kernel_rfl) ⟨z0, z1⟩ (fun _ => ?_)
        refine take_dst (i := 0) (v := ?_) 90 rfl rfl (by kernel_rfl) (by kernel_rfl) (by kernel_rfl) (fun _ _ _ h => h) (Or.inl ⟨by rfl, ?_⟩) ⟨z0, z1⟩ ?_
        rotate_left
        · intro wq hSw
          have y0 := hSw.1
          have y1 := hSw.2
          go_simp
          first | done | (with_reducible rfl)
        simp only [Act.put, List.setIfInBounds_toArray, List.set_cons_zero, List.set_cons_succ]
        refine take_dst (i := 4) (v := ?_) 94 rfl rfl (by kernel_rfl) (by kernel_rfl) (by kernel_rfl) (fun _ _ _ h => h) (Or.inl ⟨by rfl, ?_⟩) ⟨z0, z1⟩ ?_
        rotate_left
        · intro wq hSw
          have y0 := hSw.1
          have y1 := hSw.2
          go_simp
          first | done | (with_reducible rfl)
        simp only [Act.put, List.setIfInBounds_toArray, List.set_cons_zero, List.set_cons_succ]
        refine take_dst (i := 5) (v := ?_) 95 rfl rfl (by kernel_rfl) (by kernel_rfl) (by kernel_rfl) (fun _ _ _ h => h) (Or.inl ⟨by rfl, ?_⟩) ⟨z0, z1⟩ ?_
        rotate_left
        · intro wq hSw
          have y0 := hSw.1
          have y1 := hSw.2
          go_simp
          first | done | (with_reducible rfl)
        simp only [Act.put, List.setIfInBounds_toArray, List.set_cons_zero, List.set_cons_succ]
        refine take_dst (i := 6) (v := ?_) 96 rfl rfl (by kernel_rfl) (by kernel_rfl) (by kernel_rfl) (fun _ _ _ h => h) (Or.inl ⟨by rfl, ?_⟩) ⟨z0, z1⟩ ?_
        rotate_left
        · intro wq hSw
          have y0 := hSw.1
          have y1 := hSw.2
          go_simp
          first | done | (with_reducible rfl)
        simp only [Act.put, List.setIfInBounds_toArray, List.set_cons_zero, List.set_cons_succ]
        refine take_dst (i := 7) (v := ?_) 97 rfl rfl (by kernel_rfl) (by kernel_rfl) (by kernel_rfl) (fun _ _ _ h => h) (Or.inl ⟨by rfl, ?_⟩) ⟨z0, z1⟩ ?_
        rotate_left
        · intro wq hSw
          have y0 := hSw.1
          have y1 := hSw.2
          go_simp
          first | done | (with_reducible rfl)
        simp only [Act.put, List.setIfInBounds_toArray, List.set_cons_zero, List.set_cons_succ]
        refine take_dst (i := 8) (v := ?_) 98 rfl rfl (by kernel_rfl) (by kernel_rfl) (by kernel_rfl) (fun _ _ _ h => h) (Or.inl ⟨by rfl, ?_⟩) ⟨z0, z1⟩ ?_
        rotate_left
        · intro wq hSw
          have y0 := hSw.1
          have y1 := hSw.2
          go_simp
          first | done | (with_reducible rfl)
        simp only [Act.put, List.setIfInBounds_toArray, List.set_cons_zero, List.set_cons_succ]
        refine wpAnyH_ready (rs := [1]) (by kernel_rfl) (by simp) ?_
        refine AllReadyH.cons rfl (fun K hK => ?_) AllReadyH.nil
        go_simp
        refine (HIds.out _ (Mod.refl [] wr).drew).mono ?_
        rintro e w9 ⟨v9, ss9, rfl, hu9, hr9, hm9, hO9⟩
        obtain ⟨A9, cap9, rfl, _, _, _, _⟩ := urow_form hr9
        rw [hu9.2.1, HHop.out.len]
        have x0 : w9.cell? ⟨nb, 0, none⟩ = some (.int .u64 (n0 : Int)) := (hm9.cell (p := ⟨nb, 0, none⟩) zl (by simp)).trans z0
        have x1 : w9.cell? ⟨nb, 1, none⟩ = some (.int .u64 (n1 : Int)) := (hm9.cell (p := ⟨nb, 1, none⟩) zl (by simp)).trans z1
        have HO9 := hide hO9
        clear hu9 hr9 hm9 hO9
        refine hK.out _ _ ⟨x0, x1⟩ (fun _ => ?_)
        clear hK K
        try simp only [Act.put, List.setIfInBounds_toArray, List.set_cons_zero, List.set_cons_succ]
        refine take_dst (i := 2) (v := ?_) 92 rfl rfl (by kernel_rfl) (by kernel_rfl) (by kernel_rfl) (fun _ _ _ h => h) (Or.inl ⟨by rfl, ?_⟩) ⟨x0, x1⟩ ?_
        rotate_left
        · intro wq hSw
          have y0 := hSw.1
          have y1 := hSw.2
          go_simp
          first | done | (with_reducible rfl)
        simp only [Act.put, List.setIfInBounds_toArray, List.set_cons_zero, List.set_cons_succ]
        refine take_dst (i := 3) (v := ?_) 93 rfl rfl (by kernel_rfl) (by kernel_rfl) (by kernel_rfl) (fun _ _ _ h => h) (Or.inl ⟨by rfl, ?_⟩) ⟨x0, x1⟩ ?_
        rotate_left
        · intro wq hSw
          have y0 := hSw.1
          have y1 := hSw.2
          go_simp
          first | done | (with_reducible rfl)
        simp only [Act.put, List.setIfInBounds_toArray, List.set_cons_zero, List.set_cons_succ]
        refine take_dst (i := 9) (v := ?_) 99 rfl rfl (by kernel_rfl) (by kernel_rfl) (by kernel_rfl) (fun _ _ _ h => h) (Or.inl ⟨by rfl, ?_⟩) ⟨x0, x1⟩ ?_
        rotate_left
        · intro wq hSw
          have y0 := hSw.1
          have y1 := hSw.2
          go_simp
          first | done | (with_reducible rfl)
        simp only [Act.put, List.setIfInBounds_toArray, List.set_cons_zero, List.set_cons_succ]
        refine take_dst (i := 10) (v := ?_) 6 rfl rfl (by kernel_rfl) (by kernel_rfl) (by kernel_rfl) (fun _ _ _ h => h) (Or.inl ⟨by rfl, ?_⟩) ⟨x0, x1⟩ ?_
        rotate_left
        · intro wq hSw
          have y0 := hSw.1
          have y1 := hSw.2
          go_simp
          first | done | (with_reducible rfl)
        simp only [Act.put, List.setIfInBounds_toArray, List.set_cons_zero, List.set_cons_succ]
        refine wpAnyH_done (by kernel_rfl) ?_ _
        go_wp2_with fail
        go_ret
        exact ⟨rfl, (HM1.out.trans HO9.out.mod (by simp)).below (Nat.le_refl _) (by simp)⟩

  · have hsb : (side == 1) = false := by rw [beq_eq_false_iff_ne]; exact hs1
    obtain rfl : base = 0 := by rw [← HBase.out]; exact if_neg hs1
    go_wp2_with fail
    have HN2 : Hid (Blk (w2.alloc (.cells #[.int .u64 0, .int .u64 0] 39)) w2.heap.size 39 #[.int .u64 0, .int .u64 0]) := hide (Blk.new w2 _ _)
    have HO1 := hide (HO0.out.next ((Mod.refl [] w2).alloc (.cells #[.int .u64 0, .int .u64 0] 39)))
    have HF1 := hide (beside_new HO0.out.box)
    obtain ⟨nb, hnb⟩ : ∃ nb, w2.heap.size = nb := ⟨_, rfl⟩
    have hnbW : w1.heap.size ≤ nb := by rw [← hnb]; exact HO0.out.mod.size
    obtain ⟨w3, hw3⟩ : ∃ w3, w2.alloc (.cells #[.int .u64 0, .int .u64 0] 39) = w3 := ⟨_, rfl⟩
    rw [hw3, hnb] at HN2
    rw [hw3] at HO1
    rw [hnb] at HF1
    rw [hw3, hnb]
    clear hw3 hnb
    go_loopw [10] (fun i wr => ∃ (k : Nat) (s : Ss) (n0 n1 : Nat), i = .int .i64 (k : Int) ∧ k ≤ l.length ∧ k ≤ 60 ∧ Opened s 0 other n0 n1 k ∧ Own 0 w1 wr sb s ∧ Blk wr nb 39 #[.int .u64 (n0 : Int), .int .u64 (n1 : Int)] ∧ nb ∉ s.foot sb) (fun i _ => l.length - (intOf i).toNat)
    case atStart => exact ⟨0, s0, 0, 0, rfl, Nat.zero_le _, by omega, HOp0.out, HO1.out, HN2.out, HF1.out⟩
    case round =>
      obtain ⟨k, s, n0, n1, rfl, hk, hk60, hop, hO, hnbk, hfar⟩ := hrel
      have HO := hide hO
      have HNb := hide hnbk
      have HFar := hide hfar
      have hll := HE.out.len
      have hbx := hO.mod.blk HBx1.out (by simp)
      by_cases hlt : k < l.length
      · by_cases hl6 : k < 60
        · obtain ⟨x, hx⟩ : ∃ x, l[k]? = some x := ⟨_, List.getElem?_eq_getElem hlt⟩
          obtain ⟨g, o, rfl, hg, hcl⟩ := HE.out.at_ hx
          have hcell0 := hcl 0 _ rfl
          rw [Nat.mul_one, Nat.add_zero] at hcell0
          have hcell : wr.cell? ⟨g, o + k, none⟩ = some (.bool x) := ((HM1.out.trans hO.mod (by simp)).cell (p := ⟨g, o + k, none⟩) hg (by simp)).trans hcell0
          have d60 : decide ((k : Int) < 60) = true := decide_eq_true (by omega)
          clear hcl hcell0 hg hx hnbk hfar
          cases hxb : x with
          | false =>
            subst hxb
            have hkd : kindOf s false = 0 := hop.kind false
            have hcn : s.other.count (0) = min other.bidis mcnt := (hop.cnt hb1).1
            have hon : s.op (0) = n0 := hop.o0
            have hOp := own_open hO false
            rw [hkd] at hOp
            have HOp := hide hOp
            have HCn := hide hcn
            have HOn := hide hon
            have HHop := hide hop
            have hfw := hop.few
            have hln := hop.len
            have HLn := hide hln
            have v4 : wr.cell? ⟨W.heap.size, 4, none⟩ = some (.int .u64 (other.bidis : Int)) := hbx.cell 4
            have v5 : wr.cell? ⟨W.heap.size, 5, none⟩ = some (.int .u64 (other.unis : Int)) := hbx.cell 5
            clear hO hop hOp hkd hcn hon hbx hln
            go_wp2_with fail
            go_quiet (fail)
            have HOx := hide (HO.out.next ((Mod.refl [] wr).drewN nq))
            have HNbx : Hid (Blk (wr.drewN nq) nb 39 #[.int .u64 (n0 : Int), .int .u64 (n1 : Int)]) := hide HNb.out
            have hcx : (wr.drewN nq).cell? ⟨g, o + k, none⟩ = some (.bool false) := hcell
            have v5x : (wr.drewN nq).cell? ⟨W.heap.size, 5, none⟩ = some (.int .u64 (other.unis : Int)) := v5
            obtain ⟨wx, hwx⟩ : ∃ wx, wr.drewN nq = wx := ⟨_, rfl⟩
            rw [hwx] at HOx HNbx hcx v5x ⊢
            clear hwx hcell v4 v5
            clear v5x
            have hOp := own_open HOx.out false
            rw [HHop.out.kind false] at hOp
            simp only [if_true, Bool.false_eq_true, if_false, Nat.reduceAdd] at hOp
            have HOp2 := hide hOp
            clear hOp
            go_wp2_with fail
            refine HOp2.out.mono ?_
            rintro e w2 ⟨nn, cc, s', rfl, ho, hst, hO2⟩
            have hnb2 := beside_keep HNbx.out HFar.out hst
            have HNb2 := hide hnb2
            have HO2 := hide hO2
            have z0 : w2.cell? ⟨nb, 0, none⟩ = some (.int .u64 (n0 : Int)) := hnb2.1.cell 0
            have z1 : w2.cell? ⟨nb, 1, none⟩ = some (.int .u64 (n1 : Int)) := hnb2.1.cell 1
            have zf : w2.frozen? ⟨nb, 0, none⟩ = false := hnb2.1.frozen 0
            have zl := hnb2.1.lt
            rcases ho with ⟨h1, rfl, rfl, rfl⟩ | ⟨_, h2, _⟩ | ⟨h1, h2, rfl, rfl, xb, ib, im, ob, rfl⟩
            · have hlt : ¬ (n0 < other.bidis) := by have e1 := HCn.out; have e2 := HOn.out; unfold mcnt at e1; omega
              clear hst hO2 hnb2 h1
              go_wp2_with fail
              go_roundw
              case rel => exact ⟨k + 1, s', n0, n1, by go_num, by omega, by omega, ⟨HHop.out.side, HHop.out.oth, HHop.out.o0, HHop.out.o1, HHop.out.len, by have := HHop.out.few; omega⟩, HO2.out, HNb2.out.1, HNb2.out.2⟩
              case measure => simp [intOf]; omega
            · exact absurd h2 (by rw [HLn.out]; omega)
            · have hlt : n0 < other.bidis := by have e1 := HCn.out; have e2 := HOn.out; unfold mcnt at e1; omega
              have hop1 := HOn.out
              have hpi : (HHop.out.more hb1 (s.newSt (s.op (0) * 4 + (0)) xb ib im ob)).1 (by show (s.op (0) * 4 + (0)) % 4 = 0; omega) = (HHop.out.more hb1 (s.newSt (s.op (0) * 4 + (0)) xb ib im ob)).1 (by show (s.op (0) * 4 + (0)) % 4 = 0; omega) := rfl
              have HH2 := hide ((HHop.out.more hb1 (s.newSt (s.op (0) * 4 + (0)) xb ib im ob)).1 (by show (s.op (0) * 4 + (0)) % 4 = 0; omega))
              rw [hop1] at HH2 HO2 HNb2 ⊢
              have hsm : Mod [nb] w2 (w2.setCell ⟨nb, 0, none⟩ (.int .u64 ((n0 : Int) + 1))) := (Mod.refl [nb] w2).setCell (p := ⟨nb, 0, none⟩) (.inl (by simp)) _
              have HO3 := hide (HO2.out.aside hsm HNb2.out.2 hnbW)
              have HNb3 := hide (HNb2.out.1.set_ 0 (.int .u64 ((n0 : Int) + 1)))
              have e4 : IntKind.u64.wrap ((n0 : Int) + 1) = (n0 : Int) + 1 := IntWalk.u64_in _ (by omega)
              have hne0 : ((n0 : Int) * 4 + 0 != 4 * (n0 : Int) + 0) = false := by rw [bne_eq_false_iff_eq]; omega
              have hne1 : ((n0 : Int) * 4 + 0 != 4 * (n0 : Int)) = false := by rw [bne_eq_false_iff_eq]; omega
              have hne2 : ((n0 : Int) * 4 != 4 * (n0 : Int) + 0) = false := by rw [bne_eq_false_iff_eq]; omega
              have hne3 : ((n0 : Int) * 4 != 4 * (n0 : Int)) = false := by rw [bne_eq_false_iff_eq]; omega
              clear hst hO2 hnb2 h1 h2 hpi hop1 hsm
              go_wp2_with fail
              go_roundw
              case rel =>
                refine ⟨k + 1, _, n0 + 1, n1, by go_num, by omega, by omega, HH2.out, HO3.out, ?_, HNb2.out.2⟩
                have hb3 := HNb3.out
                rw [show (n0 : Int) + 1 = ((n0 + 1 : Nat) : Int) by omega] at hb3 ⊢
                exact hb3
              case measure => simp [intOf]; omega
          | true =>
            subst hxb
            have hkd : kindOf s true = 2 := hop.kind true
            have hcn : s.other.count (2) = min other.unis mcnt := (hop.cnt hb1).2
            have hon : s.op (2) = n1 := hop.o1
            have hOp := own_open hO true
            rw [hkd] at hOp
            have HOp := hide hOp
            have HCn := hide hcn
            have HOn := hide hon
            have HHop := hide hop
            have hfw := hop.few
            have hln := hop.len
            have HLn := hide hln
            have v4 : wr.cell? ⟨W.heap.size, 4, none⟩ = some (.int .u64 (other.bidis : Int)) := hbx.cell 4
            have v5 : wr.cell? ⟨W.heap.size, 5, none⟩ = some (.int .u64 (other.unis : Int)) := hbx.cell 5
            clear hO hop hOp hkd hcn hon hbx hln
            go_wp2_with fail
            go_quiet (fail)
            have HOx := hide (HO.out.next ((Mod.refl [] wr).drewN nq))
            have HNbx : Hid (Blk (wr.drewN nq) nb 39 #[.int .u64 (n0 : Int), .int .u64 (n1 : Int)]) := hide HNb.out
            have hcx : (wr.drewN nq).cell? ⟨g, o + k, none⟩ = some (.bool true) := hcell
            have v5x : (wr.drewN nq).cell? ⟨W.heap.size, 5, none⟩ = some (.int .u64 (other.unis : Int)) := v5
            obtain ⟨wx, hwx⟩ : ∃ wx, wr.drewN nq = wx := ⟨_, rfl⟩
            rw [hwx] at HOx HNbx hcx v5x ⊢
            clear hwx hcell v4 v5
            go_wp2_with fail
            go_quiet (fail)
            have HOy := hide (HOx.out.next ((Mod.refl [] wx).drewN nq))
            have HNby : Hid (Blk (wx.drewN nq) nb 39 #[.int .u64 (n0 : Int), .int .u64 (n1 : Int)]) := hide HNbx.out
            have hcy : (wx.drewN nq).cell? ⟨g, o + k, none⟩ = some (.bool true) := hcx
            clear HOx HNbx hcx v5x
            obtain ⟨wy, hwy⟩ : ∃ wy, wx.drewN nq = wy := ⟨_, rfl⟩
            rw [hwy] at HOy HNby hcy ⊢
            clear hwy
            have HOx := hide HOy.out
            have HNbx := hide HNby.out
            have hcx := hcy
            clear HOy HNby hcy
            have hOp := own_open HOx.out true
            rw [HHop.out.kind true] at hOp
            simp only [if_true, Bool.false_eq_true, if_false, Nat.reduceAdd] at hOp
            have HOp2 := hide hOp
            clear hOp
            go_wp2_with fail
            refine HOp2.out.mono ?_
            rintro e w2 ⟨nn, cc, s', rfl, ho, hst, hO2⟩
            have hnb2 := beside_keep HNbx.out HFar.out hst
            have HNb2 := hide hnb2
            have HO2 := hide hO2
            have z0 : w2.cell? ⟨nb, 0, none⟩ = some (.int .u64 (n0 : Int)) := hnb2.1.cell 0
            have z1 : w2.cell? ⟨nb, 1, none⟩ = some (.int .u64 (n1 : Int)) := hnb2.1.cell 1
            have zf : w2.frozen? ⟨nb, 1, none⟩ = false := hnb2.1.frozen 1
            have zl := hnb2.1.lt
            rcases ho with ⟨h1, rfl, rfl, rfl⟩ | ⟨_, h2, _⟩ | ⟨h1, h2, rfl, rfl, xb, ib, im, ob, rfl⟩
            · have hlt : ¬ (n1 < other.unis) := by have e1 := HCn.out; have e2 := HOn.out; unfold mcnt at e1; omega
              clear hst hO2 hnb2 h1
              go_wp2_with fail
              go_roundw
              case rel => exact ⟨k + 1, s', n0, n1, by go_num, by omega, by omega, ⟨HHop.out.side, HHop.out.oth, HHop.out.o0, HHop.out.o1, HHop.out.len, by have := HHop.out.few; omega⟩, HO2.out, HNb2.out.1, HNb2.out.2⟩
              case measure => simp [intOf]; omega
            · exact absurd h2 (by rw [HLn.out]; omega)
            · have hlt : n1 < other.unis := by have e1 := HCn.out; have e2 := HOn.out; unfold mcnt at e1; omega
              have hop1 := HOn.out
              have hpi : (HHop.out.more hb1 (s.newSt (s.op (2) * 4 + (2)) xb ib im ob)).2 (by show (s.op (2) * 4 + (2)) % 4 = 2; omega) = (HHop.out.more hb1 (s.newSt (s.op (2) * 4 + (2)) xb ib im ob)).2 (by show (s.op (2) * 4 + (2)) % 4 = 2; omega) := rfl
              have HH2 := hide ((HHop.out.more hb1 (s.newSt (s.op (2) * 4 + (2)) xb ib im ob)).2 (by show (s.op (2) * 4 + (2)) % 4 = 2; omega))
              rw [hop1] at HH2 HO2 HNb2 ⊢
              have hsm : Mod [nb] w2 (w2.setCell ⟨nb, 1, none⟩ (.int .u64 ((n1 : Int) + 1))) := (Mod.refl [nb] w2).setCell (p := ⟨nb, 1, none⟩) (.inl (by simp)) _
              have HO3 := hide (HO2.out.aside hsm HNb2.out.2 hnbW)
              have HNb3 := hide (HNb2.out.1.set_ 1 (.int .u64 ((n1 : Int) + 1)))
              have e4 : IntKind.u64.wrap ((n1 : Int) + 1) = (n1 : Int) + 1 := IntWalk.u64_in _ (by omega)
              have hne0 : ((n1 : Int) * 4 + 2 != 4 * (n1 : Int) + 2) = false := by rw [bne_eq_false_iff_eq]; omega
              have hne1 : ((n1 : Int) * 4 + 2 != 4 * (n1 : Int) + 2 + 0) = false := by rw [bne_eq_false_iff_eq]; omega
              have hne2 : ((n1 : Int) * 4 + 2 != 4 * (n1 : Int) + 2) = false := by rw [bne_eq_false_iff_eq]; omega
              clear hst hO2 hnb2 h1 h2 hpi hop1 hsm
              go_wp2_with fail
              go_roundw
              case rel =>
                refine ⟨k + 1, _, n0, n1 + 1, by go_num, by omega, by omega, HH2.out, HO3.out, ?_, HNb2.out.2⟩
                have hb3 := HNb3.out
                rw [show (n1 : Int) + 1 = ((n1 + 1 : Nat) : Int) by omega] at hb3 ⊢
                exact hb3
              case measure => simp [intOf]; omega
        · obtain rfl : k = 60 := by omega
          have d60 : decide (((60 : Nat) : Int) < 60) = false := rfl
          have hnb3 := HNb.out
          have z0 : wr.cell? ⟨nb, 0, none⟩ = some (.int .u64 (n0 : Int)) := hnb3.cell 0
          have z1 : wr.cell? ⟨nb, 1, none⟩ = some (.int .u64 (n1 : Int)) := hnb3.cell 1
          have zl := hnb3.lt
          have HHop := hide hop
          have hfw := hop.few
          have hIds := fun W' (m : Mod [] wr W') => own_ids (HO.out.next m)
          have HIds := hide hIds
          have q9 : IntKind.u64.wrap ((n0 : Int) + (n1 : Int)) = (n0 : Int) + (n1 : Int) := IntWalk.u64_in _ (by omega)
          clear hO hop hnbk hfar hbx hIds hnb3
          go_wp2_with fail
          refine wp_region_held_drew (S := fun wq => wq.cell? ⟨nb, 0, none⟩ = some (.int .u64 (n0 : Int)) ∧ wq.cell? ⟨nb, 1, none⟩ = some (.int .u64 (n1 : Int))) (by kernel_rfl) ⟨z0, z1⟩ (fun _ => ?_)
          refine take_dst (i := 0) (v := ?_) 90 rfl rfl (by kernel_rfl) (by kernel_rfl) (by kernel_rfl) (fun _ _ _ h => h) (Or.inl ⟨by rfl, ?_⟩) ⟨z0, z1⟩ ?_
          rotate_left
          · intro wq hSw
            have y0 := hSw.1
            have y1 := hSw.2
            go_simp
            first | done | (with_reducible rfl)
          simp only [Act.put, List.setIfInBounds_toArray, List.set_cons_zero, List.set_cons_succ]
          refine take_dst (i := 4) (v := ?_) 94 rfl rfl (by kernel_rfl) (by kernel_rfl) (by kernel_rfl) (fun _ _ _ h => h) (Or.inl ⟨by rfl, ?_⟩) ⟨z0, z1⟩ ?_
          rotate_left
          · intro wq hSw
            have y0 := hSw.1
            have y1 := hSw.2
            go_simp
            first | done | (with_reducible rfl)
          simp only [Act.put, List.setIfInBounds_toArray, List.set_cons_zero, List.set_cons_succ]
          refine take_dst (i := 5) (v := ?_) 95 rfl rfl (by kernel_rfl) (by kernel_rfl) (by kernel_rfl) (fun _ _ _ h => h) (Or.inl ⟨by rfl, ?_⟩) ⟨z0, z1⟩ ?_
          rotate_left
          · intro wq hSw
            have y0 := hSw.1
            have y1 := hSw.2
            go_simp
            first | done | (with_reducible rfl)
          simp only [Act.put, List.setIfInBounds_toArray, List.set_cons_zero, List.set_cons_succ]
          refine take_dst (i := 6) (v := ?_) 96 rfl rfl (by kernel_rfl) (by kernel_rfl) (by kernel_rfl) (fun _ _ _ h => h) (Or.inl ⟨by rfl, ?_⟩) ⟨z0, z1⟩ ?_
          rotate_left
          · intro wq hSw
            have y0 := hSw.1
            have y1 := hSw.2
            go_simp
            first | done | (with_reducible rfl)
          simp only [Act.put, List.setIfInBounds_toArray, List.set_cons_zero, List.set_cons_succ]
          refine take_dst (i := 7) (v := ?_) 97 rfl rfl (by kernel_rfl) (by kernel_rfl) (by kernel_rfl) (fun _ _ _ h => h) (Or.inl ⟨by rfl, ?_⟩) ⟨z0, z1⟩ ?_
          rotate_left
          · intro wq hSw
            have y0 := hSw.1
            have y1 := hSw.2
            go_simp
            first | done | (with_reducible rfl)
          simp only [Act.put, List.setIfInBounds_toArray, List.set_cons_zero, List.set_cons_succ]
          refine take_dst (i := 8) (v := ?_) 98 rfl rfl (by kernel_rfl) (by kernel_rfl) (by kernel_rfl) (fun _ _ _ h => h) (Or.inl ⟨by rfl, ?_⟩) ⟨z0, z1⟩ ?_
          rotate_left
          · intro wq hSw
            have y0 := hSw.1
            have y1 := hSw.2
            go_simp
            first | done | (with_reducible rfl)
          simp only [Act.put, List.setIfInBounds_toArray, List.set_cons_zero, List.set_cons_succ]
          refine wpAnyH_ready (rs := [1]) (by kernel_rfl) (by simp) ?_
          refine AllReadyH.cons rfl (fun K hK => ?_) AllReadyH.nil
          go_simp
          refine (HIds.out _ (Mod.refl [] wr).drew).mono ?_
          rintro e w9 ⟨v9, ss9, rfl, hu9, hr9, hm9, hO9⟩
          obtain ⟨A9, cap9, rfl, _, _, _, _⟩ := urow_form hr9
          rw [hu9.2.1, HHop.out.len]
          have x0 : w9.cell? ⟨nb, 0, none⟩ = some (.int .u64 (n0 : Int)) := (hm9.cell (p := ⟨nb, 0, none⟩) zl (by simp)).trans z0
          have x1 : w9.cell? ⟨nb, 1, none⟩ = some (.int .u64 (n1 : Int)) := (hm9.cell (p := ⟨nb, 1, none⟩) zl (by simp)).trans z1
          have HO9 := hide hO9
          clear hu9 hr9 hm9 hO9
          refine hK.out _ _ ⟨x0, x1⟩ (fun _ => ?_)
          clear hK K
          try simp only [Act.put, List.setIfInBounds_toArray, List.set_cons_zero, List.set_cons_succ]
          refine take_dst (i := 2) (v := ?_) 92 rfl rfl (by kernel_rfl) (by kernel_rfl) (by kernel_rfl) (fun _ _ _ h => h) (Or.inl ⟨by rfl, ?_⟩) ⟨x0, x1⟩ ?_
          rotate_left
          · intro wq hSw
            have y0 := hSw.1
            have y1 := hSw.2
            go_simp
            first | done | (with_reducible rfl)
          simp only [Act.put, List.setIfInBounds_toArray, List.set_cons_zero, List.set_cons_succ]
          refine take_dst (i := 3) (v := ?_) 93 rfl rfl (by kernel_rfl) (by kernel_rfl) (by kernel_rfl) (fun _ _ _ h => h) (Or.inl ⟨by rfl, ?_⟩) ⟨x0, x1⟩ ?_
          rotate_left
          · intro wq hSw
            have y0 := hSw.1
            have y1 := hSw.2
            go_simp
            first | done | (with_reducible rfl)
          simp only [Act.put, List.setIfInBounds_toArray, List.set_cons_zero, List.set_cons_succ]
          refine take_dst (i := 9) (v := ?_) 99 rfl rfl (by kernel_rfl) (by kernel_rfl) (by kernel_rfl) (fun _ _ _ h => h) (Or.inl ⟨by rfl, ?_⟩) ⟨x0, x1⟩ ?_
          rotate_left
          · intro wq hSw
            have y0 := hSw.1
            have y1 := hSw.2
            go_simp
            first | done | (with_reducible rfl)
          simp only [Act.put, List.setIfInBounds_toArray, List.set_cons_zero, List.set_cons_succ]
          refine take_dst (i := 10) (v := ?_) 6 rfl rfl (by kernel_rfl) (by kernel_rfl) (by kernel_rfl) (fun _ _ _ h => h) (Or.inl ⟨by rfl, ?_⟩) ⟨x0, x1⟩ ?_
          rotate_left
          · intro wq hSw
            have y0 := hSw.1
            have y1 := hSw.2
            go_simp
            first | done | (with_reducible rfl)
          simp only [Act.put, List.setIfInBounds_toArray, List.set_cons_zero, List.set_cons_succ]
          refine wpAnyH_done (by kernel_rfl) ?_ _
          go_wp2_with fail
          go_ret
          exact ⟨rfl, (HM1.out.trans HO9.out.mod (by simp)).below (Nat.le_refl _) (by simp)⟩
      · have hkl : k = l.length := by omega
        have hlt2 : ¬ k < l.length := hlt
        have hnb3 := HNb.out
        have z0 : wr.cell? ⟨nb, 0, none⟩ = some (.int .u64 (n0 : Int)) := hnb3.cell 0
        have z1 : wr.cell? ⟨nb, 1, none⟩ = some (.int .u64 (n1 : Int)) := hnb3.cell 1
        have zl := hnb3.lt
        have HHop := hide hop
        have hfw := hop.few
        have hIds := fun W' (m : Mod [] wr W') => own_ids (HO.out.next m)
        have HIds := hide hIds
        have q9 : IntKind.u64.wrap ((n0 : Int) + (n1 : Int)) = (n0 : Int) + (n1 : Int) := IntWalk.u64_in _ (by omega)
        clear hO hop hnbk hfar hbx hIds hnb3
        go_wp2_with fail
        refine wp_region_held_drew (S := fun wq => wq.cell? ⟨nb, 0, none⟩ = some (.int .u64 (n0 : Int)) ∧ wq.cell? ⟨nb, 1, none⟩ = some (.int .u64 (n1 : Int))) (by kernel_rfl) ⟨z0, z1⟩ (fun _ => ?_)
        refine take_dst (i := 0) (v := ?_) 90 rfl rfl (by kernel_rfl) (by kernel_rfl) (by kernel_rfl) (fun _ _ _ h => h) (Or.inl ⟨by rfl, ?_⟩) ⟨z0, z1⟩ ?_
        rotate_left
        · intro wq hSw
          have y0 := hSw.1
          have y1 := hSw.2
          go_simp
          first | done | (with_reducible rfl)
        simp only [Act.put, List.setIfInBounds_toArray, List.set_cons_zero, List.set_cons_succ]
        refine take_dst (i := 4) (v := ?_) 94 rfl rfl (by kernel_rfl) (by kernel_rfl) (by kernel_rfl) (fun _ _ _ h => h) (Or.inl ⟨by rfl, ?_⟩) ⟨z0, z1⟩ ?_
        rotate_left
        · intro wq hSw
          have y0 := hSw.1
          have y1 := hSw.2
          go_simp
          first | done | (with_reducible rfl)
        simp only [Act.put, List.setIfInBounds_toArray, List.set_cons_zero, List.set_cons_succ]
        refine take_dst (i := 5) (v := ?_) 95 rfl rfl (by kernel_rfl) (by kernel_rfl) (by kernel_rfl) (fun _ _ _ h => h) (Or.inl ⟨by rfl, ?_⟩) ⟨z0, z1⟩ ?_
        rotate_left
        · intro wq hSw
          have y0 := hSw.1
          have y1 := hSw.2
          go_simp
          first | done | (with_reducible rfl)
        simp only [Act.put, List.setIfInBounds_toArray, List.set_cons_zero, List.set_cons_succ]
        refine take_dst (i := 6) (v := ?_) 96 rfl rfl (by kernel_rfl) (by kernel_rfl) (by kernel_rfl) (fun _ _ _ h => h) (Or.inl ⟨by rfl, ?_⟩) ⟨z0, z1⟩ ?_
        rotate_left
        · intro wq hSw
          have y0 := hSw.1
          have y1 := hSw.2
          go_simp
          first | done | (with_reducible rfl)
        simp only [Act.put, List.setIfInBounds_toArray, List.set_cons_zero, List.set_cons_succ]
        refine take_dst (i := 7) (v := ?_) 97 rfl rfl (by kernel_rfl) (by kernel_rfl) (by kernel_rfl) (fun _ _ _ h => h) (Or.inl ⟨by rfl, ?_⟩) ⟨z0, z1⟩ ?_
        rotate_left
        · intro wq hSw
          have y0 := hSw.1
          have y1 := hSw.2
          go_simp
          first | done | (with_reducible rfl)
        simp only [Act.put, List.setIfInBounds_toArray, List.set_cons_zero, List.set_cons_succ]
        refine take_dst (i := 8) (v := ?_) 98 rfl rfl (by kernel_rfl) (by kernel_rfl) (by kernel_rfl) (fun _ _ _ h => h) (Or.inl ⟨by rfl, ?_⟩) ⟨z0, z1⟩ ?_
        rotate_left
        · intro wq hSw
          have y0 := hSw.1
          have y1 := hSw.2
          go_simp
          first | done | (with_reducible rfl)
        simp only [Act.put, List.setIfInBounds_toArray, List.set_cons_zero, List.set_cons_succ]
        refine wpAnyH_ready (rs := [1]) (by kernel_rfl) (by simp) ?_
        refine AllReadyH.cons rfl (fun K hK => ?_) AllReadyH.nil
        go_simp
        refine (HIds.out _ (Mod.refl [] wr).drew).mono ?_
        rintro e w9 ⟨v9, ss9, rfl, hu9, hr9, hm9, hO9⟩
        obtain ⟨A9, cap9, rfl, _, _, _, _⟩ := urow_form hr9
        rw [hu9.2.1, HHop.out.len]
        have x0 : w9.cell? ⟨nb, 0, none⟩ = some (.int .u64 (n0 : Int)) := (hm9.cell (p := ⟨nb, 0, none⟩) zl (by simp)).trans z0
        have x1 : w9.cell? ⟨nb, 1, none⟩ = some (.int .u64 (n1 : Int)) := (hm9.cell (p := ⟨nb, 1, none⟩) zl (by simp)).trans z1
        have HO9 := hide hO9
        clear hu9 hr9 hm9 hO9
        refine hK.out _ _ ⟨x0, x1⟩ (fun _ => ?_)
        clear hK K
        try simp only [Act.put, List.setIfInBounds_toArray, List.set_cons_zero, List.set_cons_succ]
        refine take_dst (i := 2) (v := ?_) 92 rfl rfl (by kernel_rfl) (by kernel_rfl) (by kernel_rfl) (fun _ _ _ h => h) (Or.inl ⟨by rfl, ?_⟩) ⟨x0, x1⟩ ?_
        rotate_left
        · intro wq hSw
          have y0 := hSw.1
          have y1 := hSw.2
          go_simp
          first | done | (with_reducible rfl)
        simp only [Act.put, List.setIfInBounds_toArray, List.set_cons_zero, List.set_cons_succ]
        refine take_dst (i := 3) (v := ?_) 93 rfl rfl (by kernel_rfl) (by kernel_rfl) (by kernel_rfl) (fun _ _ _ h => h) (Or.inl ⟨by rfl, ?_⟩) ⟨x0, x1⟩ ?_
        rotate_left
        · intro wq hSw
          have y0 := hSw.1
          have y1 := hSw.2
          go_simp
          first | done | (with_reducible rfl)
        simp only [Act.put, List.setIfInBounds_toArray, List.set_cons_zero, List.set_cons_succ]
        refine take_dst (i := 9) (v := ?_) 99 rfl rfl (by kernel_rfl) (by kernel_rfl) (by kernel_rfl) (fun _ _ _ h => h) (Or.inl ⟨by rfl, ?_⟩) ⟨x0, x1⟩ ?_
        rotate_left
        · intro wq hSw
          have y0 := hSw.1
          have y1 := hSw.2
          go_simp
          first | done | (with_reducible rfl)
        simp only [Act.put, List.setIfInBounds_toArray, List.set_cons_zero, List.set_cons_succ]
        refine take_dst (i := 10) (v := ?_) 6 rfl rfl (by kernel_rfl) (by kernel_rfl) (by kernel_rfl) (fun _ _ _ h => h) (Or.inl ⟨by rfl, ?_⟩) ⟨x0, x1⟩ ?_
        rotate_left
        · intro wq hSw
          have y0 := hSw.1
          have y1 := hSw.2
          go_simp
          first | done | (with_reducible rfl)
        simp only [Act.put, List.setIfInBounds_toArray, List.set_cons_zero, List.set_cons_succ]
        refine wpAnyH_done (by kernel_rfl) ?_ _
        go_wp2_with fail
        go_ret
        exact ⟨rfl, (HM1.out.trans HO9.out.mod (by simp)).below (Nat.le_refl _) (by simp)⟩

end Go.Proofs.YtjdfemfobcjecaaGreat

/-
  The row of 'StreamsOpen': the walk's contract brought to the given statement.
-/
namespace Go.Proofs.YtjdfemfobcjecaaGreat.lawStreamsOpen
open Go.ChangeShapes Go.WideShapes Go.ChangeAt Go.RowKit
open Go.ChangeMaps (open_string shut_string)
set_option linter.unusedVariables false

theorem own : ownKnob Tryz.prog.godebug = none := by kernel_rfl
theorem laidOut : laidOutB Tryz.prog = true := by kernel_rfl

set_option maxRecDepth 100000 in
theorem lifted (os : Os) (started : os.Started) (H : Type) (enc : TypeId × Value → H) :
    ReturnsInHanded {} Tryz.checked os 4 .any (Rows.streamsOpenSpec.pre6 enc Tryz.prog Tryz.f4 Rows.streamsOpenRow.domain false) (Rows.streamsOpenSpec.post enc Tryz.prog Tryz.f4 false true false false) := by
  refine returnsInHanded_of_change (C := Tryz.checked) own started (by kernel_rfl) Tryz.func4
    (ChangeSpec.witness6 (enc := enc) (C := Tryz.checked) false ⟨#[], #[.int .i64 0, .agg #[.int .u64 0, .int .u64 0, .int .u64 0, .int .u64 0, .int .u64 0, .int .u64 0], .slice none 0 0], []⟩ 8 (by kernel_rfl) (by kernel_rfl) (by kernel_rfl) (by kernel_rfl)) ?_
  intro W base args ds gs before hval0 hW hcnd _
  have hval : ∀ (j : Nat) t v, Tryz.f4.params[j]? = some t → args[j]? = some v → Value.okWide Tryz.prog W .any base t v := hval0
  have hW' := hW
  obtain ⟨p, q, hA0, hV, rfl, hfz, hnd⟩ := hW
  have hA : DataW.TrodAll enc Tryz.prog W 0 (fun _ => true) true Tryz.f4.params.toList args.toList ds p := hA0
  rw [Tryz.params4] at hA hval
  obtain ⟨v0, vs0, d0, ds0, p0, q0, hargs, rfl, rfl, h0, r0⟩ := trodAll_cons hA
  obtain ⟨v1, vs1, d1, ds1, p1, q1, rfl, rfl, rfl, h1, r1⟩ := trodAll_cons r0
  obtain ⟨v2, vs2, d2, ds2, p2, q2, rfl, rfl, rfl, h2, r2⟩ := trodAll_cons r1
  obtain ⟨rfl, rfl, rfl⟩ := trodAll_nil r2
  obtain rfl : args = #[v0, v1, v2] := by cases args; simp_all
  obtain ⟨rfl, rfl⟩ := trodVars_none hV
  obtain ⟨z0, rfl, rfl, rfl, w0⟩ := open_int Tryz.underlying3 (hval 0 3 v0 rfl rfl) h0
  have bd0 := bounds_i64 w0
  have k1 := h1
  have lt1 : ∀ x ∈ p1, x.block < W.heap.size := by obtain ⟨m, hm⟩ := k1; exact DataW.trod_lt m _ _ _ hm
  obtain ⟨l1, rfl, u1⟩ := open_limits (hval 1 24 v1 rfl rfl) h1
  have k2 := h2
  have lt2 : ∀ x ∈ p2, x.block < W.heap.size := by obtain ⟨m, hm⟩ := k2; exact DataW.trod_lt m _ _ _ hm
  obtain ⟨A2, c2, l2, rfl, u2⟩ := open_flags (hval 2 38 v2 rfl rfl) h2
  clear hA0 hval0
  refine (walkStreamsOpen z0 bd0.1 bd0.2 l1 A2 c2 l2 W u1 u2).mono fun e W' ⟨he, bel⟩ => ?_
  subst he
  exact ⟨_, rfl, _, _, _, [], _, [], hW', trodAll_mk1 (shut_bool Tryz.underlying4 _), (trodAll_cons_mk (shut_int Tryz.underlying3 w0) (trodAll_cons_mk (Below.trod laidOut (by kernel_rfl) (of_decide_eq_true (by kernel_rfl)) k1 bel lt1) (trodAll_cons_mk (Below.trod laidOut (by kernel_rfl) (of_decide_eq_true (by kernel_rfl)) k2 bel lt2) trodAll_mk0))), rfl, bel.frame _, fun h => by cases h⟩

theorem over : Rows.streamsOpenRow.holds Tryz.pinned (OpenSpec.ofChange Rows.streamsOpenSpec) :=
  OpenClaim.holds_of_wide 4 Tryz.f4 rfl rfl rfl rfl rfl rfl rfl ⟨rfl, rfl, rfl, rfl, rfl⟩ rfl rfl rfl rfl rfl (by kernel_rfl) Tryz.func4 (by kernel_rfl)
    (of_decide_eq_true (by kernel_rfl)) (by unfold Func.isWrapper; first | (rw [if_pos (by decide +kernel)]; kernel_rfl) | (rw [if_neg (by decide +kernel)]; exact ⟨rfl, rfl⟩))
    (fun os started H enc _ => lifted os started H enc)

/-- The statement. -/
theorem proved : Rows.StreamsOpenSaid := over
#print axioms proved
end Go.Proofs.YtjdfemfobcjecaaGreat.lawStreamsOpen
