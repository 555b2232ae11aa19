/-
  The statement StreamsHold: its walk, and the walk brought to the given statement; no condition.
-/
import Derived.Test.YtjdfemfobcjecaaGreatG1
import Derived.OpenShut
import Derived.ChangeSame
import Derived.Deep.Fields
import Derived.Deep.Slices
import Derived.Deep.WholeRow
import Derived.Deep.MidRow
import Derived.Great.BuildSlice
import Derived.Test.YtjdfemfobcjecaaGreatG5
import Derived.Test.YtjdfemfobcjecaaGreatG8
import Derived.Test.YtjdfemfobcjecaaGreatG11
import Derived.Deep.Cut
import Derived.Test.YtjdfemfobcjecaaGreatRows
import Derived.WalkKit
import Derived.ProofKit
import Derived.ShutString
import Derived.ChangeOld
import Derived.Below

/-
  A slice that came in whose elements are of any type: opened, element by element; structs by their fields, wherever they lie.
-/
namespace Go.Proofs.YtjdfemfobcjecaaGreat
open Go.RowKit
section
open Go.ChangeShapes Go.WideShapes Go.Deep
variable {H : Type} {enc : TypeId × Value → H} {P : Program} {w : World} {base : Nat} {spare : Nat → Bool} {held : Bool}
/-- a struct's fields, each read off its own cells -/
theorem trod_cells {t : TypeId} {fs : Array Field} {fuel : Nat} {cs : List Value} {x : DataW H × List MemPlace} (hs : P.underlying t = some (.struct fs)) (h : DataW.trod enc P w base spare held fuel t cs = some x) :
    cs.length = P.cellsOf t ∧ ∀ (j : Nat) (f : Field), fs[j]? = some f → ∃ (y : DataW H × List MemPlace) (n : Nat), DataW.trod enc P w base spare held n f.type ((cs.drop f.offset).take (P.cellsOf f.type)) = some y := by
  obtain ⟨ys, n', hn', hy, hlen, hyl, hf⟩ := DataW.trod_struct hs h
  refine ⟨hlen, fun j f hj => ?_⟩
  have hjl : j < fs.size := (Array.getElem?_eq_some_iff.1 hj).1
  exact ⟨ys[j]'(by omega), n', (hf j f hj).trans (List.getElem?_eq_getElem (by omega))⟩
theorem drop_take_one {cs : List Value} {j : Nat} (h : j < cs.length) : (cs.drop j).take 1 = [cs[j]] := by
  rw [List.drop_eq_getElem_cons h]; rfl
end
theorem exists_row {α : Type} {n : Nat} {P : Nat → α → Prop} (h : ∀ i, i < n → ∃ x, P i x) : ∃ l : List α, l.length = n ∧ ∀ i x, l[i]? = some x → P i x := by
  induction n with
  | zero => exact ⟨[], rfl, fun i x hx => by simp at hx⟩
  | succ n ih =>
    obtain ⟨l, hl, hp⟩ := ih (fun i hi => h i (by omega))
    obtain ⟨x, hx⟩ := h n (by omega)
    refine ⟨l ++ [x], by simp [hl], fun i y hy => ?_⟩
    by_cases hi : i < n
    · rw [List.getElem?_append_left (by omega)] at hy
      exact hp i y hy
    · have : i = n := by
        have := (List.getElem?_eq_some_iff.1 hy).1
        simp at this
        omega
      subst this
      rw [List.getElem?_append_right (by omega), hl] at hy
      simp at hy
      subst hy
      exact hx
/-- the slice at A reads as the elements l, each of so many cells -/
structure Elems {α : Type} (w : World) (A : Option Addr) (cells : α → List Value) (sz : Nat) (l : List α) : Prop where
  len : l.length ≤ 9223372036854775807
  row : l = [] ∨ ∃ g o, A = some ⟨g, o, none⟩ ∧ g < w.heap.size ∧ ∀ i y, l[i]? = some y → ∀ j u, (cells y)[j]? = some u → w.cell? ⟨g, o + i * sz + j, none⟩ = some u
theorem Elems.new {α : Type} {w w' : World} {A : Option Addr} {cells : α → List Value} {sz : Nat} {l : List α} (h : Elems w A cells sz l) (m : Mod [] w w') : Elems w' A cells sz l := by
  refine ⟨h.len, ?_⟩
  rcases h.row with h0 | ⟨g, o, hA, hg, hc⟩
  · exact .inl h0
  · exact .inr ⟨g, o, hA, Nat.lt_of_lt_of_le hg m.size, fun i v hv j u hu => (m.cell (p := ⟨g, o + i * sz + j, none⟩) hg (by simp)).trans (hc i v hv j u hu)⟩
theorem Elems.at_ {α : Type} {w : World} {A : Option Addr} {cells : α → List Value} {sz : Nat} {l : List α} (h : Elems w A cells sz l) {i : Nat} {y : α} (hy : l[i]? = some y) :
    ∃ g o, A = some ⟨g, o, none⟩ ∧ g < w.heap.size ∧ ∀ j u, (cells y)[j]? = some u → w.cell? ⟨g, o + i * sz + j, none⟩ = some u := by
  rcases h.row with h0 | ⟨g, o, hA, hg, hc⟩
  · rw [h0] at hy; simp at hy
  · exact ⟨g, o, hA, hg, hc i y hy⟩
section
open Go.ChangeShapes Go.WideShapes Go.Deep
variable {H : Type} {enc : TypeId × Value → H} {P : Program} {w : World} {base : Nat} {held : Bool}
/-- the row of a slice that came in -/
theorem trod_elems {α : Type} {t e : TypeId} {sz : Nat} {cells : α → List Value} {ok : α → Prop} {fuel : Nat} {v : Value} {x : DataW H × List MemPlace} (ht : P.underlying t = some (.slice e)) (hC : P.cellsOf e = sz) (hsz : 0 < sz) (hcl : ∀ y, (cells y).length = sz)
    (hel : ∀ (fuel : Nat) (cs : List Value) (x : DataW H × List MemPlace), cs.length = sz → DataW.trod enc P w base (fun _ => true) held fuel e cs = some x → ∃ y : α, cs = cells y ∧ ok y)
    (h : DataW.trod enc P w base (fun _ => true) held fuel t [v] = some x) :
    ∃ (A : Option Addr) (c : Nat) (l : List α), v = .slice A l.length c ∧ Elems w A cells sz l ∧ ∀ y ∈ l, ok y := by
  rcases open_slice ht h with ⟨hcs, _⟩ | ⟨a, len, cap, m, n, D, Pl, hcs, _, hl, hm, hmm, _, hi⟩
  · simp only [List.cons.injEq, and_true] at hcs
    exact ⟨none, 0, [], hcs, ⟨by simp, .inl rfl⟩, by simp⟩
  · simp only [List.cons.injEq, and_true] at hcs
    simp only [if_true] at hmm
    subst hmm
    have hex : ∀ i, i < len → ∃ y : α, (∀ j u, (cells y)[j]? = some u → w.cell? (a.add (i * sz + j)) = some u) ∧ ok y := by
      intro i hil
      obtain ⟨cs', hc, htr⟩ := hi i (by omega)
      rw [hC] at hc
      obtain ⟨_, hcn, hat⟩ := World.cells?_some hc
      obtain ⟨y, rfl, hy⟩ := hel _ _ _ hcn htr
      refine ⟨y, fun j u hu => ?_, hy⟩
      have hj : j < sz := by have := (List.getElem?_eq_some_iff.1 hu).1; rw [hcl] at this; exact this
      rw [← Go.Deep.add_add, hat j hj, hu]
    obtain ⟨L, hL, hP⟩ := exists_row hex
    refine ⟨some a, _, L, by rw [hcs, hL], ⟨by simp only [maxLen] at hm; omega, ?_⟩, fun y hy => ?_⟩
    · rcases Nat.eq_zero_or_pos len with h0 | h0
      · exact .inl (List.eq_nil_of_length_eq_zero (by omega))
      · right
        obtain ⟨b, off, spot⟩ := a
        obtain ⟨y, hy⟩ : ∃ y, L[0]? = some y := ⟨_, List.getElem?_eq_getElem (by omega)⟩
        obtain ⟨u, hu⟩ : ∃ u, (cells y)[0]? = some u := ⟨_, List.getElem?_eq_getElem (by rw [hcl]; exact hsz)⟩
        have hc0 := (hP 0 y hy).1 0 u hu
        have hspot : spot = none := by simpa [Addr.add] using World.cell?_spot hc0
        subst hspot
        refine ⟨b, off, rfl, by have h9 := World.block_lt_of_cell? w _ hc0; rw [Addr.add_lit] at h9; exact h9, fun i z hz j u hu => ?_⟩
        have h1 := (hP i z hz).1 j u hu
        rw [Addr.add_lit, ← Nat.add_assoc] at h1
        exact h1
    · obtain ⟨i, hi2⟩ := List.mem_iff_getElem?.1 hy
      exact (hP i y hi2).2
theorem open_elems {α : Type} {t e : TypeId} {sz : Nat} {cells : α → List Value} {ok : α → Prop} {v : Value} {d : DataW H} {p : List MemPlace} {r : Reach} {b0 : Nat} (ht : P.underlying t = some (.slice e)) (hC : P.cellsOf e = sz) (hsz : 0 < sz) (hcl : ∀ y, (cells y).length = sz)
    (hel : ∀ (fuel : Nat) (cs : List Value) (x : DataW H × List MemPlace), cs.length = sz → DataW.trod enc P w base (fun _ => true) held fuel e cs = some x → ∃ y : α, cs = cells y ∧ ok y)
    (hv : Value.okWide P w r b0 t v) (h : DataW.Trod enc P w base (fun _ => true) held t v d p) :
    ∃ (A : Option Addr) (c : Nat) (l : List α), v = .slice A l.length c ∧ Elems w A cells sz l ∧ ∀ y ∈ l, ok y := by
  obtain ⟨a, len, cap, rfl⟩ := okWide_slice ht hv
  obtain ⟨fuel, hf⟩ := h
  exact trod_elems ht hC hsz hcl hel hf
end
end Go.Proofs.YtjdfemfobcjecaaGreat

/-
  A struct stored into a variable that was just made: whole, and the world behind it opaque; its cells loaded whole.
-/
namespace Go.Proofs.YtjdfemfobcjecaaGreat
open Go.RowKit
section
variable {P : Program}
theorem wpList_store_open {ops : Array Oper} {rest : List Oper} {op : Oper} {a : Act} {w : World} {Q : Exit → Act → World → Prop} (hgd : op.guard = none) (ty : TypeId) (x y : Operand) (ho : op.op = .store ty x y) (hd : op.dst = none)
    (c c' : Array Value) (hx : a.eval x = .pointer (some ⟨w.heap.size, 0, none⟩)) (hy : a.eval y = .agg c') (hi : (P.info? ty).map (·.size) = some c'.size) (hold : c.size = c'.size) (h1 : c'.all (·.oneCell') = true)
    (h : ∀ w6, Mod [] w w6 → Blk w6 w.heap.size ty c' → w6.heap.size = w.heap.size + 1 → wpList P ops Q rest a w6) : wpList P ops Q (op :: rest) a (w.alloc (.cells c ty)) := by
  refine wpList_store_rowTo hgd ty x y ho hd w.heap.size c' hx hy ty c (heap_alloc_new w _) hi hold h1 ?_
  rw [World.setRow_alloc_new]
  exact h _ ((Mod.refl [] w).alloc _) (Blk.new w ty c') (World.size_alloc _ _)
theorem Blk.range {w : World} {g : Nat} {t : TypeId} {cs : Array Value} (h : Blk w g t cs) : w.rangeAt g 0 cs.toList := fun j v hv => by
  have := h.cell j
  rw [Nat.zero_add, this]
  simpa using hv
end
end Go.Proofs.YtjdfemfobcjecaaGreat

/-
  the statements' arguments over streams, opened.
-/
namespace Go.Proofs.YtjdfemfobcjecaaGreat
open Go.RowKit
set_option linter.unusedVariables false
/-- a frame, and where its ranges lie -/
structure FA where
  f : Fr
  A : Option Addr
  c : Nat
def FA.cells (x : FA) : List Value := [.int .u64 (x.f.kind : Nat), .int .u64 (x.f.a : Nat), .int .u64 (x.f.b : Nat), .int .u64 (x.f.c : Nat), .bool x.f.fin, .string x.f.data, .string x.f.more, .slice x.A x.f.list.length x.c]
structure FA.OK (x : FA) : Prop where
  kind : x.f.kind ≤ 18446744073709551615
  a : x.f.a ≤ 18446744073709551615
  b : x.f.b ≤ 18446744073709551615
  c : x.f.c ≤ 18446744073709551615
  data : x.f.data.size ≤ 9223372036854775807
  more : x.f.more.size ≤ 9223372036854775807
  list : x.f.list.length ≤ 9223372036854775807
structure Lm.U (l : Lm) : Prop where
  data : l.data ≤ 18446744073709551615
  bl : l.bl ≤ 18446744073709551615
  br : l.br ≤ 18446744073709551615
  un : l.un ≤ 18446744073709551615
  bidis : l.bidis ≤ 18446744073709551615
  unis : l.unis ≤ 18446744073709551615
structure SAct where
  kind : Int
  n : Int
  id : Nat
  code : Nat
  text : ByteArray
  fin : Bool
  fr : FA
  lim : Lm
def SAct.cells (x : SAct) : List Value := [.int .i64 x.kind, .int .i64 x.n, .int .u64 (x.id : Nat), .int .u64 (x.code : Nat), .string x.text, .bool x.fin, .int .u64 (x.fr.f.kind : Nat), .int .u64 (x.fr.f.a : Nat), .int .u64 (x.fr.f.b : Nat), .int .u64 (x.fr.f.c : Nat), .bool x.fr.f.fin, .string x.fr.f.data, .string x.fr.f.more, .slice x.fr.A x.fr.f.list.length x.fr.c,
  .int .u64 (x.lim.data : Int), .int .u64 (x.lim.bl : Int), .int .u64 (x.lim.br : Int), .int .u64 (x.lim.un : Int), .int .u64 (x.lim.bidis : Int), .int .u64 (x.lim.unis : Int)]
structure SAct.OK (x : SAct) : Prop where
  k1 : -9223372036854775808 ≤ x.kind
  k2 : x.kind ≤ 9223372036854775807
  n1 : -9223372036854775808 ≤ x.n
  n2 : x.n ≤ 9223372036854775807
  id : x.id ≤ 18446744073709551615
  code : x.code ≤ 18446744073709551615
  text : x.text.size ≤ 9223372036854775807
  fr : x.fr.OK
  lim : x.lim.U
section
open Go.ChangeShapes Go.WideShapes Go.Deep
variable {H : Type} {enc : TypeId × Value → H} {w : World} {base : Nat} {held : Bool}
set_option maxRecDepth 100000 in
theorem trod_range (fuel : Nat) (cs : List Value) (x : DataW H × List MemPlace) (hlen : cs.length = 2) (h : DataW.trod enc Tryz.prog w base (fun _ => true) held fuel 92 cs = some x) : ∃ y : Nat × Nat, cs = [.int .u64 (y.1 : Nat), .int .u64 (y.2 : Nat)] ∧ True := by
  obtain ⟨hl, hf⟩ := trod_cells Tryz.underlying92 h
  rw [show Tryz.prog.cellsOf 92 = 2 by kernel_rfl] at hl
  obtain ⟨y0, n0, t0⟩ := hf 0 _ rfl
  obtain ⟨y1, n1, t1⟩ := hf 1 _ rfl
  have q0 : ((cs.drop 0).take (Tryz.prog.cellsOf 22)) = [cs[0]] := by rw [show Tryz.prog.cellsOf 22 = 1 by kernel_rfl]; exact drop_take_one (by omega)
  have t0 : DataW.trod enc Tryz.prog w base (fun _ => true) held n0 22 ((cs.drop 0).take (Tryz.prog.cellsOf 22)) = some y0 := t0
  rw [q0] at t0
  obtain ⟨x0, e0, _, w0⟩ := DataW.trod_int Tryz.underlying22 t0
  have b0 := bounds_u64 w0
  obtain ⟨u0, rfl⟩ := Int.eq_ofNat_of_zero_le b0.1
  have c0 : u0 ≤ 18446744073709551615 := by omega
  simp only [List.cons.injEq, and_true] at e0
  have q1 : ((cs.drop 1).take (Tryz.prog.cellsOf 22)) = [cs[1]] := by rw [show Tryz.prog.cellsOf 22 = 1 by kernel_rfl]; exact drop_take_one (by omega)
  have t1 : DataW.trod enc Tryz.prog w base (fun _ => true) held n1 22 ((cs.drop 1).take (Tryz.prog.cellsOf 22)) = some y1 := t1
  rw [q1] at t1
  obtain ⟨x1, e1, _, w1⟩ := DataW.trod_int Tryz.underlying22 t1
  have b1 := bounds_u64 w1
  obtain ⟨u1, rfl⟩ := Int.eq_ofNat_of_zero_le b1.1
  have c1 : u1 ≤ 18446744073709551615 := by omega
  simp only [List.cons.injEq, and_true] at e1
  refine ⟨(u0, u1), ?_, trivial⟩
  apply List.ext_getElem (by simp [hl])
  intro i h1 h2
  have : i = 0 ∨ i = 1 := by omega
  rcases this with rfl | rfl
  · exact e0
  · exact e1
set_option maxRecDepth 100000 in
set_option maxHeartbeats 4000000 in
theorem trod_frame (fuel : Nat) (cs : List Value) (x : DataW H × List MemPlace) (hlen : cs.length = 8) (h : DataW.trod enc Tryz.prog w base (fun _ => true) held fuel 31 cs = some x) : ∃ y : FA, cs = y.cells ∧ y.OK := by
  obtain ⟨hl, hf⟩ := trod_cells Tryz.underlying31 h
  rw [show Tryz.prog.cellsOf 31 = 8 by kernel_rfl] at hl
  obtain ⟨y0, n0, t0⟩ := hf 0 _ rfl
  obtain ⟨y1, n1, t1⟩ := hf 1 _ rfl
  obtain ⟨y2, n2, t2⟩ := hf 2 _ rfl
  obtain ⟨y3, n3, t3⟩ := hf 3 _ rfl
  obtain ⟨y4, n4, t4⟩ := hf 4 _ rfl
  obtain ⟨y5, n5, t5⟩ := hf 5 _ rfl
  obtain ⟨y6, n6, t6⟩ := hf 6 _ rfl
  obtain ⟨y7, n7, t7⟩ := hf 7 _ rfl
  have q0 : ((cs.drop 0).take (Tryz.prog.cellsOf 22)) = [cs[0]] := by rw [show Tryz.prog.cellsOf 22 = 1 by kernel_rfl]; exact drop_take_one (by omega)
  have t0 : DataW.trod enc Tryz.prog w base (fun _ => true) held n0 22 ((cs.drop 0).take (Tryz.prog.cellsOf 22)) = some y0 := t0
  rw [q0] at t0
  obtain ⟨x0, e0, _, w0⟩ := DataW.trod_int Tryz.underlying22 t0
  have b0 := bounds_u64 w0
  obtain ⟨u0, rfl⟩ := Int.eq_ofNat_of_zero_le b0.1
  have c0 : u0 ≤ 18446744073709551615 := by omega
  simp only [List.cons.injEq, and_true] at e0
  have q1 : ((cs.drop 1).take (Tryz.prog.cellsOf 22)) = [cs[1]] := by rw [show Tryz.prog.cellsOf 22 = 1 by kernel_rfl]; exact drop_take_one (by omega)
  have t1 : DataW.trod enc Tryz.prog w base (fun _ => true) held n1 22 ((cs.drop 1).take (Tryz.prog.cellsOf 22)) = some y1 := t1
  rw [q1] at t1
  obtain ⟨x1, e1, _, w1⟩ := DataW.trod_int Tryz.underlying22 t1
  have b1 := bounds_u64 w1
  obtain ⟨u1, rfl⟩ := Int.eq_ofNat_of_zero_le b1.1
  have c1 : u1 ≤ 18446744073709551615 := by omega
  simp only [List.cons.injEq, and_true] at e1
  have q2 : ((cs.drop 2).take (Tryz.prog.cellsOf 22)) = [cs[2]] := by rw [show Tryz.prog.cellsOf 22 = 1 by kernel_rfl]; exact drop_take_one (by omega)
  have t2 : DataW.trod enc Tryz.prog w base (fun _ => true) held n2 22 ((cs.drop 2).take (Tryz.prog.cellsOf 22)) = some y2 := t2
  rw [q2] at t2
  obtain ⟨x2, e2, _, w2⟩ := DataW.trod_int Tryz.underlying22 t2
  have b2 := bounds_u64 w2
  obtain ⟨u2, rfl⟩ := Int.eq_ofNat_of_zero_le b2.1
  have c2 : u2 ≤ 18446744073709551615 := by omega
  simp only [List.cons.injEq, and_true] at e2
  have q3 : ((cs.drop 3).take (Tryz.prog.cellsOf 22)) = [cs[3]] := by rw [show Tryz.prog.cellsOf 22 = 1 by kernel_rfl]; exact drop_take_one (by omega)
  have t3 : DataW.trod enc Tryz.prog w base (fun _ => true) held n3 22 ((cs.drop 3).take (Tryz.prog.cellsOf 22)) = some y3 := t3
  rw [q3] at t3
  obtain ⟨x3, e3, _, w3⟩ := DataW.trod_int Tryz.underlying22 t3
  have b3 := bounds_u64 w3
  obtain ⟨u3, rfl⟩ := Int.eq_ofNat_of_zero_le b3.1
  have c3 : u3 ≤ 18446744073709551615 := by omega
  simp only [List.cons.injEq, and_true] at e3
  have q4 : ((cs.drop 4).take (Tryz.prog.cellsOf 4)) = [cs[4]] := by rw [show Tryz.prog.cellsOf 4 = 1 by kernel_rfl]; exact drop_take_one (by omega)
  have t4 : DataW.trod enc Tryz.prog w base (fun _ => true) held n4 4 ((cs.drop 4).take (Tryz.prog.cellsOf 4)) = some y4 := t4
  rw [q4] at t4
  obtain ⟨u4, e4, _⟩ := DataW.trod_bool Tryz.underlying4 t4
  simp only [List.cons.injEq, and_true] at e4
  have q5 : ((cs.drop 5).take (Tryz.prog.cellsOf 9)) = [cs[5]] := by rw [show Tryz.prog.cellsOf 9 = 1 by kernel_rfl]; exact drop_take_one (by omega)
  have t5 : DataW.trod enc Tryz.prog w base (fun _ => true) held n5 9 ((cs.drop 5).take (Tryz.prog.cellsOf 9)) = some y5 := t5
  rw [q5] at t5
  obtain ⟨u5, e5, _, w5⟩ := DataW.trod_string Tryz.underlying9 t5
  simp only [List.cons.injEq, and_true] at e5
  have q6 : ((cs.drop 6).take (Tryz.prog.cellsOf 9)) = [cs[6]] := by rw [show Tryz.prog.cellsOf 9 = 1 by kernel_rfl]; exact drop_take_one (by omega)
  have t6 : DataW.trod enc Tryz.prog w base (fun _ => true) held n6 9 ((cs.drop 6).take (Tryz.prog.cellsOf 9)) = some y6 := t6
  rw [q6] at t6
  obtain ⟨u6, e6, _, w6⟩ := DataW.trod_string Tryz.underlying9 t6
  simp only [List.cons.injEq, and_true] at e6
  have q7 : ((cs.drop 7).take (Tryz.prog.cellsOf 29)) = [cs[7]] := by rw [show Tryz.prog.cellsOf 29 = 1 by kernel_rfl]; exact drop_take_one (by omega)
  have t7 : DataW.trod enc Tryz.prog w base (fun _ => true) held n7 29 ((cs.drop 7).take (Tryz.prog.cellsOf 29)) = some y7 := t7
  rw [q7] at t7
  obtain ⟨A7, c7, l7, e7, el7, _⟩ := trod_elems (sz := 2) (cells := fun y : Nat × Nat => [Value.int .u64 (y.1 : Nat), .int .u64 (y.2 : Nat)]) (ok := fun _ => True) Tryz.underlying29 (by kernel_rfl) (by omega) (fun _ => rfl) trod_range t7
  refine ⟨⟨⟨u0, u1, u2, u3, u4, u5, u6, l7⟩, A7, c7⟩, ?_, ⟨c0, c1, c2, c3, w5, w6, el7.len⟩⟩
  apply List.ext_getElem (by rw [hl]; rfl)
  intro i h1 h2
  have : i = 0 ∨ i = 1 ∨ i = 2 ∨ i = 3 ∨ i = 4 ∨ i = 5 ∨ i = 6 ∨ i = 7 := by omega
  rcases this with rfl | rfl | rfl | rfl | rfl | rfl | rfl | rfl
  · exact e0
  · exact e1
  · exact e2
  · exact e3
  · exact e4
  · exact e5
  · exact e6
  · exact e7
set_option maxRecDepth 100000 in
set_option maxHeartbeats 4000000 in
theorem trod_limits (fuel : Nat) (cs : List Value) (x : DataW H × List MemPlace) (hlen : cs.length = 6) (h : DataW.trod enc Tryz.prog w base (fun _ => true) held fuel 24 cs = some x) : ∃ y : Lm, cs = y.vals ∧ y.U := by
  obtain ⟨hl, hf⟩ := trod_cells Tryz.underlying24 h
  rw [show Tryz.prog.cellsOf 24 = 6 by kernel_rfl] at hl
  obtain ⟨y0, n0, t0⟩ := hf 0 _ rfl
  obtain ⟨y1, n1, t1⟩ := hf 1 _ rfl
  obtain ⟨y2, n2, t2⟩ := hf 2 _ rfl
  obtain ⟨y3, n3, t3⟩ := hf 3 _ rfl
  obtain ⟨y4, n4, t4⟩ := hf 4 _ rfl
  obtain ⟨y5, n5, t5⟩ := hf 5 _ rfl
  have q0 : ((cs.drop 0).take (Tryz.prog.cellsOf 22)) = [cs[0]] := by rw [show Tryz.prog.cellsOf 22 = 1 by kernel_rfl]; exact drop_take_one (by omega)
  have t0 : DataW.trod enc Tryz.prog w base (fun _ => true) held n0 22 ((cs.drop 0).take (Tryz.prog.cellsOf 22)) = some y0 := t0
  rw [q0] at t0
  obtain ⟨x0, e0, _, w0⟩ := DataW.trod_int Tryz.underlying22 t0
  have b0 := bounds_u64 w0
  obtain ⟨u0, rfl⟩ := Int.eq_ofNat_of_zero_le b0.1
  have c0 : u0 ≤ 18446744073709551615 := by omega
  simp only [List.cons.injEq, and_true] at e0
  have q1 : ((cs.drop 1).take (Tryz.prog.cellsOf 22)) = [cs[1]] := by rw [show Tryz.prog.cellsOf 22 = 1 by kernel_rfl]; exact drop_take_one (by omega)
  have t1 : DataW.trod enc Tryz.prog w base (fun _ => true) held n1 22 ((cs.drop 1).take (Tryz.prog.cellsOf 22)) = some y1 := t1
  rw [q1] at t1
  obtain ⟨x1, e1, _, w1⟩ := DataW.trod_int Tryz.underlying22 t1
  have b1 := bounds_u64 w1
  obtain ⟨u1, rfl⟩ := Int.eq_ofNat_of_zero_le b1.1
  have c1 : u1 ≤ 18446744073709551615 := by omega
  simp only [List.cons.injEq, and_true] at e1
  have q2 : ((cs.drop 2).take (Tryz.prog.cellsOf 22)) = [cs[2]] := by rw [show Tryz.prog.cellsOf 22 = 1 by kernel_rfl]; exact drop_take_one (by omega)
  have t2 : DataW.trod enc Tryz.prog w base (fun _ => true) held n2 22 ((cs.drop 2).take (Tryz.prog.cellsOf 22)) = some y2 := t2
  rw [q2] at t2
  obtain ⟨x2, e2, _, w2⟩ := DataW.trod_int Tryz.underlying22 t2
  have b2 := bounds_u64 w2
  obtain ⟨u2, rfl⟩ := Int.eq_ofNat_of_zero_le b2.1
  have c2 : u2 ≤ 18446744073709551615 := by omega
  simp only [List.cons.injEq, and_true] at e2
  have q3 : ((cs.drop 3).take (Tryz.prog.cellsOf 22)) = [cs[3]] := by rw [show Tryz.prog.cellsOf 22 = 1 by kernel_rfl]; exact drop_take_one (by omega)
  have t3 : DataW.trod enc Tryz.prog w base (fun _ => true) held n3 22 ((cs.drop 3).take (Tryz.prog.cellsOf 22)) = some y3 := t3
  rw [q3] at t3
  obtain ⟨x3, e3, _, w3⟩ := DataW.trod_int Tryz.underlying22 t3
  have b3 := bounds_u64 w3
  obtain ⟨u3, rfl⟩ := Int.eq_ofNat_of_zero_le b3.1
  have c3 : u3 ≤ 18446744073709551615 := by omega
  simp only [List.cons.injEq, and_true] at e3
  have q4 : ((cs.drop 4).take (Tryz.prog.cellsOf 22)) = [cs[4]] := by rw [show Tryz.prog.cellsOf 22 = 1 by kernel_rfl]; exact drop_take_one (by omega)
  have t4 : DataW.trod enc Tryz.prog w base (fun _ => true) held n4 22 ((cs.drop 4).take (Tryz.prog.cellsOf 22)) = some y4 := t4
  rw [q4] at t4
  obtain ⟨x4, e4, _, w4⟩ := DataW.trod_int Tryz.underlying22 t4
  have b4 := bounds_u64 w4
  obtain ⟨u4, rfl⟩ := Int.eq_ofNat_of_zero_le b4.1
  have c4 : u4 ≤ 18446744073709551615 := by omega
  simp only [List.cons.injEq, and_true] at e4
  have q5 : ((cs.drop 5).take (Tryz.prog.cellsOf 22)) = [cs[5]] := by rw [show Tryz.prog.cellsOf 22 = 1 by kernel_rfl]; exact drop_take_one (by omega)
  have t5 : DataW.trod enc Tryz.prog w base (fun _ => true) held n5 22 ((cs.drop 5).take (Tryz.prog.cellsOf 22)) = some y5 := t5
  rw [q5] at t5
  obtain ⟨x5, e5, _, w5⟩ := DataW.trod_int Tryz.underlying22 t5
  have b5 := bounds_u64 w5
  obtain ⟨u5, rfl⟩ := Int.eq_ofNat_of_zero_le b5.1
  have c5 : u5 ≤ 18446744073709551615 := by omega
  simp only [List.cons.injEq, and_true] at e5
  refine ⟨⟨u0, u1, u2, u3, u4, u5⟩, ?_, ⟨c0, c1, c2, c3, c4, c5⟩⟩
  apply List.ext_getElem (by rw [hl]; rfl)
  intro i h1 h2
  have : i = 0 ∨ i = 1 ∨ i = 2 ∨ i = 3 ∨ i = 4 ∨ i = 5 := by omega
  rcases this with rfl | rfl | rfl | rfl | rfl | rfl
  · exact e0
  · exact e1
  · exact e2
  · exact e3
  · exact e4
  · exact e5
set_option maxRecDepth 100000 in
set_option maxHeartbeats 4000000 in
theorem open_limits {v : Value} {d : DataW H} {p : List MemPlace} {r : Reach} {b0 : Nat} (hv : Value.okWide Tryz.prog w r b0 24 v) (h : DataW.Trod enc Tryz.prog w base (fun _ => true) held 24 v d p) :
    ∃ l : Lm, v = l.val ∧ l.U := by
  obtain ⟨cs, rfl, hsz⟩ := okWide_struct Tryz.underlying24 hv
  obtain ⟨fuel, hf⟩ := h
  obtain ⟨l, hl, hu⟩ := trod_limits _ _ _ ((trod_cells Tryz.underlying24 hf).1.trans (by kernel_rfl)) hf
  refine ⟨l, ?_, hu⟩
  have e : (Value.agg cs).cells.toList = cs.toList := rfl
  rw [e] at hl
  unfold Lm.val
  congr 1
  exact Array.toList_inj.1 hl
set_option maxRecDepth 100000 in
set_option maxHeartbeats 4000000 in
theorem open_flags {v : Value} {d : DataW H} {p : List MemPlace} {r : Reach} {b0 : Nat} (hv : Value.okWide Tryz.prog w r b0 38 v) (h : DataW.Trod enc Tryz.prog w base (fun _ => true) held 38 v d p) :
    ∃ (A : Option Addr) (c : Nat) (l : List Bool), v = .slice A l.length c ∧ Elems w A (fun b => [Value.bool b]) 1 l := by
  obtain ⟨A, c, l, hv, he, _⟩ := open_elems (sz := 1) (cells := fun b : Bool => [Value.bool b]) (ok := fun _ => True) Tryz.underlying38 (by kernel_rfl) (by omega) (fun _ => rfl) (fun fuel cs x hl hx => by
    match cs, hl, hx with
    | [v], _, hx =>
      obtain ⟨b, e, _⟩ := DataW.trod_bool Tryz.underlying4 hx
      exact ⟨b, e, trivial⟩) hv h
  exact ⟨A, c, l, hv, he⟩
set_option maxRecDepth 100000 in
set_option maxHeartbeats 4000000 in
theorem open_framesA {v : Value} {d : DataW H} {p : List MemPlace} {r : Reach} {b0 : Nat} (hv : Value.okWide Tryz.prog w r b0 25 v) (h : DataW.Trod enc Tryz.prog w base (fun _ => true) held 25 v d p) :
    ∃ (A : Option Addr) (c : Nat) (l : List FA), v = .slice A l.length c ∧ Elems w A FA.cells 8 l ∧ ∀ y ∈ l, y.OK :=
  open_elems (sz := 8) Tryz.underlying25 (by kernel_rfl) (by omega) (fun _ => rfl) trod_frame hv h
set_option maxRecDepth 100000 in
set_option maxHeartbeats 4000000 in
theorem trod_act (fuel : Nat) (cs : List Value) (x : DataW H × List MemPlace) (hlen : cs.length = 20) (h : DataW.trod enc Tryz.prog w base (fun _ => true) held fuel 52 cs = some x) : ∃ y : SAct, cs = y.cells ∧ y.OK := by
  obtain ⟨hl, hf⟩ := trod_cells Tryz.underlying52 h
  rw [show Tryz.prog.cellsOf 52 = 20 by kernel_rfl] at hl
  obtain ⟨y0, n0, t0⟩ := hf 0 _ rfl
  obtain ⟨y1, n1, t1⟩ := hf 1 _ rfl
  obtain ⟨y2, n2, t2⟩ := hf 2 _ rfl
  obtain ⟨y3, n3, t3⟩ := hf 3 _ rfl
  obtain ⟨y4, n4, t4⟩ := hf 4 _ rfl
  obtain ⟨y5, n5, t5⟩ := hf 5 _ rfl
  obtain ⟨y6, n6, t6⟩ := hf 6 _ rfl
  obtain ⟨y7, n7, t7⟩ := hf 7 _ rfl
  have q0 : ((cs.drop 0).take (Tryz.prog.cellsOf 3)) = [cs[0]] := by rw [show Tryz.prog.cellsOf 3 = 1 by kernel_rfl]; exact drop_take_one (by omega)
  have t0 : DataW.trod enc Tryz.prog w base (fun _ => true) held n0 3 ((cs.drop 0).take (Tryz.prog.cellsOf 3)) = some y0 := t0
  rw [q0] at t0
  obtain ⟨u0, e0, _, w0⟩ := DataW.trod_int Tryz.underlying3 t0
  have b0 := bounds_i64 w0
  simp only [List.cons.injEq, and_true] at e0
  have q1 : ((cs.drop 1).take (Tryz.prog.cellsOf 3)) = [cs[1]] := by rw [show Tryz.prog.cellsOf 3 = 1 by kernel_rfl]; exact drop_take_one (by omega)
  have t1 : DataW.trod enc Tryz.prog w base (fun _ => true) held n1 3 ((cs.drop 1).take (Tryz.prog.cellsOf 3)) = some y1 := t1
  rw [q1] at t1
  obtain ⟨u1, e1, _, w1⟩ := DataW.trod_int Tryz.underlying3 t1
  have b1 := bounds_i64 w1
  simp only [List.cons.injEq, and_true] at e1
  have q2 : ((cs.drop 2).take (Tryz.prog.cellsOf 22)) = [cs[2]] := by rw [show Tryz.prog.cellsOf 22 = 1 by kernel_rfl]; exact drop_take_one (by omega)
  have t2 : DataW.trod enc Tryz.prog w base (fun _ => true) held n2 22 ((cs.drop 2).take (Tryz.prog.cellsOf 22)) = some y2 := t2
  rw [q2] at t2
  obtain ⟨x2, e2, _, w2⟩ := DataW.trod_int Tryz.underlying22 t2
  have b2 := bounds_u64 w2
  obtain ⟨u2, rfl⟩ := Int.eq_ofNat_of_zero_le b2.1
  have c2 : u2 ≤ 18446744073709551615 := by omega
  simp only [List.cons.injEq, and_true] at e2
  have q3 : ((cs.drop 3).take (Tryz.prog.cellsOf 22)) = [cs[3]] := by rw [show Tryz.prog.cellsOf 22 = 1 by kernel_rfl]; exact drop_take_one (by omega)
  have t3 : DataW.trod enc Tryz.prog w base (fun _ => true) held n3 22 ((cs.drop 3).take (Tryz.prog.cellsOf 22)) = some y3 := t3
  rw [q3] at t3
  obtain ⟨x3, e3, _, w3⟩ := DataW.trod_int Tryz.underlying22 t3
  have b3 := bounds_u64 w3
  obtain ⟨u3, rfl⟩ := Int.eq_ofNat_of_zero_le b3.1
  have c3 : u3 ≤ 18446744073709551615 := by omega
  simp only [List.cons.injEq, and_true] at e3
  have q4 : ((cs.drop 4).take (Tryz.prog.cellsOf 9)) = [cs[4]] := by rw [show Tryz.prog.cellsOf 9 = 1 by kernel_rfl]; exact drop_take_one (by omega)
  have t4 : DataW.trod enc Tryz.prog w base (fun _ => true) held n4 9 ((cs.drop 4).take (Tryz.prog.cellsOf 9)) = some y4 := t4
  rw [q4] at t4
  obtain ⟨u4, e4, _, w4⟩ := DataW.trod_string Tryz.underlying9 t4
  simp only [List.cons.injEq, and_true] at e4
  have q5 : ((cs.drop 5).take (Tryz.prog.cellsOf 4)) = [cs[5]] := by rw [show Tryz.prog.cellsOf 4 = 1 by kernel_rfl]; exact drop_take_one (by omega)
  have t5 : DataW.trod enc Tryz.prog w base (fun _ => true) held n5 4 ((cs.drop 5).take (Tryz.prog.cellsOf 4)) = some y5 := t5
  rw [q5] at t5
  obtain ⟨u5, e5, _⟩ := DataW.trod_bool Tryz.underlying4 t5
  simp only [List.cons.injEq, and_true] at e5
  have t6 : DataW.trod enc Tryz.prog w base (fun _ => true) held n6 31 ((cs.drop 6).take (Tryz.prog.cellsOf 31)) = some y6 := t6
  have t7 : DataW.trod enc Tryz.prog w base (fun _ => true) held n7 24 ((cs.drop 14).take (Tryz.prog.cellsOf 24)) = some y7 := t7
  obtain ⟨fr, e6, ok6⟩ := trod_frame _ _ _ (by rw [show Tryz.prog.cellsOf 31 = 8 by kernel_rfl]; simp; omega) t6
  obtain ⟨lm, e7, ok7⟩ := trod_limits _ _ _ (by rw [show Tryz.prog.cellsOf 24 = 6 by kernel_rfl]; simp; omega) t7
  rw [show Tryz.prog.cellsOf 31 = 8 by kernel_rfl] at e6
  rw [show Tryz.prog.cellsOf 24 = 6 by kernel_rfl] at e7
  refine ⟨⟨u0, u1, u2, u3, u4, u5, fr, lm⟩, ?_, ⟨b0.1, b0.2, b1.1, b1.2, c2, c3, w4, ok6, ok7⟩⟩
  have h6 : cs = cs.take 6 ++ ((cs.drop 6).take 8 ++ (cs.drop 14).take 6) := by
    rw [show cs.drop 14 = (cs.drop 6).drop 8 by rw [List.drop_drop], List.take_of_length_le (l := (cs.drop 6).drop 8) (by simp; omega), List.take_append_drop, List.take_append_drop]
  have h0 : cs.take 6 = [.int .i64 u0, .int .i64 u1, .int .u64 (u2 : Nat), .int .u64 (u3 : Nat), .string u4, .bool u5] := by
    apply List.ext_getElem (by simp; omega)
    intro i h1 h2
    rw [List.getElem_take]
    have : i = 0 ∨ i = 1 ∨ i = 2 ∨ i = 3 ∨ i = 4 ∨ i = 5 := by simp at h2; omega
    rcases this with rfl | rfl | rfl | rfl | rfl | rfl
    · exact e0
    · exact e1
    · exact e2
    · exact e3
    · exact e4
    · exact e5
  rw [h6, h0, e6, e7]
  rfl
set_option maxRecDepth 100000 in
set_option maxHeartbeats 4000000 in
theorem open_sacts {v : Value} {d : DataW H} {p : List MemPlace} {r : Reach} {b0 : Nat} (hv : Value.okWide Tryz.prog w r b0 49 v) (h : DataW.Trod enc Tryz.prog w base (fun _ => true) held 49 v d p) :
    ∃ (A : Option Addr) (c : Nat) (l : List SAct), v = .slice A l.length c ∧ Elems w A SAct.cells 20 l ∧ ∀ y ∈ l, y.OK :=
  open_elems (sz := 20) Tryz.underlying49 (by kernel_rfl) (by omega) (fun _ => rfl) trod_act hv h
end
end Go.Proofs.YtjdfemfobcjecaaGreat

/-
  the statements' own helpers over streams: large, play.
-/
namespace Go.Proofs.YtjdfemfobcjecaaGreat
open Go.RowKit Go.Sort
set_option linter.unusedVariables false
set_option linter.unusedSimpArgs false
def SAct.val (x : SAct) : Value := .agg #[.int .i64 x.kind, .int .i64 x.n, .int .u64 (x.id : Nat), .int .u64 (x.code : Nat), .string x.text, .bool x.fin, .int .u64 (x.fr.f.kind : Nat), .int .u64 (x.fr.f.a : Nat), .int .u64 (x.fr.f.b : Nat), .int .u64 (x.fr.f.c : Nat), .bool x.fr.f.fin, .string x.fr.f.data, .string x.fr.f.more, .slice x.fr.A x.fr.f.list.length x.fr.c, .int .u64 (x.lim.data : Int), .int .u64 (x.lim.bl : Int), .int .u64 (x.lim.br : Int), .int .u64 (x.lim.un : Int), .int .u64 (x.lim.bidis : Int), .int .u64 (x.lim.unis : Int)]
def SAct.large (x : SAct) : Bool := decide (200 < x.text.size) || decide (200 < x.fr.f.data.size) || decide (10 < x.fr.f.list.length) || decide (100 < x.fr.f.more.size)
theorem SAct.large_no {x : SAct} (h : x.large = false) : x.text.size ≤ 200 ∧ x.fr.f.data.size ≤ 200 := by
  unfold SAct.large at h
  simp only [Bool.or_eq_false_iff, decide_eq_false_iff_not] at h
  omega
/-- what an act told -/
structure Said where
  n : Nat
  text : ByteArray
  is_ : Bool
  f : Fr
  e : Int
def Said.cells (o : Said) : Array Value := #[.int .u64 (o.n : Nat), .string o.text, .bool o.is_, .int .u64 (o.f.kind : Nat), .int .u64 (o.f.a : Nat), .int .u64 (o.f.b : Nat), .int .u64 (o.f.c : Nat), .bool o.f.fin, .string o.f.data, .string o.f.more, .slice none 0 0, .int .i64 o.e]
def said0 : Said := ⟨0, ⟨#[]⟩, false, fr0, 0⟩
inductive Ss.Plays (s : Ss) (x : SAct) : Said → Ss → Prop
  | open_ (hk : x.kind = 0) (n c : Nat) (s' : Ss) (h : s.Opens (kindOf s x.fin) n c s') : s.Plays x ⟨n, ⟨#[]⟩, false, fr0, (c : Int)⟩ s'
  | write (hk : x.kind = 1) (c : Int) (s' : Ss) (h : s.Writes x.id x.text.data.toList x.fin c s') : s.Plays x ⟨0, ⟨#[]⟩, false, fr0, c⟩ s'
  | read (hk : x.kind = 2) (t : ByteArray) (d : Bool) (c : Int) (s' : Ss) (h : s.Reads x.id x.n t d c s') : s.Plays x ⟨0, t, d, fr0, c⟩ s'
  | reset (hk : x.kind = 3) (c : Int) (s' : Ss) (h : s.Resets x.id x.code c s') : s.Plays x ⟨0, ⟨#[]⟩, false, fr0, c⟩ s'
  | stop (hk : x.kind = 4) (c : Int) (s' : Ss) (h : s.Stops x.id x.code c s') : s.Plays x ⟨0, ⟨#[]⟩, false, fr0, c⟩ s'
  | got (hk : x.kind = 5) (c : Int) (s' : Ss) (h : s.Gots x.fr.f c s') : s.Plays x ⟨0, ⟨#[]⟩, false, fr0, c⟩ s'
  | next (hk : x.kind = 6) (f : Fr) (is : Bool) (s' : Ss) (h : s.NextOf x.n f is s') : s.Plays x ⟨0, ⟨#[]⟩, is, f, 0⟩ s'
  | acked (hk : x.kind = 7) (s' : Ss) (h : s.Acks x.fr.f s') : s.Plays x said0 s'
  | lost (hk : x.kind = 8) (s' : Ss) (h : s.Loses x.fr.f s') : s.Plays x said0 s'
  | other (hk : x.kind = 9) (s' : Ss) (h : s.Others x.lim s') : s.Plays x said0 s'
  | none (hk : x.kind < 0 ∨ 9 < x.kind) : s.Plays x said0 s
theorem own_key {K K' : Nat} {W0 w W : World} {sb : Nat} {s s' : Ss} (h0 : Own K W0 w sb s) (h9 : SStep w sb s s' W) (hk : s'.OK K') : SStep w sb s s' W ∧ Own K' W0 W sb s' := ⟨h9, h0.step h9 hk⟩
theorem SStep.besideOf {w w1 W : World} {sb g : Nat} {s s' : Ss} {o : Obj} (hg : w.heap.size = g) (h0 : SBox w sb s) (hst : SStep (w.alloc o) sb s s' w1) (m : Mod [g] w1 W) : SStep w sb s s' W := by
  subst hg; exact SStep.beside h0 hst m
theorem put12_blk {w : World} {g t : Nat} {cs : Array Value} (h : Blk w g t cs) (hs : cs.size = 12) (v0 v1 v2 v3 v4 v5 v6 v7 v8 v9 v10 v11 : Value) :
    Blk ((((((((((((w.setCell ⟨g, 0, none⟩ v0).setCell ⟨g, 1, none⟩ v1).setCell ⟨g, 2, none⟩ v2).setCell ⟨g, 3, none⟩ v3).setCell ⟨g, 4, none⟩ v4).setCell ⟨g, 5, none⟩ v5).setCell ⟨g, 6, none⟩ v6).setCell ⟨g, 7, none⟩ v7).setCell ⟨g, 8, none⟩ v8).setCell ⟨g, 9, none⟩ v9).setCell ⟨g, 10, none⟩ v10).setCell ⟨g, 11, none⟩ v11) g t #[v0, v1, v2, v3, v4, v5, v6, v7, v8, v9, v10, v11] := by
  have hb := h.sets (fun i => (#[v0, v1, v2, v3, v4, v5, v6, v7, v8, v9, v10, v11] : Array Value).getD i undef) (List.range 12)
  rw [sets_eq _ _ 12 hs rfl] at hb
  exact hb
theorem setsL_at (vs : Nat → Value) : ∀ (l : List Nat) (cs : Array Value), (l.foldl (fun c i => c.setIfInBounds i (vs i)) cs).size = cs.size ∧ ∀ i, i < cs.size → (l.foldl (fun c i => c.setIfInBounds i (vs i)) cs)[i]? = if i ∈ l then some (vs i) else cs[i]?
  | [], cs => ⟨rfl, fun i hi => by simp⟩
  | j :: l, cs => by
    obtain ⟨h1, h2⟩ := setsL_at vs l (cs.setIfInBounds j (vs j))
    rw [Array.size_setIfInBounds] at h1 h2
    refine ⟨h1, fun i hi => ?_⟩
    rw [List.foldl_cons, h2 i hi]
    by_cases h : i ∈ l
    · rw [if_pos h, if_pos (List.mem_cons_of_mem _ h)]
    · rw [if_neg h]
      by_cases e : i = j
      · subst e
        rw [if_pos (by simp), Array.getElem?_setIfInBounds_self_of_lt hi]
      · rw [if_neg (by simp [e, h]), Array.getElem?_setIfInBounds_ne (Ne.symm e)]
theorem setsL_eq (cs vs : Array Value) (n : Nat) (l : List Nat) (h : cs.size = n) (k : vs.size = n) (hr : ∀ i, i < n → i ∉ l → cs[i]? = vs[i]?) : l.foldl (fun c i => c.setIfInBounds i (vs.getD i undef)) cs = vs := by
  obtain ⟨h1, h2⟩ := setsL_at (fun i => vs.getD i undef) l cs
  apply Array.ext_getElem?
  intro i
  by_cases hi : i < n
  · rw [h2 i (by omega)]
    by_cases hm : i ∈ l
    · rw [if_pos hm, Array.getElem?_eq_getElem (by omega), Array.getD_eq_getD_getElem?, Array.getElem?_eq_getElem (by omega)]
      rfl
    · rw [if_neg hm]; exact hr i hi hm
  · rw [Array.getElem?_eq_none (by omega), Array.getElem?_eq_none (by omega)]
theorem put12_mod {w0 w : World} {F : List Nat} {g : Nat} (h : Mod F w0 w) (hg : g ∈ F ∨ w0.heap.size ≤ g) (v0 v1 v2 v3 v4 v5 v6 v7 v8 v9 v10 v11 : Value) : Mod F w0 ((((((((((((w.setCell ⟨g, 0, none⟩ v0).setCell ⟨g, 1, none⟩ v1).setCell ⟨g, 2, none⟩ v2).setCell ⟨g, 3, none⟩ v3).setCell ⟨g, 4, none⟩ v4).setCell ⟨g, 5, none⟩ v5).setCell ⟨g, 6, none⟩ v6).setCell ⟨g, 7, none⟩ v7).setCell ⟨g, 8, none⟩ v8).setCell ⟨g, 9, none⟩ v9).setCell ⟨g, 10, none⟩ v10).setCell ⟨g, 11, none⟩ v11) := by
  have hb := h.sets hg (fun i => (#[v0, v1, v2, v3, v4, v5, v6, v7, v8, v9, v10, v11] : Array Value).getD i undef) (List.range 12)
  exact hb
set_option maxRecDepth 100000 in
set_option maxHeartbeats 4000000 in
theorem stlarge_any (w : World) (x : SAct) (hok : x.OK) (v : Bool) (hv : x.large = v) : Calls Tryz.prog 17 #[x.val] w fun e w' => e = .returned (.bool v) ∧ Mod [] w w' := by
  subst hv
  have HL : Hid (x.large = (decide (200 < x.text.size) || decide (200 < x.fr.f.data.size) || decide (10 < x.fr.f.list.length) || decide (100 < x.fr.f.more.size))) := hide rfl
  have HM := hide ((Mod.refl [] w).alloc (.cells #[.int .i64 x.kind, .int .i64 x.n, .int .u64 (x.id : Nat), .int .u64 (x.code : Nat), .string x.text, .bool x.fin, .int .u64 (x.fr.f.kind : Nat), .int .u64 (x.fr.f.a : Nat), .int .u64 (x.fr.f.b : Nat), .int .u64 (x.fr.f.c : Nat), .bool x.fr.f.fin, .string x.fr.f.data, .string x.fr.f.more, .slice x.fr.A x.fr.f.list.length x.fr.c, .int .u64 (x.lim.data : Int), .int .u64 (x.lim.bl : Int), .int .u64 (x.lim.br : Int), .int .u64 (x.lim.un : Int), .int .u64 (x.lim.bidis : Int), .int .u64 (x.lim.unis : Int)] 52))
  have hN := Blk.new w 52 #[.int .i64 x.kind, .int .i64 x.n, .int .u64 (x.id : Nat), .int .u64 (x.code : Nat), .string x.text, .bool x.fin, .int .u64 (x.fr.f.kind : Nat), .int .u64 (x.fr.f.a : Nat), .int .u64 (x.fr.f.b : Nat), .int .u64 (x.fr.f.c : Nat), .bool x.fr.f.fin, .string x.fr.f.data, .string x.fr.f.more, .slice x.fr.A x.fr.f.list.length x.fr.c, .int .u64 (x.lim.data : Int), .int .u64 (x.lim.bl : Int), .int .u64 (x.lim.br : Int), .int .u64 (x.lim.un : Int), .int .u64 (x.lim.bidis : Int), .int .u64 (x.lim.unis : Int)]
  obtain ⟨w1, hw1⟩ : ∃ w1, w.alloc (.cells #[.int .i64 x.kind, .int .i64 x.n, .int .u64 (x.id : Nat), .int .u64 (x.code : Nat), .string x.text, .bool x.fin, .int .u64 (x.fr.f.kind : Nat), .int .u64 (x.fr.f.a : Nat), .int .u64 (x.fr.f.b : Nat), .int .u64 (x.fr.f.c : Nat), .bool x.fr.f.fin, .string x.fr.f.data, .string x.fr.f.more, .slice x.fr.A x.fr.f.list.length x.fr.c, .int .u64 (x.lim.data : Int), .int .u64 (x.lim.bl : Int), .int .u64 (x.lim.br : Int), .int .u64 (x.lim.un : Int), .int .u64 (x.lim.bidis : Int), .int .u64 (x.lim.unis : Int)] 52) = w1 := ⟨_, rfl⟩
  rw [hw1] at HM hN
  have c4 : w1.cell? ⟨w.heap.size, 4, none⟩ = some (.string x.text) := hN.cell 4
  have c11 : w1.cell? ⟨w.heap.size, 11, none⟩ = some (.string x.fr.f.data) := hN.cell 11
  have c12 : w1.cell? ⟨w.heap.size, 12, none⟩ = some (.string x.fr.f.more) := hN.cell 12
  have c13 : w1.cell? ⟨w.heap.size, 13, none⟩ = some (.slice x.fr.A x.fr.f.list.length x.fr.c) := hN.cell 13
  clear hN
  unfold SAct.val
  by_cases h1 : 200 < x.text.size
  · have d1 : (x.text.size : Int) > 200 := by omega
    have HV : Hid (x.large = true) := hide (by rw [HL.out, decide_eq_true h1]; simp)
    clear h1
    go_enter Tryz.func17, Tryz.ntmps17
    go_wp2_with fail
    go_ret
    exact ⟨by rw [HV.out]; rfl, HM.out⟩
  have d1 : ¬ ((x.text.size : Int) > 200) := by omega
  by_cases h2 : 200 < x.fr.f.data.size
  · have d2 : (x.fr.f.data.size : Int) > 200 := by omega
    have HV : Hid (x.large = true) := hide (by rw [HL.out, decide_eq_true h2]; simp)
    clear h1 h2
    go_enter Tryz.func17, Tryz.ntmps17
    go_wp2_with fail
    go_ret
    exact ⟨by rw [HV.out]; rfl, HM.out⟩
  have d2 : ¬ ((x.fr.f.data.size : Int) > 200) := by omega
  by_cases h3 : 10 < x.fr.f.list.length
  · have d3 : (x.fr.f.list.length : Int) > 10 := by omega
    have HV : Hid (x.large = true) := hide (by rw [HL.out, decide_eq_true h3]; simp)
    clear h1 h2 h3
    go_enter Tryz.func17, Tryz.ntmps17
    go_wp2_with fail
    go_ret
    exact ⟨by rw [HV.out]; rfl, HM.out⟩
  have d3 : ¬ ((x.fr.f.list.length : Int) > 10) := by omega
  by_cases h4 : 100 < x.fr.f.more.size
  · have d4 : (x.fr.f.more.size : Int) > 100 := by omega
    have HV : Hid (x.large = true) := hide (by rw [HL.out, decide_eq_true h4]; simp)
    clear h1 h2 h3 h4
    go_enter Tryz.func17, Tryz.ntmps17
    go_wp2_with fail
    go_ret
    exact ⟨by rw [HV.out]; rfl, HM.out⟩
  have d4 : ¬ ((x.fr.f.more.size : Int) > 100) := by omega
  have HV : Hid (x.large = false) := hide (by rw [HL.out, decide_eq_false h1, decide_eq_false h2, decide_eq_false h3, decide_eq_false h4]; rfl)
  clear h1 h2 h3 h4
  go_enter Tryz.func17, Tryz.ntmps17
  go_wp2_with fail
  go_ret
  exact ⟨by rw [HV.out]; rfl, HM.out⟩
theorem beside_new' {w : World} {sb : Nat} {s : Ss} (h : SBox w sb s) : w.heap.size ∉ s.foot sb := fun hk => by have := h.foot_lt _ hk; omega
set_option maxRecDepth 100000 in
set_option maxHeartbeats 4000000 in
theorem own_play_open {K : Nat} {W w : World} {sb : Nat} {s : Ss} (h0 : Own K W w sb s) (hK : K ≤ 64000) (x : SAct) (hok : x.OK) (hlg : x.large = false) (hq0 : x.kind = 0) :
    Calls Tryz.prog 18 #[.pointer (some ⟨sb, 0, none⟩), x.val] w fun e w' => ∃ o s', e = .returned (.agg o.cells) ∧ s.Plays x o s' ∧ SStep w sb s s' w' ∧ Own (K + 200) W w' sb s' := by
  have hl := x.large_no hlg
  have hl1' := hl.1
  have hl2' := hl.2
  have hMB : Mod [] w (w.alloc (.cells #[.int .i64 x.kind, .int .i64 x.n, .int .u64 (x.id : Nat), .int .u64 (x.code : Nat), .string x.text, .bool x.fin, .int .u64 (x.fr.f.kind : Nat), .int .u64 (x.fr.f.a : Nat), .int .u64 (x.fr.f.b : Nat), .int .u64 (x.fr.f.c : Nat), .bool x.fr.f.fin, .string x.fr.f.data, .string x.fr.f.more, .slice x.fr.A x.fr.f.list.length x.fr.c, .int .u64 (x.lim.data : Int), .int .u64 (x.lim.bl : Int), .int .u64 (x.lim.br : Int), .int .u64 (x.lim.un : Int), .int .u64 (x.lim.bidis : Int), .int .u64 (x.lim.unis : Int)] 52)) := (Mod.refl [] w).alloc _
  have hNB := Blk.new w 52 #[.int .i64 x.kind, .int .i64 x.n, .int .u64 (x.id : Nat), .int .u64 (x.code : Nat), .string x.text, .bool x.fin, .int .u64 (x.fr.f.kind : Nat), .int .u64 (x.fr.f.a : Nat), .int .u64 (x.fr.f.b : Nat), .int .u64 (x.fr.f.c : Nat), .bool x.fr.f.fin, .string x.fr.f.data, .string x.fr.f.more, .slice x.fr.A x.fr.f.list.length x.fr.c, .int .u64 (x.lim.data : Int), .int .u64 (x.lim.bl : Int), .int .u64 (x.lim.br : Int), .int .u64 (x.lim.un : Int), .int .u64 (x.lim.bidis : Int), .int .u64 (x.lim.unis : Int)]
  obtain ⟨wB, hwB⟩ : ∃ wB, w.alloc (.cells #[.int .i64 x.kind, .int .i64 x.n, .int .u64 (x.id : Nat), .int .u64 (x.code : Nat), .string x.text, .bool x.fin, .int .u64 (x.fr.f.kind : Nat), .int .u64 (x.fr.f.a : Nat), .int .u64 (x.fr.f.b : Nat), .int .u64 (x.fr.f.c : Nat), .bool x.fr.f.fin, .string x.fr.f.data, .string x.fr.f.more, .slice x.fr.A x.fr.f.list.length x.fr.c, .int .u64 (x.lim.data : Int), .int .u64 (x.lim.bl : Int), .int .u64 (x.lim.br : Int), .int .u64 (x.lim.un : Int), .int .u64 (x.lim.bidis : Int), .int .u64 (x.lim.unis : Int)] 52) = wB := ⟨_, rfl⟩
  rw [hwB] at hMB hNB
  have hOB := h0.next hMB
  have HSB : Hid (SStep w sb s s wB) := hide (SStep.refl h0.box hMB)
  have HBB := hide hOB.box
  have hMC : Mod [] wB (wB.alloc (.cells #[.int .u64 0, .string ⟨#[]⟩, .bool false, .int .u64 0, .int .u64 0, .int .u64 0, .int .u64 0, .bool false, .string ⟨#[]⟩, .string ⟨#[]⟩, .slice none 0 0, .int .i64 0] 55)) := (Mod.refl [] wB).alloc _
  have hNC := Blk.new wB 55 #[.int .u64 0, .string ⟨#[]⟩, .bool false, .int .u64 0, .int .u64 0, .int .u64 0, .int .u64 0, .bool false, .string ⟨#[]⟩, .string ⟨#[]⟩, .slice none 0 0, .int .i64 0]
  have hnin := beside_new' hOB.box
  obtain ⟨tb, htb⟩ : ∃ tb, wB.heap.size = tb := ⟨_, rfl⟩
  have hSC := SStep.refl hOB.box hMC
  have hOC := hOB.next hMC
  have hXC := hMC.blk hNB (by simp)
  rw [htb] at hNC hnin
  have HT := hide hNC
  have HNin := hide hnin
  have HO := hide hOC
  have x0 : (wB.alloc (.cells #[.int .u64 0, .string ⟨#[]⟩, .bool false, .int .u64 0, .int .u64 0, .int .u64 0, .int .u64 0, .bool false, .string ⟨#[]⟩, .string ⟨#[]⟩, .slice none 0 0, .int .i64 0] 55)).cell? ⟨w.heap.size, 0, none⟩ = some (.int .i64 x.kind) := hXC.cell 0
  have x1 : (wB.alloc (.cells #[.int .u64 0, .string ⟨#[]⟩, .bool false, .int .u64 0, .int .u64 0, .int .u64 0, .int .u64 0, .bool false, .string ⟨#[]⟩, .string ⟨#[]⟩, .slice none 0 0, .int .i64 0] 55)).cell? ⟨w.heap.size, 1, none⟩ = some (.int .i64 x.n) := hXC.cell 1
  have x2 : (wB.alloc (.cells #[.int .u64 0, .string ⟨#[]⟩, .bool false, .int .u64 0, .int .u64 0, .int .u64 0, .int .u64 0, .bool false, .string ⟨#[]⟩, .string ⟨#[]⟩, .slice none 0 0, .int .i64 0] 55)).cell? ⟨w.heap.size, 2, none⟩ = some (.int .u64 (x.id : Nat)) := hXC.cell 2
  have x3 : (wB.alloc (.cells #[.int .u64 0, .string ⟨#[]⟩, .bool false, .int .u64 0, .int .u64 0, .int .u64 0, .int .u64 0, .bool false, .string ⟨#[]⟩, .string ⟨#[]⟩, .slice none 0 0, .int .i64 0] 55)).cell? ⟨w.heap.size, 3, none⟩ = some (.int .u64 (x.code : Nat)) := hXC.cell 3
  have x4 : (wB.alloc (.cells #[.int .u64 0, .string ⟨#[]⟩, .bool false, .int .u64 0, .int .u64 0, .int .u64 0, .int .u64 0, .bool false, .string ⟨#[]⟩, .string ⟨#[]⟩, .slice none 0 0, .int .i64 0] 55)).cell? ⟨w.heap.size, 4, none⟩ = some (.string x.text) := hXC.cell 4
  have x5 : (wB.alloc (.cells #[.int .u64 0, .string ⟨#[]⟩, .bool false, .int .u64 0, .int .u64 0, .int .u64 0, .int .u64 0, .bool false, .string ⟨#[]⟩, .string ⟨#[]⟩, .slice none 0 0, .int .i64 0] 55)).cell? ⟨w.heap.size, 5, none⟩ = some (.bool x.fin) := hXC.cell 5
  have x6 : (wB.alloc (.cells #[.int .u64 0, .string ⟨#[]⟩, .bool false, .int .u64 0, .int .u64 0, .int .u64 0, .int .u64 0, .bool false, .string ⟨#[]⟩, .string ⟨#[]⟩, .slice none 0 0, .int .i64 0] 55)).cell? ⟨w.heap.size, 6, none⟩ = some (.int .u64 (x.fr.f.kind : Nat)) := hXC.cell 6
  have x7 : (wB.alloc (.cells #[.int .u64 0, .string ⟨#[]⟩, .bool false, .int .u64 0, .int .u64 0, .int .u64 0, .int .u64 0, .bool false, .string ⟨#[]⟩, .string ⟨#[]⟩, .slice none 0 0, .int .i64 0] 55)).cell? ⟨w.heap.size, 7, none⟩ = some (.int .u64 (x.fr.f.a : Nat)) := hXC.cell 7
  have x8 : (wB.alloc (.cells #[.int .u64 0, .string ⟨#[]⟩, .bool false, .int .u64 0, .int .u64 0, .int .u64 0, .int .u64 0, .bool false, .string ⟨#[]⟩, .string ⟨#[]⟩, .slice none 0 0, .int .i64 0] 55)).cell? ⟨w.heap.size, 8, none⟩ = some (.int .u64 (x.fr.f.b : Nat)) := hXC.cell 8
  have x9 : (wB.alloc (.cells #[.int .u64 0, .string ⟨#[]⟩, .bool false, .int .u64 0, .int .u64 0, .int .u64 0, .int .u64 0, .bool false, .string ⟨#[]⟩, .string ⟨#[]⟩, .slice none 0 0, .int .i64 0] 55)).cell? ⟨w.heap.size, 9, none⟩ = some (.int .u64 (x.fr.f.c : Nat)) := hXC.cell 9
  have x10 : (wB.alloc (.cells #[.int .u64 0, .string ⟨#[]⟩, .bool false, .int .u64 0, .int .u64 0, .int .u64 0, .int .u64 0, .bool false, .string ⟨#[]⟩, .string ⟨#[]⟩, .slice none 0 0, .int .i64 0] 55)).cell? ⟨w.heap.size, 10, none⟩ = some (.bool x.fr.f.fin) := hXC.cell 10
  have x11 : (wB.alloc (.cells #[.int .u64 0, .string ⟨#[]⟩, .bool false, .int .u64 0, .int .u64 0, .int .u64 0, .int .u64 0, .bool false, .string ⟨#[]⟩, .string ⟨#[]⟩, .slice none 0 0, .int .i64 0] 55)).cell? ⟨w.heap.size, 11, none⟩ = some (.string x.fr.f.data) := hXC.cell 11
  have x12 : (wB.alloc (.cells #[.int .u64 0, .string ⟨#[]⟩, .bool false, .int .u64 0, .int .u64 0, .int .u64 0, .int .u64 0, .bool false, .string ⟨#[]⟩, .string ⟨#[]⟩, .slice none 0 0, .int .i64 0] 55)).cell? ⟨w.heap.size, 12, none⟩ = some (.string x.fr.f.more) := hXC.cell 12
  have x13 : (wB.alloc (.cells #[.int .u64 0, .string ⟨#[]⟩, .bool false, .int .u64 0, .int .u64 0, .int .u64 0, .int .u64 0, .bool false, .string ⟨#[]⟩, .string ⟨#[]⟩, .slice none 0 0, .int .i64 0] 55)).cell? ⟨w.heap.size, 13, none⟩ = some (.slice x.fr.A x.fr.f.list.length x.fr.c) := hXC.cell 13
  have x14 : (wB.alloc (.cells #[.int .u64 0, .string ⟨#[]⟩, .bool false, .int .u64 0, .int .u64 0, .int .u64 0, .int .u64 0, .bool false, .string ⟨#[]⟩, .string ⟨#[]⟩, .slice none 0 0, .int .i64 0] 55)).cell? ⟨w.heap.size, 14, none⟩ = some (.int .u64 (x.lim.data : Int)) := hXC.cell 14
  have x15 : (wB.alloc (.cells #[.int .u64 0, .string ⟨#[]⟩, .bool false, .int .u64 0, .int .u64 0, .int .u64 0, .int .u64 0, .bool false, .string ⟨#[]⟩, .string ⟨#[]⟩, .slice none 0 0, .int .i64 0] 55)).cell? ⟨w.heap.size, 15, none⟩ = some (.int .u64 (x.lim.bl : Int)) := hXC.cell 15
  have x16 : (wB.alloc (.cells #[.int .u64 0, .string ⟨#[]⟩, .bool false, .int .u64 0, .int .u64 0, .int .u64 0, .int .u64 0, .bool false, .string ⟨#[]⟩, .string ⟨#[]⟩, .slice none 0 0, .int .i64 0] 55)).cell? ⟨w.heap.size, 16, none⟩ = some (.int .u64 (x.lim.br : Int)) := hXC.cell 16
  have x17 : (wB.alloc (.cells #[.int .u64 0, .string ⟨#[]⟩, .bool false, .int .u64 0, .int .u64 0, .int .u64 0, .int .u64 0, .bool false, .string ⟨#[]⟩, .string ⟨#[]⟩, .slice none 0 0, .int .i64 0] 55)).cell? ⟨w.heap.size, 17, none⟩ = some (.int .u64 (x.lim.un : Int)) := hXC.cell 17
  have x18 : (wB.alloc (.cells #[.int .u64 0, .string ⟨#[]⟩, .bool false, .int .u64 0, .int .u64 0, .int .u64 0, .int .u64 0, .bool false, .string ⟨#[]⟩, .string ⟨#[]⟩, .slice none 0 0, .int .i64 0] 55)).cell? ⟨w.heap.size, 18, none⟩ = some (.int .u64 (x.lim.bidis : Int)) := hXC.cell 18
  have x19 : (wB.alloc (.cells #[.int .u64 0, .string ⟨#[]⟩, .bool false, .int .u64 0, .int .u64 0, .int .u64 0, .int .u64 0, .bool false, .string ⟨#[]⟩, .string ⟨#[]⟩, .slice none 0 0, .int .i64 0] 55)).cell? ⟨w.heap.size, 19, none⟩ = some (.int .u64 (x.lim.unis : Int)) := hXC.cell 19
  have hwl := hNB.lt
  clear hl hMB hNB hOB hMC hNC hnin hSC hOC hXC
  unfold SAct.val
  have HK := hide hq0
  have hk0 : (x.kind == 0) = true := by rw [HK.out]; rfl
  have hk1 : (x.kind == 1) = false := by rw [HK.out]; rfl
  have hk2 : (x.kind == 2) = false := by rw [HK.out]; rfl
  have hk3 : (x.kind == 3) = false := by rw [HK.out]; rfl
  have hk4 : (x.kind == 4) = false := by rw [HK.out]; rfl
  have hk5 : (x.kind == 5) = false := by rw [HK.out]; rfl
  have hk6 : (x.kind == 6) = false := by rw [HK.out]; rfl
  have hk7 : (x.kind == 7) = false := by rw [HK.out]; rfl
  have hk8 : (x.kind == 8) = false := by rw [HK.out]; rfl
  have hk9 : (x.kind == 9) = false := by rw [HK.out]; rfl
  have hct := own_open HO.out x.fin
  have HCt := hide hct
  clear hq0 hct
  go_enter Tryz.func18, Tryz.ntmps18
  go_wp2_with fail
  refine HCt.out.mono ?_
  rintro e w1 ⟨n, c, s', rfl, ho, hst, hO⟩
  have hT1 : Blk w1 tb 55 #[.int .u64 0, .string ⟨#[]⟩, .bool false, .int .u64 0, .int .u64 0, .int .u64 0, .int .u64 0, .bool false, .string ⟨#[]⟩, .string ⟨#[]⟩, .slice none 0 0, .int .i64 0] := hst.2.1.blk HT.out HNin.out
  have HHo := hide ho
  have HSt := hide hst
  have HOk := hide hO.ok
  have hT2 := ((hT1.set_ 0 (.int .u64 (n : Nat))).set_ 11 (.int .i64 (c : Nat)))
  have hM2 := (((Mod.refl [tb] w1).setCell (p := ⟨tb, 0, none⟩) (.inl (by simp)) (.int .u64 (n : Nat))).setCell (p := ⟨tb, 11, none⟩) (.inl (by simp)) (.int .i64 (c : Nat)))
  have g0 : w1.frozen? ⟨tb, 0, none⟩ = false := hT1.frozen 0
  have g1 : w1.frozen? ⟨tb, 1, none⟩ = false := hT1.frozen 1
  have g2 : w1.frozen? ⟨tb, 2, none⟩ = false := hT1.frozen 2
  have g3 : w1.frozen? ⟨tb, 3, none⟩ = false := hT1.frozen 3
  have g4 : w1.frozen? ⟨tb, 4, none⟩ = false := hT1.frozen 4
  have g5 : w1.frozen? ⟨tb, 5, none⟩ = false := hT1.frozen 5
  have g6 : w1.frozen? ⟨tb, 6, none⟩ = false := hT1.frozen 6
  have g7 : w1.frozen? ⟨tb, 7, none⟩ = false := hT1.frozen 7
  have g8 : w1.frozen? ⟨tb, 8, none⟩ = false := hT1.frozen 8
  have g9 : w1.frozen? ⟨tb, 9, none⟩ = false := hT1.frozen 9
  have g10 : w1.frozen? ⟨tb, 10, none⟩ = false := hT1.frozen 10
  have g11 : w1.frozen? ⟨tb, 11, none⟩ = false := hT1.frozen 11
  have a0 : w1.cell? ⟨tb, 0, none⟩ = some (.int .u64 0) := hT1.cell 0
  have a1 : w1.cell? ⟨tb, 1, none⟩ = some (.string ⟨#[]⟩) := hT1.cell 1
  have a2 : w1.cell? ⟨tb, 2, none⟩ = some (.bool false) := hT1.cell 2
  have a3 : w1.cell? ⟨tb, 3, none⟩ = some (.int .u64 0) := hT1.cell 3
  have a4 : w1.cell? ⟨tb, 4, none⟩ = some (.int .u64 0) := hT1.cell 4
  have a5 : w1.cell? ⟨tb, 5, none⟩ = some (.int .u64 0) := hT1.cell 5
  have a6 : w1.cell? ⟨tb, 6, none⟩ = some (.int .u64 0) := hT1.cell 6
  have a7 : w1.cell? ⟨tb, 7, none⟩ = some (.bool false) := hT1.cell 7
  have a8 : w1.cell? ⟨tb, 8, none⟩ = some (.string ⟨#[]⟩) := hT1.cell 8
  have a9 : w1.cell? ⟨tb, 9, none⟩ = some (.string ⟨#[]⟩) := hT1.cell 9
  have a10 : w1.cell? ⟨tb, 10, none⟩ = some (.slice none 0 0) := hT1.cell 10
  have a11 : w1.cell? ⟨tb, 11, none⟩ = some (.int .i64 0) := hT1.cell 11
  have hl1 := hT1.lt
  obtain ⟨w2, hw2⟩ : ∃ w2, ((w1.setCell ⟨tb, 0, none⟩ (.int .u64 (n : Nat))).setCell ⟨tb, 11, none⟩ (.int .i64 (c : Nat))) = w2 := ⟨_, rfl⟩
  rw [hw2] at hT2 hM2
  have HT2 : Hid (Blk w2 tb 55 #[.int .u64 (n : Nat), .string ⟨#[]⟩, .bool false, .int .u64 0, .int .u64 0, .int .u64 0, .int .u64 0, .bool false, .string ⟨#[]⟩, .string ⟨#[]⟩, .slice none 0 0, .int .i64 (c : Nat)]) := hide hT2
  have HM2 := hide hM2
  have hT2' := HT2.out
  have b0 : w2.cell? ⟨tb, 0, none⟩ = some (.int .u64 (n : Nat)) := hT2'.cell 0
  have b1 : w2.cell? ⟨tb, 1, none⟩ = some (.string ⟨#[]⟩) := hT2'.cell 1
  have b2 : w2.cell? ⟨tb, 2, none⟩ = some (.bool false) := hT2'.cell 2
  have b3 : w2.cell? ⟨tb, 3, none⟩ = some (.int .u64 0) := hT2'.cell 3
  have b4 : w2.cell? ⟨tb, 4, none⟩ = some (.int .u64 0) := hT2'.cell 4
  have b5 : w2.cell? ⟨tb, 5, none⟩ = some (.int .u64 0) := hT2'.cell 5
  have b6 : w2.cell? ⟨tb, 6, none⟩ = some (.int .u64 0) := hT2'.cell 6
  have b7 : w2.cell? ⟨tb, 7, none⟩ = some (.bool false) := hT2'.cell 7
  have b8 : w2.cell? ⟨tb, 8, none⟩ = some (.string ⟨#[]⟩) := hT2'.cell 8
  have b9 : w2.cell? ⟨tb, 9, none⟩ = some (.string ⟨#[]⟩) := hT2'.cell 9
  have b10 : w2.cell? ⟨tb, 10, none⟩ = some (.slice none 0 0) := hT2'.cell 10
  have b11 : w2.cell? ⟨tb, 11, none⟩ = some (.int .i64 (c : Nat)) := hT2'.cell 11
  have k0 : w2.frozen? ⟨tb, 0, none⟩ = false := hT2'.frozen 0
  have k1 : w2.frozen? ⟨tb, 1, none⟩ = false := hT2'.frozen 1
  have k2 : w2.frozen? ⟨tb, 2, none⟩ = false := hT2'.frozen 2
  have k3 : w2.frozen? ⟨tb, 3, none⟩ = false := hT2'.frozen 3
  have k4 : w2.frozen? ⟨tb, 4, none⟩ = false := hT2'.frozen 4
  have k5 : w2.frozen? ⟨tb, 5, none⟩ = false := hT2'.frozen 5
  have k6 : w2.frozen? ⟨tb, 6, none⟩ = false := hT2'.frozen 6
  have k7 : w2.frozen? ⟨tb, 7, none⟩ = false := hT2'.frozen 7
  have k8 : w2.frozen? ⟨tb, 8, none⟩ = false := hT2'.frozen 8
  have k9 : w2.frozen? ⟨tb, 9, none⟩ = false := hT2'.frozen 9
  have k10 : w2.frozen? ⟨tb, 10, none⟩ = false := hT2'.frozen 10
  have k11 : w2.frozen? ⟨tb, 11, none⟩ = false := hT2'.frozen 11
  have hl2 := hT2'.lt
  clear ho hst hO hT1 hT2 hT2' hM2
  go_wp2_with fail
  refine bodyPost_ret (results_cell_row rfl _ _ tb 55 (⟨n, ⟨#[]⟩, false, fr0, (c : Int)⟩ : Said).cells (0, 0) _ rfl ?_ Tryz.underlying55 rfl (by kernel_rfl)) rfl ?_
  · exact put12_blk HT2.out rfl _ _ _ _ _ _ _ _ _ _ _ _
  · refine ⟨⟨n, ⟨#[]⟩, false, fr0, (c : Int)⟩, _, rfl, .open_ HK.out n c s' HHo.out, ?_⟩
    exact own_key h0 (HSB.out.trans (SStep.besideOf htb HBB.out HSt.out (put12_mod (g := tb) HM2.out (.inl (List.mem_singleton.2 rfl)) _ _ _ _ _ _ _ _ _ _ _ _))) (HOk.out.mono (by omega))
set_option maxRecDepth 100000 in
set_option maxHeartbeats 4000000 in
theorem own_play_write {K : Nat} {W w : World} {sb : Nat} {s : Ss} (h0 : Own K W w sb s) (hK : K ≤ 64000) (x : SAct) (hok : x.OK) (hlg : x.large = false) (hq1 : x.kind = 1) :
    Calls Tryz.prog 18 #[.pointer (some ⟨sb, 0, none⟩), x.val] w fun e w' => ∃ o s', e = .returned (.agg o.cells) ∧ s.Plays x o s' ∧ SStep w sb s s' w' ∧ Own (K + 200) W w' sb s' := by
  have hl := x.large_no hlg
  have hl1' := hl.1
  have hl2' := hl.2
  have hMB : Mod [] w (w.alloc (.cells #[.int .i64 x.kind, .int .i64 x.n, .int .u64 (x.id : Nat), .int .u64 (x.code : Nat), .string x.text, .bool x.fin, .int .u64 (x.fr.f.kind : Nat), .int .u64 (x.fr.f.a : Nat), .int .u64 (x.fr.f.b : Nat), .int .u64 (x.fr.f.c : Nat), .bool x.fr.f.fin, .string x.fr.f.data, .string x.fr.f.more, .slice x.fr.A x.fr.f.list.length x.fr.c, .int .u64 (x.lim.data : Int), .int .u64 (x.lim.bl : Int), .int .u64 (x.lim.br : Int), .int .u64 (x.lim.un : Int), .int .u64 (x.lim.bidis : Int), .int .u64 (x.lim.unis : Int)] 52)) := (Mod.refl [] w).alloc _
  have hNB := Blk.new w 52 #[.int .i64 x.kind, .int .i64 x.n, .int .u64 (x.id : Nat), .int .u64 (x.code : Nat), .string x.text, .bool x.fin, .int .u64 (x.fr.f.kind : Nat), .int .u64 (x.fr.f.a : Nat), .int .u64 (x.fr.f.b : Nat), .int .u64 (x.fr.f.c : Nat), .bool x.fr.f.fin, .string x.fr.f.data, .string x.fr.f.more, .slice x.fr.A x.fr.f.list.length x.fr.c, .int .u64 (x.lim.data : Int), .int .u64 (x.lim.bl : Int), .int .u64 (x.lim.br : Int), .int .u64 (x.lim.un : Int), .int .u64 (x.lim.bidis : Int), .int .u64 (x.lim.unis : Int)]
  obtain ⟨wB, hwB⟩ : ∃ wB, w.alloc (.cells #[.int .i64 x.kind, .int .i64 x.n, .int .u64 (x.id : Nat), .int .u64 (x.code : Nat), .string x.text, .bool x.fin, .int .u64 (x.fr.f.kind : Nat), .int .u64 (x.fr.f.a : Nat), .int .u64 (x.fr.f.b : Nat), .int .u64 (x.fr.f.c : Nat), .bool x.fr.f.fin, .string x.fr.f.data, .string x.fr.f.more, .slice x.fr.A x.fr.f.list.length x.fr.c, .int .u64 (x.lim.data : Int), .int .u64 (x.lim.bl : Int), .int .u64 (x.lim.br : Int), .int .u64 (x.lim.un : Int), .int .u64 (x.lim.bidis : Int), .int .u64 (x.lim.unis : Int)] 52) = wB := ⟨_, rfl⟩
  rw [hwB] at hMB hNB
  have hOB := h0.next hMB
  have HSB : Hid (SStep w sb s s wB) := hide (SStep.refl h0.box hMB)
  have HBB := hide hOB.box
  have hMC : Mod [] wB (wB.alloc (.cells #[.int .u64 0, .string ⟨#[]⟩, .bool false, .int .u64 0, .int .u64 0, .int .u64 0, .int .u64 0, .bool false, .string ⟨#[]⟩, .string ⟨#[]⟩, .slice none 0 0, .int .i64 0] 55)) := (Mod.refl [] wB).alloc _
  have hNC := Blk.new wB 55 #[.int .u64 0, .string ⟨#[]⟩, .bool false, .int .u64 0, .int .u64 0, .int .u64 0, .int .u64 0, .bool false, .string ⟨#[]⟩, .string ⟨#[]⟩, .slice none 0 0, .int .i64 0]
  have hnin := beside_new' hOB.box
  obtain ⟨tb, htb⟩ : ∃ tb, wB.heap.size = tb := ⟨_, rfl⟩
  have hSC := SStep.refl hOB.box hMC
  have hOC := hOB.next hMC
  have hXC := hMC.blk hNB (by simp)
  rw [htb] at hNC hnin
  have HT := hide hNC
  have HNin := hide hnin
  have HO := hide hOC
  have x0 : (wB.alloc (.cells #[.int .u64 0, .string ⟨#[]⟩, .bool false, .int .u64 0, .int .u64 0, .int .u64 0, .int .u64 0, .bool false, .string ⟨#[]⟩, .string ⟨#[]⟩, .slice none 0 0, .int .i64 0] 55)).cell? ⟨w.heap.size, 0, none⟩ = some (.int .i64 x.kind) := hXC.cell 0
  have x1 : (wB.alloc (.cells #[.int .u64 0, .string ⟨#[]⟩, .bool false, .int .u64 0, .int .u64 0, .int .u64 0, .int .u64 0, .bool false, .string ⟨#[]⟩, .string ⟨#[]⟩, .slice none 0 0, .int .i64 0] 55)).cell? ⟨w.heap.size, 1, none⟩ = some (.int .i64 x.n) := hXC.cell 1
  have x2 : (wB.alloc (.cells #[.int .u64 0, .string ⟨#[]⟩, .bool false, .int .u64 0, .int .u64 0, .int .u64 0, .int .u64 0, .bool false, .string ⟨#[]⟩, .string ⟨#[]⟩, .slice none 0 0, .int .i64 0] 55)).cell? ⟨w.heap.size, 2, none⟩ = some (.int .u64 (x.id : Nat)) := hXC.cell 2
  have x3 : (wB.alloc (.cells #[.int .u64 0, .string ⟨#[]⟩, .bool false, .int .u64 0, .int .u64 0, .int .u64 0, .int .u64 0, .bool false, .string ⟨#[]⟩, .string ⟨#[]⟩, .slice none 0 0, .int .i64 0] 55)).cell? ⟨w.heap.size, 3, none⟩ = some (.int .u64 (x.code : Nat)) := hXC.cell 3
  have x4 : (wB.alloc (.cells #[.int .u64 0, .string ⟨#[]⟩, .bool false, .int .u64 0, .int .u64 0, .int .u64 0, .int .u64 0, .bool false, .string ⟨#[]⟩, .string ⟨#[]⟩, .slice none 0 0, .int .i64 0] 55)).cell? ⟨w.heap.size, 4, none⟩ = some (.string x.text) := hXC.cell 4
  have x5 : (wB.alloc (.cells #[.int .u64 0, .string ⟨#[]⟩, .bool false, .int .u64 0, .int .u64 0, .int .u64 0, .int .u64 0, .bool false, .string ⟨#[]⟩, .string ⟨#[]⟩, .slice none 0 0, .int .i64 0] 55)).cell? ⟨w.heap.size, 5, none⟩ = some (.bool x.fin) := hXC.cell 5
  have x6 : (wB.alloc (.cells #[.int .u64 0, .string ⟨#[]⟩, .bool false, .int .u64 0, .int .u64 0, .int .u64 0, .int .u64 0, .bool false, .string ⟨#[]⟩, .string ⟨#[]⟩, .slice none 0 0, .int .i64 0] 55)).cell? ⟨w.heap.size, 6, none⟩ = some (.int .u64 (x.fr.f.kind : Nat)) := hXC.cell 6
  have x7 : (wB.alloc (.cells #[.int .u64 0, .string ⟨#[]⟩, .bool false, .int .u64 0, .int .u64 0, .int .u64 0, .int .u64 0, .bool false, .string ⟨#[]⟩, .string ⟨#[]⟩, .slice none 0 0, .int .i64 0] 55)).cell? ⟨w.heap.size, 7, none⟩ = some (.int .u64 (x.fr.f.a : Nat)) := hXC.cell 7
  have x8 : (wB.alloc (.cells #[.int .u64 0, .string ⟨#[]⟩, .bool false, .int .u64 0, .int .u64 0, .int .u64 0, .int .u64 0, .bool false, .string ⟨#[]⟩, .string ⟨#[]⟩, .slice none 0 0, .int .i64 0] 55)).cell? ⟨w.heap.size, 8, none⟩ = some (.int .u64 (x.fr.f.b : Nat)) := hXC.cell 8
  have x9 : (wB.alloc (.cells #[.int .u64 0, .string ⟨#[]⟩, .bool false, .int .u64 0, .int .u64 0, .int .u64 0, .int .u64 0, .bool false, .string ⟨#[]⟩, .string ⟨#[]⟩, .slice none 0 0, .int .i64 0] 55)).cell? ⟨w.heap.size, 9, none⟩ = some (.int .u64 (x.fr.f.c : Nat)) := hXC.cell 9
  have x10 : (wB.alloc (.cells #[.int .u64 0, .string ⟨#[]⟩, .bool false, .int .u64 0, .int .u64 0, .int .u64 0, .int .u64 0, .bool false, .string ⟨#[]⟩, .string ⟨#[]⟩, .slice none 0 0, .int .i64 0] 55)).cell? ⟨w.heap.size, 10, none⟩ = some (.bool x.fr.f.fin) := hXC.cell 10
  have x11 : (wB.alloc (.cells #[.int .u64 0, .string ⟨#[]⟩, .bool false, .int .u64 0, .int .u64 0, .int .u64 0, .int .u64 0, .bool false, .string ⟨#[]⟩, .string ⟨#[]⟩, .slice none 0 0, .int .i64 0] 55)).cell? ⟨w.heap.size, 11, none⟩ = some (.string x.fr.f.data) := hXC.cell 11
  have x12 : (wB.alloc (.cells #[.int .u64 0, .string ⟨#[]⟩, .bool false, .int .u64 0, .int .u64 0, .int .u64 0, .int .u64 0, .bool false, .string ⟨#[]⟩, .string ⟨#[]⟩, .slice none 0 0, .int .i64 0] 55)).cell? ⟨w.heap.size, 12, none⟩ = some (.string x.fr.f.more) := hXC.cell 12
  have x13 : (wB.alloc (.cells #[.int .u64 0, .string ⟨#[]⟩, .bool false, .int .u64 0, .int .u64 0, .int .u64 0, .int .u64 0, .bool false, .string ⟨#[]⟩, .string ⟨#[]⟩, .slice none 0 0, .int .i64 0] 55)).cell? ⟨w.heap.size, 13, none⟩ = some (.slice x.fr.A x.fr.f.list.length x.fr.c) := hXC.cell 13
  have x14 : (wB.alloc (.cells #[.int .u64 0, .string ⟨#[]⟩, .bool false, .int .u64 0, .int .u64 0, .int .u64 0, .int .u64 0, .bool false, .string ⟨#[]⟩, .string ⟨#[]⟩, .slice none 0 0, .int .i64 0] 55)).cell? ⟨w.heap.size, 14, none⟩ = some (.int .u64 (x.lim.data : Int)) := hXC.cell 14
  have x15 : (wB.alloc (.cells #[.int .u64 0, .string ⟨#[]⟩, .bool false, .int .u64 0, .int .u64 0, .int .u64 0, .int .u64 0, .bool false, .string ⟨#[]⟩, .string ⟨#[]⟩, .slice none 0 0, .int .i64 0] 55)).cell? ⟨w.heap.size, 15, none⟩ = some (.int .u64 (x.lim.bl : Int)) := hXC.cell 15
  have x16 : (wB.alloc (.cells #[.int .u64 0, .string ⟨#[]⟩, .bool false, .int .u64 0, .int .u64 0, .int .u64 0, .int .u64 0, .bool false, .string ⟨#[]⟩, .string ⟨#[]⟩, .slice none 0 0, .int .i64 0] 55)).cell? ⟨w.heap.size, 16, none⟩ = some (.int .u64 (x.lim.br : Int)) := hXC.cell 16
  have x17 : (wB.alloc (.cells #[.int .u64 0, .string ⟨#[]⟩, .bool false, .int .u64 0, .int .u64 0, .int .u64 0, .int .u64 0, .bool false, .string ⟨#[]⟩, .string ⟨#[]⟩, .slice none 0 0, .int .i64 0] 55)).cell? ⟨w.heap.size, 17, none⟩ = some (.int .u64 (x.lim.un : Int)) := hXC.cell 17
  have x18 : (wB.alloc (.cells #[.int .u64 0, .string ⟨#[]⟩, .bool false, .int .u64 0, .int .u64 0, .int .u64 0, .int .u64 0, .bool false, .string ⟨#[]⟩, .string ⟨#[]⟩, .slice none 0 0, .int .i64 0] 55)).cell? ⟨w.heap.size, 18, none⟩ = some (.int .u64 (x.lim.bidis : Int)) := hXC.cell 18
  have x19 : (wB.alloc (.cells #[.int .u64 0, .string ⟨#[]⟩, .bool false, .int .u64 0, .int .u64 0, .int .u64 0, .int .u64 0, .bool false, .string ⟨#[]⟩, .string ⟨#[]⟩, .slice none 0 0, .int .i64 0] 55)).cell? ⟨w.heap.size, 19, none⟩ = some (.int .u64 (x.lim.unis : Int)) := hXC.cell 19
  have hwl := hNB.lt
  clear hl hMB hNB hOB hMC hNC hnin hSC hOC hXC
  unfold SAct.val
  have HK := hide hq1
  have hk0 : (x.kind == 0) = false := by rw [HK.out]; rfl
  have hk1 : (x.kind == 1) = true := by rw [HK.out]; rfl
  have hk2 : (x.kind == 2) = false := by rw [HK.out]; rfl
  have hk3 : (x.kind == 3) = false := by rw [HK.out]; rfl
  have hk4 : (x.kind == 4) = false := by rw [HK.out]; rfl
  have hk5 : (x.kind == 5) = false := by rw [HK.out]; rfl
  have hk6 : (x.kind == 6) = false := by rw [HK.out]; rfl
  have hk7 : (x.kind == 7) = false := by rw [HK.out]; rfl
  have hk8 : (x.kind == 8) = false := by rw [HK.out]; rfl
  have hk9 : (x.kind == 9) = false := by rw [HK.out]; rfl
  have hct := own_write HO.out x.id x.text (by omega) x.fin
  have HCt := hide hct
  clear hq1 hct
  go_enter Tryz.func18, Tryz.ntmps18
  go_wp2_with fail
  refine HCt.out.mono ?_
  rintro e w1 ⟨c, s', rfl, ho, hst, hO⟩
  have hT1 : Blk w1 tb 55 #[.int .u64 0, .string ⟨#[]⟩, .bool false, .int .u64 0, .int .u64 0, .int .u64 0, .int .u64 0, .bool false, .string ⟨#[]⟩, .string ⟨#[]⟩, .slice none 0 0, .int .i64 0] := hst.2.1.blk HT.out HNin.out
  have HHo := hide ho
  have HSt := hide hst
  have HOk := hide hO.ok
  have hT2 := (hT1.set_ 11 (.int .i64 c))
  have hM2 := ((Mod.refl [tb] w1).setCell (p := ⟨tb, 11, none⟩) (.inl (by simp)) (.int .i64 c))
  have g0 : w1.frozen? ⟨tb, 0, none⟩ = false := hT1.frozen 0
  have g1 : w1.frozen? ⟨tb, 1, none⟩ = false := hT1.frozen 1
  have g2 : w1.frozen? ⟨tb, 2, none⟩ = false := hT1.frozen 2
  have g3 : w1.frozen? ⟨tb, 3, none⟩ = false := hT1.frozen 3
  have g4 : w1.frozen? ⟨tb, 4, none⟩ = false := hT1.frozen 4
  have g5 : w1.frozen? ⟨tb, 5, none⟩ = false := hT1.frozen 5
  have g6 : w1.frozen? ⟨tb, 6, none⟩ = false := hT1.frozen 6
  have g7 : w1.frozen? ⟨tb, 7, none⟩ = false := hT1.frozen 7
  have g8 : w1.frozen? ⟨tb, 8, none⟩ = false := hT1.frozen 8
  have g9 : w1.frozen? ⟨tb, 9, none⟩ = false := hT1.frozen 9
  have g10 : w1.frozen? ⟨tb, 10, none⟩ = false := hT1.frozen 10
  have g11 : w1.frozen? ⟨tb, 11, none⟩ = false := hT1.frozen 11
  have a0 : w1.cell? ⟨tb, 0, none⟩ = some (.int .u64 0) := hT1.cell 0
  have a1 : w1.cell? ⟨tb, 1, none⟩ = some (.string ⟨#[]⟩) := hT1.cell 1
  have a2 : w1.cell? ⟨tb, 2, none⟩ = some (.bool false) := hT1.cell 2
  have a3 : w1.cell? ⟨tb, 3, none⟩ = some (.int .u64 0) := hT1.cell 3
  have a4 : w1.cell? ⟨tb, 4, none⟩ = some (.int .u64 0) := hT1.cell 4
  have a5 : w1.cell? ⟨tb, 5, none⟩ = some (.int .u64 0) := hT1.cell 5
  have a6 : w1.cell? ⟨tb, 6, none⟩ = some (.int .u64 0) := hT1.cell 6
  have a7 : w1.cell? ⟨tb, 7, none⟩ = some (.bool false) := hT1.cell 7
  have a8 : w1.cell? ⟨tb, 8, none⟩ = some (.string ⟨#[]⟩) := hT1.cell 8
  have a9 : w1.cell? ⟨tb, 9, none⟩ = some (.string ⟨#[]⟩) := hT1.cell 9
  have a10 : w1.cell? ⟨tb, 10, none⟩ = some (.slice none 0 0) := hT1.cell 10
  have a11 : w1.cell? ⟨tb, 11, none⟩ = some (.int .i64 0) := hT1.cell 11
  have hl1 := hT1.lt
  obtain ⟨w2, hw2⟩ : ∃ w2, (w1.setCell ⟨tb, 11, none⟩ (.int .i64 c)) = w2 := ⟨_, rfl⟩
  rw [hw2] at hT2 hM2
  have HT2 : Hid (Blk w2 tb 55 #[.int .u64 0, .string ⟨#[]⟩, .bool false, .int .u64 0, .int .u64 0, .int .u64 0, .int .u64 0, .bool false, .string ⟨#[]⟩, .string ⟨#[]⟩, .slice none 0 0, .int .i64 c]) := hide hT2
  have HM2 := hide hM2
  have hT2' := HT2.out
  have b0 : w2.cell? ⟨tb, 0, none⟩ = some (.int .u64 0) := hT2'.cell 0
  have b1 : w2.cell? ⟨tb, 1, none⟩ = some (.string ⟨#[]⟩) := hT2'.cell 1
  have b2 : w2.cell? ⟨tb, 2, none⟩ = some (.bool false) := hT2'.cell 2
  have b3 : w2.cell? ⟨tb, 3, none⟩ = some (.int .u64 0) := hT2'.cell 3
  have b4 : w2.cell? ⟨tb, 4, none⟩ = some (.int .u64 0) := hT2'.cell 4
  have b5 : w2.cell? ⟨tb, 5, none⟩ = some (.int .u64 0) := hT2'.cell 5
  have b6 : w2.cell? ⟨tb, 6, none⟩ = some (.int .u64 0) := hT2'.cell 6
  have b7 : w2.cell? ⟨tb, 7, none⟩ = some (.bool false) := hT2'.cell 7
  have b8 : w2.cell? ⟨tb, 8, none⟩ = some (.string ⟨#[]⟩) := hT2'.cell 8
  have b9 : w2.cell? ⟨tb, 9, none⟩ = some (.string ⟨#[]⟩) := hT2'.cell 9
  have b10 : w2.cell? ⟨tb, 10, none⟩ = some (.slice none 0 0) := hT2'.cell 10
  have b11 : w2.cell? ⟨tb, 11, none⟩ = some (.int .i64 c) := hT2'.cell 11
  have k0 : w2.frozen? ⟨tb, 0, none⟩ = false := hT2'.frozen 0
  have k1 : w2.frozen? ⟨tb, 1, none⟩ = false := hT2'.frozen 1
  have k2 : w2.frozen? ⟨tb, 2, none⟩ = false := hT2'.frozen 2
  have k3 : w2.frozen? ⟨tb, 3, none⟩ = false := hT2'.frozen 3
  have k4 : w2.frozen? ⟨tb, 4, none⟩ = false := hT2'.frozen 4
  have k5 : w2.frozen? ⟨tb, 5, none⟩ = false := hT2'.frozen 5
  have k6 : w2.frozen? ⟨tb, 6, none⟩ = false := hT2'.frozen 6
  have k7 : w2.frozen? ⟨tb, 7, none⟩ = false := hT2'.frozen 7
  have k8 : w2.frozen? ⟨tb, 8, none⟩ = false := hT2'.frozen 8
  have k9 : w2.frozen? ⟨tb, 9, none⟩ = false := hT2'.frozen 9
  have k10 : w2.frozen? ⟨tb, 10, none⟩ = false := hT2'.frozen 10
  have k11 : w2.frozen? ⟨tb, 11, none⟩ = false := hT2'.frozen 11
  have hl2 := hT2'.lt
  clear ho hst hO hT1 hT2 hT2' hM2
  go_wp2_with fail
  refine bodyPost_ret (results_cell_row rfl _ _ tb 55 (⟨0, ⟨#[]⟩, false, fr0, c⟩ : Said).cells (0, 0) _ rfl ?_ Tryz.underlying55 rfl (by kernel_rfl)) rfl ?_
  · exact put12_blk HT2.out rfl _ _ _ _ _ _ _ _ _ _ _ _
  · refine ⟨⟨0, ⟨#[]⟩, false, fr0, c⟩, _, rfl, .write HK.out c s' HHo.out, ?_⟩
    exact own_key h0 (HSB.out.trans (SStep.besideOf htb HBB.out HSt.out (put12_mod (g := tb) HM2.out (.inl (List.mem_singleton.2 rfl)) _ _ _ _ _ _ _ _ _ _ _ _))) (HOk.out.mono (by omega))
set_option maxRecDepth 100000 in
set_option maxHeartbeats 4000000 in
theorem own_play_read {K : Nat} {W w : World} {sb : Nat} {s : Ss} (h0 : Own K W w sb s) (hK : K ≤ 64000) (x : SAct) (hok : x.OK) (hlg : x.large = false) (hq2 : x.kind = 2) :
    Calls Tryz.prog 18 #[.pointer (some ⟨sb, 0, none⟩), x.val] w fun e w' => ∃ o s', e = .returned (.agg o.cells) ∧ s.Plays x o s' ∧ SStep w sb s s' w' ∧ Own (K + 200) W w' sb s' := by
  have hl := x.large_no hlg
  have hl1' := hl.1
  have hl2' := hl.2
  have hMB : Mod [] w (w.alloc (.cells #[.int .i64 x.kind, .int .i64 x.n, .int .u64 (x.id : Nat), .int .u64 (x.code : Nat), .string x.text, .bool x.fin, .int .u64 (x.fr.f.kind : Nat), .int .u64 (x.fr.f.a : Nat), .int .u64 (x.fr.f.b : Nat), .int .u64 (x.fr.f.c : Nat), .bool x.fr.f.fin, .string x.fr.f.data, .string x.fr.f.more, .slice x.fr.A x.fr.f.list.length x.fr.c, .int .u64 (x.lim.data : Int), .int .u64 (x.lim.bl : Int), .int .u64 (x.lim.br : Int), .int .u64 (x.lim.un : Int), .int .u64 (x.lim.bidis : Int), .int .u64 (x.lim.unis : Int)] 52)) := (Mod.refl [] w).alloc _
  have hNB := Blk.new w 52 #[.int .i64 x.kind, .int .i64 x.n, .int .u64 (x.id : Nat), .int .u64 (x.code : Nat), .string x.text, .bool x.fin, .int .u64 (x.fr.f.kind : Nat), .int .u64 (x.fr.f.a : Nat), .int .u64 (x.fr.f.b : Nat), .int .u64 (x.fr.f.c : Nat), .bool x.fr.f.fin, .string x.fr.f.data, .string x.fr.f.more, .slice x.fr.A x.fr.f.list.length x.fr.c, .int .u64 (x.lim.data : Int), .int .u64 (x.lim.bl : Int), .int .u64 (x.lim.br : Int), .int .u64 (x.lim.un : Int), .int .u64 (x.lim.bidis : Int), .int .u64 (x.lim.unis : Int)]
  obtain ⟨wB, hwB⟩ : ∃ wB, w.alloc (.cells #[.int .i64 x.kind, .int .i64 x.n, .int .u64 (x.id : Nat), .int .u64 (x.code : Nat), .string x.text, .bool x.fin, .int .u64 (x.fr.f.kind : Nat), .int .u64 (x.fr.f.a : Nat), .int .u64 (x.fr.f.b : Nat), .int .u64 (x.fr.f.c : Nat), .bool x.fr.f.fin, .string x.fr.f.data, .string x.fr.f.more, .slice x.fr.A x.fr.f.list.length x.fr.c, .int .u64 (x.lim.data : Int), .int .u64 (x.lim.bl : Int), .int .u64 (x.lim.br : Int), .int .u64 (x.lim.un : Int), .int .u64 (x.lim.bidis : Int), .int .u64 (x.lim.unis : Int)] 52) = wB := ⟨_, rfl⟩
  rw [hwB] at hMB hNB
  have hOB := h0.next hMB
  have HSB : Hid (SStep w sb s s wB) := hide (SStep.refl h0.box hMB)
  have HBB := hide hOB.box
  have hMC : Mod [] wB (wB.alloc (.cells #[.int .u64 0, .string ⟨#[]⟩, .bool false, .int .u64 0, .int .u64 0, .int .u64 0, .int .u64 0, .bool false, .string ⟨#[]⟩, .string ⟨#[]⟩, .slice none 0 0, .int .i64 0] 55)) := (Mod.refl [] wB).alloc _
  have hNC := Blk.new wB 55 #[.int .u64 0, .string ⟨#[]⟩, .bool false, .int .u64 0, .int .u64 0, .int .u64 0, .int .u64 0, .bool false, .string ⟨#[]⟩, .string ⟨#[]⟩, .slice none 0 0, .int .i64 0]
  have hnin := beside_new' hOB.box
  obtain ⟨tb, htb⟩ : ∃ tb, wB.heap.size = tb := ⟨_, rfl⟩
  have hSC := SStep.refl hOB.box hMC
  have hOC := hOB.next hMC
  have hXC := hMC.blk hNB (by simp)
  rw [htb] at hNC hnin
  have HT := hide hNC
  have HNin := hide hnin
  have HO := hide hOC
  have x0 : (wB.alloc (.cells #[.int .u64 0, .string ⟨#[]⟩, .bool false, .int .u64 0, .int .u64 0, .int .u64 0, .int .u64 0, .bool false, .string ⟨#[]⟩, .string ⟨#[]⟩, .slice none 0 0, .int .i64 0] 55)).cell? ⟨w.heap.size, 0, none⟩ = some (.int .i64 x.kind) := hXC.cell 0
  have x1 : (wB.alloc (.cells #[.int .u64 0, .string ⟨#[]⟩, .bool false, .int .u64 0, .int .u64 0, .int .u64 0, .int .u64 0, .bool false, .string ⟨#[]⟩, .string ⟨#[]⟩, .slice none 0 0, .int .i64 0] 55)).cell? ⟨w.heap.size, 1, none⟩ = some (.int .i64 x.n) := hXC.cell 1
  have x2 : (wB.alloc (.cells #[.int .u64 0, .string ⟨#[]⟩, .bool false, .int .u64 0, .int .u64 0, .int .u64 0, .int .u64 0, .bool false, .string ⟨#[]⟩, .string ⟨#[]⟩, .slice none 0 0, .int .i64 0] 55)).cell? ⟨w.heap.size, 2, none⟩ = some (.int .u64 (x.id : Nat)) := hXC.cell 2
  have x3 : (wB.alloc (.cells #[.int .u64 0, .string ⟨#[]⟩, .bool false, .int .u64 0, .int .u64 0, .int .u64 0, .int .u64 0, .bool false, .string ⟨#[]⟩, .string ⟨#[]⟩, .slice none 0 0, .int .i64 0] 55)).cell? ⟨w.heap.size, 3, none⟩ = some (.int .u64 (x.code : Nat)) := hXC.cell 3
  have x4 : (wB.alloc (.cells #[.int .u64 0, .string ⟨#[]⟩, .bool false, .int .u64 0, .int .u64 0, .int .u64 0, .int .u64 0, .bool false, .string ⟨#[]⟩, .string ⟨#[]⟩, .slice none 0 0, .int .i64 0] 55)).cell? ⟨w.heap.size, 4, none⟩ = some (.string x.text) := hXC.cell 4
  have x5 : (wB.alloc (.cells #[.int .u64 0, .string ⟨#[]⟩, .bool false, .int .u64 0, .int .u64 0, .int .u64 0, .int .u64 0, .bool false, .string ⟨#[]⟩, .string ⟨#[]⟩, .slice none 0 0, .int .i64 0] 55)).cell? ⟨w.heap.size, 5, none⟩ = some (.bool x.fin) := hXC.cell 5
  have x6 : (wB.alloc (.cells #[.int .u64 0, .string ⟨#[]⟩, .bool false, .int .u64 0, .int .u64 0, .int .u64 0, .int .u64 0, .bool false, .string ⟨#[]⟩, .string ⟨#[]⟩, .slice none 0 0, .int .i64 0] 55)).cell? ⟨w.heap.size, 6, none⟩ = some (.int .u64 (x.fr.f.kind : Nat)) := hXC.cell 6
  have x7 : (wB.alloc (.cells #[.int .u64 0, .string ⟨#[]⟩, .bool false, .int .u64 0, .int .u64 0, .int .u64 0, .int .u64 0, .bool false, .string ⟨#[]⟩, .string ⟨#[]⟩, .slice none 0 0, .int .i64 0] 55)).cell? ⟨w.heap.size, 7, none⟩ = some (.int .u64 (x.fr.f.a : Nat)) := hXC.cell 7
  have x8 : (wB.alloc (.cells #[.int .u64 0, .string ⟨#[]⟩, .bool false, .int .u64 0, .int .u64 0, .int .u64 0, .int .u64 0, .bool false, .string ⟨#[]⟩, .string ⟨#[]⟩, .slice none 0 0, .int .i64 0] 55)).cell? ⟨w.heap.size, 8, none⟩ = some (.int .u64 (x.fr.f.b : Nat)) := hXC.cell 8
  have x9 : (wB.alloc (.cells #[.int .u64 0, .string ⟨#[]⟩, .bool false, .int .u64 0, .int .u64 0, .int .u64 0, .int .u64 0, .bool false, .string ⟨#[]⟩, .string ⟨#[]⟩, .slice none 0 0, .int .i64 0] 55)).cell? ⟨w.heap.size, 9, none⟩ = some (.int .u64 (x.fr.f.c : Nat)) := hXC.cell 9
  have x10 : (wB.alloc (.cells #[.int .u64 0, .string ⟨#[]⟩, .bool false, .int .u64 0, .int .u64 0, .int .u64 0, .int .u64 0, .bool false, .string ⟨#[]⟩, .string ⟨#[]⟩, .slice none 0 0, .int .i64 0] 55)).cell? ⟨w.heap.size, 10, none⟩ = some (.bool x.fr.f.fin) := hXC.cell 10
  have x11 : (wB.alloc (.cells #[.int .u64 0, .string ⟨#[]⟩, .bool false, .int .u64 0, .int .u64 0, .int .u64 0, .int .u64 0, .bool false, .string ⟨#[]⟩, .string ⟨#[]⟩, .slice none 0 0, .int .i64 0] 55)).cell? ⟨w.heap.size, 11, none⟩ = some (.string x.fr.f.data) := hXC.cell 11
  have x12 : (wB.alloc (.cells #[.int .u64 0, .string ⟨#[]⟩, .bool false, .int .u64 0, .int .u64 0, .int .u64 0, .int .u64 0, .bool false, .string ⟨#[]⟩, .string ⟨#[]⟩, .slice none 0 0, .int .i64 0] 55)).cell? ⟨w.heap.size, 12, none⟩ = some (.string x.fr.f.more) := hXC.cell 12
  have x13 : (wB.alloc (.cells #[.int .u64 0, .string ⟨#[]⟩, .bool false, .int .u64 0, .int .u64 0, .int .u64 0, .int .u64 0, .bool false, .string ⟨#[]⟩, .string ⟨#[]⟩, .slice none 0 0, .int .i64 0] 55)).cell? ⟨w.heap.size, 13, none⟩ = some (.slice x.fr.A x.fr.f.list.length x.fr.c) := hXC.cell 13
  have x14 : (wB.alloc (.cells #[.int .u64 0, .string ⟨#[]⟩, .bool false, .int .u64 0, .int .u64 0, .int .u64 0, .int .u64 0, .bool false, .string ⟨#[]⟩, .string ⟨#[]⟩, .slice none 0 0, .int .i64 0] 55)).cell? ⟨w.heap.size, 14, none⟩ = some (.int .u64 (x.lim.data : Int)) := hXC.cell 14
  have x15 : (wB.alloc (.cells #[.int .u64 0, .string ⟨#[]⟩, .bool false, .int .u64 0, .int .u64 0, .int .u64 0, .int .u64 0, .bool false, .string ⟨#[]⟩, .string ⟨#[]⟩, .slice none 0 0, .int .i64 0] 55)).cell? ⟨w.heap.size, 15, none⟩ = some (.int .u64 (x.lim.bl : Int)) := hXC.cell 15
  have x16 : (wB.alloc (.cells #[.int .u64 0, .string ⟨#[]⟩, .bool false, .int .u64 0, .int .u64 0, .int .u64 0, .int .u64 0, .bool false, .string ⟨#[]⟩, .string ⟨#[]⟩, .slice none 0 0, .int .i64 0] 55)).cell? ⟨w.heap.size, 16, none⟩ = some (.int .u64 (x.lim.br : Int)) := hXC.cell 16
  have x17 : (wB.alloc (.cells #[.int .u64 0, .string ⟨#[]⟩, .bool false, .int .u64 0, .int .u64 0, .int .u64 0, .int .u64 0, .bool false, .string ⟨#[]⟩, .string ⟨#[]⟩, .slice none 0 0, .int .i64 0] 55)).cell? ⟨w.heap.size, 17, none⟩ = some (.int .u64 (x.lim.un : Int)) := hXC.cell 17
  have x18 : (wB.alloc (.cells #[.int .u64 0, .string ⟨#[]⟩, .bool false, .int .u64 0, .int .u64 0, .int .u64 0, .int .u64 0, .bool false, .string ⟨#[]⟩, .string ⟨#[]⟩, .slice none 0 0, .int .i64 0] 55)).cell? ⟨w.heap.size, 18, none⟩ = some (.int .u64 (x.lim.bidis : Int)) := hXC.cell 18
  have x19 : (wB.alloc (.cells #[.int .u64 0, .string ⟨#[]⟩, .bool false, .int .u64 0, .int .u64 0, .int .u64 0, .int .u64 0, .bool false, .string ⟨#[]⟩, .string ⟨#[]⟩, .slice none 0 0, .int .i64 0] 55)).cell? ⟨w.heap.size, 19, none⟩ = some (.int .u64 (x.lim.unis : Int)) := hXC.cell 19
  have hwl := hNB.lt
  clear hl hMB hNB hOB hMC hNC hnin hSC hOC hXC
  unfold SAct.val
  have HK := hide hq2
  have hk0 : (x.kind == 0) = false := by rw [HK.out]; rfl
  have hk1 : (x.kind == 1) = false := by rw [HK.out]; rfl
  have hk2 : (x.kind == 2) = true := by rw [HK.out]; rfl
  have hk3 : (x.kind == 3) = false := by rw [HK.out]; rfl
  have hk4 : (x.kind == 4) = false := by rw [HK.out]; rfl
  have hk5 : (x.kind == 5) = false := by rw [HK.out]; rfl
  have hk6 : (x.kind == 6) = false := by rw [HK.out]; rfl
  have hk7 : (x.kind == 7) = false := by rw [HK.out]; rfl
  have hk8 : (x.kind == 8) = false := by rw [HK.out]; rfl
  have hk9 : (x.kind == 9) = false := by rw [HK.out]; rfl
  have hct := own_read HO.out (by omega) x.id x.n
  have HCt := hide hct
  clear hq2 hct
  go_enter Tryz.func18, Tryz.ntmps18
  go_wp2_with fail
  refine HCt.out.mono ?_
  rintro e w1 ⟨tt, d, c, s', rfl, ho, hst, hO⟩
  have hT1 : Blk w1 tb 55 #[.int .u64 0, .string ⟨#[]⟩, .bool false, .int .u64 0, .int .u64 0, .int .u64 0, .int .u64 0, .bool false, .string ⟨#[]⟩, .string ⟨#[]⟩, .slice none 0 0, .int .i64 0] := hst.2.1.blk HT.out HNin.out
  have HHo := hide ho
  have HSt := hide hst
  have HOk := hide hO.ok
  have hT2 := (((hT1.set_ 1 (.string tt)).set_ 2 (.bool d)).set_ 11 (.int .i64 c))
  have hM2 := ((((Mod.refl [tb] w1).setCell (p := ⟨tb, 1, none⟩) (.inl (by simp)) (.string tt)).setCell (p := ⟨tb, 2, none⟩) (.inl (by simp)) (.bool d)).setCell (p := ⟨tb, 11, none⟩) (.inl (by simp)) (.int .i64 c))
  have g0 : w1.frozen? ⟨tb, 0, none⟩ = false := hT1.frozen 0
  have g1 : w1.frozen? ⟨tb, 1, none⟩ = false := hT1.frozen 1
  have g2 : w1.frozen? ⟨tb, 2, none⟩ = false := hT1.frozen 2
  have g3 : w1.frozen? ⟨tb, 3, none⟩ = false := hT1.frozen 3
  have g4 : w1.frozen? ⟨tb, 4, none⟩ = false := hT1.frozen 4
  have g5 : w1.frozen? ⟨tb, 5, none⟩ = false := hT1.frozen 5
  have g6 : w1.frozen? ⟨tb, 6, none⟩ = false := hT1.frozen 6
  have g7 : w1.frozen? ⟨tb, 7, none⟩ = false := hT1.frozen 7
  have g8 : w1.frozen? ⟨tb, 8, none⟩ = false := hT1.frozen 8
  have g9 : w1.frozen? ⟨tb, 9, none⟩ = false := hT1.frozen 9
  have g10 : w1.frozen? ⟨tb, 10, none⟩ = false := hT1.frozen 10
  have g11 : w1.frozen? ⟨tb, 11, none⟩ = false := hT1.frozen 11
  have a0 : w1.cell? ⟨tb, 0, none⟩ = some (.int .u64 0) := hT1.cell 0
  have a1 : w1.cell? ⟨tb, 1, none⟩ = some (.string ⟨#[]⟩) := hT1.cell 1
  have a2 : w1.cell? ⟨tb, 2, none⟩ = some (.bool false) := hT1.cell 2
  have a3 : w1.cell? ⟨tb, 3, none⟩ = some (.int .u64 0) := hT1.cell 3
  have a4 : w1.cell? ⟨tb, 4, none⟩ = some (.int .u64 0) := hT1.cell 4
  have a5 : w1.cell? ⟨tb, 5, none⟩ = some (.int .u64 0) := hT1.cell 5
  have a6 : w1.cell? ⟨tb, 6, none⟩ = some (.int .u64 0) := hT1.cell 6
  have a7 : w1.cell? ⟨tb, 7, none⟩ = some (.bool false) := hT1.cell 7
  have a8 : w1.cell? ⟨tb, 8, none⟩ = some (.string ⟨#[]⟩) := hT1.cell 8
  have a9 : w1.cell? ⟨tb, 9, none⟩ = some (.string ⟨#[]⟩) := hT1.cell 9
  have a10 : w1.cell? ⟨tb, 10, none⟩ = some (.slice none 0 0) := hT1.cell 10
  have a11 : w1.cell? ⟨tb, 11, none⟩ = some (.int .i64 0) := hT1.cell 11
  have hl1 := hT1.lt
  obtain ⟨w2, hw2⟩ : ∃ w2, (((w1.setCell ⟨tb, 1, none⟩ (.string tt)).setCell ⟨tb, 2, none⟩ (.bool d)).setCell ⟨tb, 11, none⟩ (.int .i64 c)) = w2 := ⟨_, rfl⟩
  rw [hw2] at hT2 hM2
  have HT2 : Hid (Blk w2 tb 55 #[.int .u64 0, .string tt, .bool d, .int .u64 0, .int .u64 0, .int .u64 0, .int .u64 0, .bool false, .string ⟨#[]⟩, .string ⟨#[]⟩, .slice none 0 0, .int .i64 c]) := hide hT2
  have HM2 := hide hM2
  have hT2' := HT2.out
  have b0 : w2.cell? ⟨tb, 0, none⟩ = some (.int .u64 0) := hT2'.cell 0
  have b1 : w2.cell? ⟨tb, 1, none⟩ = some (.string tt) := hT2'.cell 1
  have b2 : w2.cell? ⟨tb, 2, none⟩ = some (.bool d) := hT2'.cell 2
  have b3 : w2.cell? ⟨tb, 3, none⟩ = some (.int .u64 0) := hT2'.cell 3
  have b4 : w2.cell? ⟨tb, 4, none⟩ = some (.int .u64 0) := hT2'.cell 4
  have b5 : w2.cell? ⟨tb, 5, none⟩ = some (.int .u64 0) := hT2'.cell 5
  have b6 : w2.cell? ⟨tb, 6, none⟩ = some (.int .u64 0) := hT2'.cell 6
  have b7 : w2.cell? ⟨tb, 7, none⟩ = some (.bool false) := hT2'.cell 7
  have b8 : w2.cell? ⟨tb, 8, none⟩ = some (.string ⟨#[]⟩) := hT2'.cell 8
  have b9 : w2.cell? ⟨tb, 9, none⟩ = some (.string ⟨#[]⟩) := hT2'.cell 9
  have b10 : w2.cell? ⟨tb, 10, none⟩ = some (.slice none 0 0) := hT2'.cell 10
  have b11 : w2.cell? ⟨tb, 11, none⟩ = some (.int .i64 c) := hT2'.cell 11
  have k0 : w2.frozen? ⟨tb, 0, none⟩ = false := hT2'.frozen 0
  have k1 : w2.frozen? ⟨tb, 1, none⟩ = false := hT2'.frozen 1
  have k2 : w2.frozen? ⟨tb, 2, none⟩ = false := hT2'.frozen 2
  have k3 : w2.frozen? ⟨tb, 3, none⟩ = false := hT2'.frozen 3
  have k4 : w2.frozen? ⟨tb, 4, none⟩ = false := hT2'.frozen 4
  have k5 : w2.frozen? ⟨tb, 5, none⟩ = false := hT2'.frozen 5
  have k6 : w2.frozen? ⟨tb, 6, none⟩ = false := hT2'.frozen 6
  have k7 : w2.frozen? ⟨tb, 7, none⟩ = false := hT2'.frozen 7
  have k8 : w2.frozen? ⟨tb, 8, none⟩ = false := hT2'.frozen 8
  have k9 : w2.frozen? ⟨tb, 9, none⟩ = false := hT2'.frozen 9
  have k10 : w2.frozen? ⟨tb, 10, none⟩ = false := hT2'.frozen 10
  have k11 : w2.frozen? ⟨tb, 11, none⟩ = false := hT2'.frozen 11
  have hl2 := hT2'.lt
  clear ho hst hO hT1 hT2 hT2' hM2
  go_wp2_with fail
  refine bodyPost_ret (results_cell_row rfl _ _ tb 55 (⟨0, tt, d, fr0, c⟩ : Said).cells (0, 0) _ rfl ?_ Tryz.underlying55 rfl (by kernel_rfl)) rfl ?_
  · exact put12_blk HT2.out rfl _ _ _ _ _ _ _ _ _ _ _ _
  · refine ⟨⟨0, tt, d, fr0, c⟩, _, rfl, .read HK.out tt d c s' HHo.out, ?_⟩
    exact own_key h0 (HSB.out.trans (SStep.besideOf htb HBB.out HSt.out (put12_mod (g := tb) HM2.out (.inl (List.mem_singleton.2 rfl)) _ _ _ _ _ _ _ _ _ _ _ _))) (HOk.out.mono (by omega))
set_option maxRecDepth 100000 in
set_option maxHeartbeats 4000000 in
theorem own_play_reset {K : Nat} {W w : World} {sb : Nat} {s : Ss} (h0 : Own K W w sb s) (hK : K ≤ 64000) (x : SAct) (hok : x.OK) (hlg : x.large = false) (hq3 : x.kind = 3) :
    Calls Tryz.prog 18 #[.pointer (some ⟨sb, 0, none⟩), x.val] w fun e w' => ∃ o s', e = .returned (.agg o.cells) ∧ s.Plays x o s' ∧ SStep w sb s s' w' ∧ Own (K + 200) W w' sb s' := by
  have hl := x.large_no hlg
  have hl1' := hl.1
  have hl2' := hl.2
  have hMB : Mod [] w (w.alloc (.cells #[.int .i64 x.kind, .int .i64 x.n, .int .u64 (x.id : Nat), .int .u64 (x.code : Nat), .string x.text, .bool x.fin, .int .u64 (x.fr.f.kind : Nat), .int .u64 (x.fr.f.a : Nat), .int .u64 (x.fr.f.b : Nat), .int .u64 (x.fr.f.c : Nat), .bool x.fr.f.fin, .string x.fr.f.data, .string x.fr.f.more, .slice x.fr.A x.fr.f.list.length x.fr.c, .int .u64 (x.lim.data : Int), .int .u64 (x.lim.bl : Int), .int .u64 (x.lim.br : Int), .int .u64 (x.lim.un : Int), .int .u64 (x.lim.bidis : Int), .int .u64 (x.lim.unis : Int)] 52)) := (Mod.refl [] w).alloc _
  have hNB := Blk.new w 52 #[.int .i64 x.kind, .int .i64 x.n, .int .u64 (x.id : Nat), .int .u64 (x.code : Nat), .string x.text, .bool x.fin, .int .u64 (x.fr.f.kind : Nat), .int .u64 (x.fr.f.a : Nat), .int .u64 (x.fr.f.b : Nat), .int .u64 (x.fr.f.c : Nat), .bool x.fr.f.fin, .string x.fr.f.data, .string x.fr.f.more, .slice x.fr.A x.fr.f.list.length x.fr.c, .int .u64 (x.lim.data : Int), .int .u64 (x.lim.bl : Int), .int .u64 (x.lim.br : Int), .int .u64 (x.lim.un : Int), .int .u64 (x.lim.bidis : Int), .int .u64 (x.lim.unis : Int)]
  obtain ⟨wB, hwB⟩ : ∃ wB, w.alloc (.cells #[.int .i64 x.kind, .int .i64 x.n, .int .u64 (x.id : Nat), .int .u64 (x.code : Nat), .string x.text, .bool x.fin, .int .u64 (x.fr.f.kind : Nat), .int .u64 (x.fr.f.a : Nat), .int .u64 (x.fr.f.b : Nat), .int .u64 (x.fr.f.c : Nat), .bool x.fr.f.fin, .string x.fr.f.data, .string x.fr.f.more, .slice x.fr.A x.fr.f.list.length x.fr.c, .int .u64 (x.lim.data : Int), .int .u64 (x.lim.bl : Int), .int .u64 (x.lim.br : Int), .int .u64 (x.lim.un : Int), .int .u64 (x.lim.bidis : Int), .int .u64 (x.lim.unis : Int)] 52) = wB := ⟨_, rfl⟩
  rw [hwB] at hMB hNB
  have hOB := h0.next hMB
  have HSB : Hid (SStep w sb s s wB) := hide (SStep.refl h0.box hMB)
  have HBB := hide hOB.box
  have hMC : Mod [] wB (wB.alloc (.cells #[.int .u64 0, .string ⟨#[]⟩, .bool false, .int .u64 0, .int .u64 0, .int .u64 0, .int .u64 0, .bool false, .string ⟨#[]⟩, .string ⟨#[]⟩, .slice none 0 0, .int .i64 0] 55)) := (Mod.refl [] wB).alloc _
  have hNC := Blk.new wB 55 #[.int .u64 0, .string ⟨#[]⟩, .bool false, .int .u64 0, .int .u64 0, .int .u64 0, .int .u64 0, .bool false, .string ⟨#[]⟩, .string ⟨#[]⟩, .slice none 0 0, .int .i64 0]
  have hnin := beside_new' hOB.box
  obtain ⟨tb, htb⟩ : ∃ tb, wB.heap.size = tb := ⟨_, rfl⟩
  have hSC := SStep.refl hOB.box hMC
  have hOC := hOB.next hMC
  have hXC := hMC.blk hNB (by simp)
  rw [htb] at hNC hnin
  have HT := hide hNC
  have HNin := hide hnin
  have HO := hide hOC
  have x0 : (wB.alloc (.cells #[.int .u64 0, .string ⟨#[]⟩, .bool false, .int .u64 0, .int .u64 0, .int .u64 0, .int .u64 0, .bool false, .string ⟨#[]⟩, .string ⟨#[]⟩, .slice none 0 0, .int .i64 0] 55)).cell? ⟨w.heap.size, 0, none⟩ = some (.int .i64 x.kind) := hXC.cell 0
  have x1 : (wB.alloc (.cells #[.int .u64 0, .string ⟨#[]⟩, .bool false, .int .u64 0, .int .u64 0, .int .u64 0, .int .u64 0, .bool false, .string ⟨#[]⟩, .string ⟨#[]⟩, .slice none 0 0, .int .i64 0] 55)).cell? ⟨w.heap.size, 1, none⟩ = some (.int .i64 x.n) := hXC.cell 1
  have x2 : (wB.alloc (.cells #[.int .u64 0, .string ⟨#[]⟩, .bool false, .int .u64 0, .int .u64 0, .int .u64 0, .int .u64 0, .bool false, .string ⟨#[]⟩, .string ⟨#[]⟩, .slice none 0 0, .int .i64 0] 55)).cell? ⟨w.heap.size, 2, none⟩ = some (.int .u64 (x.id : Nat)) := hXC.cell 2
  have x3 : (wB.alloc (.cells #[.int .u64 0, .string ⟨#[]⟩, .bool false, .int .u64 0, .int .u64 0, .int .u64 0, .int .u64 0, .bool false, .string ⟨#[]⟩, .string ⟨#[]⟩, .slice none 0 0, .int .i64 0] 55)).cell? ⟨w.heap.size, 3, none⟩ = some (.int .u64 (x.code : Nat)) := hXC.cell 3
  have x4 : (wB.alloc (.cells #[.int .u64 0, .string ⟨#[]⟩, .bool false, .int .u64 0, .int .u64 0, .int .u64 0, .int .u64 0, .bool false, .string ⟨#[]⟩, .string ⟨#[]⟩, .slice none 0 0, .int .i64 0] 55)).cell? ⟨w.heap.size, 4, none⟩ = some (.string x.text) := hXC.cell 4
  have x5 : (wB.alloc (.cells #[.int .u64 0, .string ⟨#[]⟩, .bool false, .int .u64 0, .int .u64 0, .int .u64 0, .int .u64 0, .bool false, .string ⟨#[]⟩, .string ⟨#[]⟩, .slice none 0 0, .int .i64 0] 55)).cell? ⟨w.heap.size, 5, none⟩ = some (.bool x.fin) := hXC.cell 5
  have x6 : (wB.alloc (.cells #[.int .u64 0, .string ⟨#[]⟩, .bool false, .int .u64 0, .int .u64 0, .int .u64 0, .int .u64 0, .bool false, .string ⟨#[]⟩, .string ⟨#[]⟩, .slice none 0 0, .int .i64 0] 55)).cell? ⟨w.heap.size, 6, none⟩ = some (.int .u64 (x.fr.f.kind : Nat)) := hXC.cell 6
  have x7 : (wB.alloc (.cells #[.int .u64 0, .string ⟨#[]⟩, .bool false, .int .u64 0, .int .u64 0, .int .u64 0, .int .u64 0, .bool false, .string ⟨#[]⟩, .string ⟨#[]⟩, .slice none 0 0, .int .i64 0] 55)).cell? ⟨w.heap.size, 7, none⟩ = some (.int .u64 (x.fr.f.a : Nat)) := hXC.cell 7
  have x8 : (wB.alloc (.cells #[.int .u64 0, .string ⟨#[]⟩, .bool false, .int .u64 0, .int .u64 0, .int .u64 0, .int .u64 0, .bool false, .string ⟨#[]⟩, .string ⟨#[]⟩, .slice none 0 0, .int .i64 0] 55)).cell? ⟨w.heap.size, 8, none⟩ = some (.int .u64 (x.fr.f.b : Nat)) := hXC.cell 8
  have x9 : (wB.alloc (.cells #[.int .u64 0, .string ⟨#[]⟩, .bool false, .int .u64 0, .int .u64 0, .int .u64 0, .int .u64 0, .bool false, .string ⟨#[]⟩, .string ⟨#[]⟩, .slice none 0 0, .int .i64 0] 55)).cell? ⟨w.heap.size, 9, none⟩ = some (.int .u64 (x.fr.f.c : Nat)) := hXC.cell 9
  have x10 : (wB.alloc (.cells #[.int .u64 0, .string ⟨#[]⟩, .bool false, .int .u64 0, .int .u64 0, .int .u64 0, .int .u64 0, .bool false, .string ⟨#[]⟩, .string ⟨#[]⟩, .slice none 0 0, .int .i64 0] 55)).cell? ⟨w.heap.size, 10, none⟩ = some (.bool x.fr.f.fin) := hXC.cell 10
  have x11 : (wB.alloc (.cells #[.int .u64 0, .string ⟨#[]⟩, .bool false, .int .u64 0, .int .u64 0, .int .u64 0, .int .u64 0, .bool false, .string ⟨#[]⟩, .string ⟨#[]⟩, .slice none 0 0, .int .i64 0] 55)).cell? ⟨w.heap.size, 11, none⟩ = some (.string x.fr.f.data) := hXC.cell 11
  have x12 : (wB.alloc (.cells #[.int .u64 0, .string ⟨#[]⟩, .bool false, .int .u64 0, .int .u64 0, .int .u64 0, .int .u64 0, .bool false, .string ⟨#[]⟩, .string ⟨#[]⟩, .slice none 0 0, .int .i64 0] 55)).cell? ⟨w.heap.size, 12, none⟩ = some (.string x.fr.f.more) := hXC.cell 12
  have x13 : (wB.alloc (.cells #[.int .u64 0, .string ⟨#[]⟩, .bool false, .int .u64 0, .int .u64 0, .int .u64 0, .int .u64 0, .bool false, .string ⟨#[]⟩, .string ⟨#[]⟩, .slice none 0 0, .int .i64 0] 55)).cell? ⟨w.heap.size, 13, none⟩ = some (.slice x.fr.A x.fr.f.list.length x.fr.c) := hXC.cell 13
  have x14 : (wB.alloc (.cells #[.int .u64 0, .string ⟨#[]⟩, .bool false, .int .u64 0, .int .u64 0, .int .u64 0, .int .u64 0, .bool false, .string ⟨#[]⟩, .string ⟨#[]⟩, .slice none 0 0, .int .i64 0] 55)).cell? ⟨w.heap.size, 14, none⟩ = some (.int .u64 (x.lim.data : Int)) := hXC.cell 14
  have x15 : (wB.alloc (.cells #[.int .u64 0, .string ⟨#[]⟩, .bool false, .int .u64 0, .int .u64 0, .int .u64 0, .int .u64 0, .bool false, .string ⟨#[]⟩, .string ⟨#[]⟩, .slice none 0 0, .int .i64 0] 55)).cell? ⟨w.heap.size, 15, none⟩ = some (.int .u64 (x.lim.bl : Int)) := hXC.cell 15
  have x16 : (wB.alloc (.cells #[.int .u64 0, .string ⟨#[]⟩, .bool false, .int .u64 0, .int .u64 0, .int .u64 0, .int .u64 0, .bool false, .string ⟨#[]⟩, .string ⟨#[]⟩, .slice none 0 0, .int .i64 0] 55)).cell? ⟨w.heap.size, 16, none⟩ = some (.int .u64 (x.lim.br : Int)) := hXC.cell 16
  have x17 : (wB.alloc (.cells #[.int .u64 0, .string ⟨#[]⟩, .bool false, .int .u64 0, .int .u64 0, .int .u64 0, .int .u64 0, .bool false, .string ⟨#[]⟩, .string ⟨#[]⟩, .slice none 0 0, .int .i64 0] 55)).cell? ⟨w.heap.size, 17, none⟩ = some (.int .u64 (x.lim.un : Int)) := hXC.cell 17
  have x18 : (wB.alloc (.cells #[.int .u64 0, .string ⟨#[]⟩, .bool false, .int .u64 0, .int .u64 0, .int .u64 0, .int .u64 0, .bool false, .string ⟨#[]⟩, .string ⟨#[]⟩, .slice none 0 0, .int .i64 0] 55)).cell? ⟨w.heap.size, 18, none⟩ = some (.int .u64 (x.lim.bidis : Int)) := hXC.cell 18
  have x19 : (wB.alloc (.cells #[.int .u64 0, .string ⟨#[]⟩, .bool false, .int .u64 0, .int .u64 0, .int .u64 0, .int .u64 0, .bool false, .string ⟨#[]⟩, .string ⟨#[]⟩, .slice none 0 0, .int .i64 0] 55)).cell? ⟨w.heap.size, 19, none⟩ = some (.int .u64 (x.lim.unis : Int)) := hXC.cell 19
  have hwl := hNB.lt
  clear hl hMB hNB hOB hMC hNC hnin hSC hOC hXC
  unfold SAct.val
  have HK := hide hq3
  have hk0 : (x.kind == 0) = false := by rw [HK.out]; rfl
  have hk1 : (x.kind == 1) = false := by rw [HK.out]; rfl
  have hk2 : (x.kind == 2) = false := by rw [HK.out]; rfl
  have hk3 : (x.kind == 3) = true := by rw [HK.out]; rfl
  have hk4 : (x.kind == 4) = false := by rw [HK.out]; rfl
  have hk5 : (x.kind == 5) = false := by rw [HK.out]; rfl
  have hk6 : (x.kind == 6) = false := by rw [HK.out]; rfl
  have hk7 : (x.kind == 7) = false := by rw [HK.out]; rfl
  have hk8 : (x.kind == 8) = false := by rw [HK.out]; rfl
  have hk9 : (x.kind == 9) = false := by rw [HK.out]; rfl
  have hct := own_reset HO.out x.id x.code
  have HCt := hide hct
  clear hq3 hct
  go_enter Tryz.func18, Tryz.ntmps18
  go_wp2_with fail
  refine HCt.out.mono ?_
  rintro e w1 ⟨c, s', rfl, ho, hst, hO⟩
  have hT1 : Blk w1 tb 55 #[.int .u64 0, .string ⟨#[]⟩, .bool false, .int .u64 0, .int .u64 0, .int .u64 0, .int .u64 0, .bool false, .string ⟨#[]⟩, .string ⟨#[]⟩, .slice none 0 0, .int .i64 0] := hst.2.1.blk HT.out HNin.out
  have HHo := hide ho
  have HSt := hide hst
  have HOk := hide hO.ok
  have hT2 := (hT1.set_ 11 (.int .i64 c))
  have hM2 := ((Mod.refl [tb] w1).setCell (p := ⟨tb, 11, none⟩) (.inl (by simp)) (.int .i64 c))
  have g0 : w1.frozen? ⟨tb, 0, none⟩ = false := hT1.frozen 0
  have g1 : w1.frozen? ⟨tb, 1, none⟩ = false := hT1.frozen 1
  have g2 : w1.frozen? ⟨tb, 2, none⟩ = false := hT1.frozen 2
  have g3 : w1.frozen? ⟨tb, 3, none⟩ = false := hT1.frozen 3
  have g4 : w1.frozen? ⟨tb, 4, none⟩ = false := hT1.frozen 4
  have g5 : w1.frozen? ⟨tb, 5, none⟩ = false := hT1.frozen 5
  have g6 : w1.frozen? ⟨tb, 6, none⟩ = false := hT1.frozen 6
  have g7 : w1.frozen? ⟨tb, 7, none⟩ = false := hT1.frozen 7
  have g8 : w1.frozen? ⟨tb, 8, none⟩ = false := hT1.frozen 8
  have g9 : w1.frozen? ⟨tb, 9, none⟩ = false := hT1.frozen 9
  have g10 : w1.frozen? ⟨tb, 10, none⟩ = false := hT1.frozen 10
  have g11 : w1.frozen? ⟨tb, 11, none⟩ = false := hT1.frozen 11
  have a0 : w1.cell? ⟨tb, 0, none⟩ = some (.int .u64 0) := hT1.cell 0
  have a1 : w1.cell? ⟨tb, 1, none⟩ = some (.string ⟨#[]⟩) := hT1.cell 1
  have a2 : w1.cell? ⟨tb, 2, none⟩ = some (.bool false) := hT1.cell 2
  have a3 : w1.cell? ⟨tb, 3, none⟩ = some (.int .u64 0) := hT1.cell 3
  have a4 : w1.cell? ⟨tb, 4, none⟩ = some (.int .u64 0) := hT1.cell 4
  have a5 : w1.cell? ⟨tb, 5, none⟩ = some (.int .u64 0) := hT1.cell 5
  have a6 : w1.cell? ⟨tb, 6, none⟩ = some (.int .u64 0) := hT1.cell 6
  have a7 : w1.cell? ⟨tb, 7, none⟩ = some (.bool false) := hT1.cell 7
  have a8 : w1.cell? ⟨tb, 8, none⟩ = some (.string ⟨#[]⟩) := hT1.cell 8
  have a9 : w1.cell? ⟨tb, 9, none⟩ = some (.string ⟨#[]⟩) := hT1.cell 9
  have a10 : w1.cell? ⟨tb, 10, none⟩ = some (.slice none 0 0) := hT1.cell 10
  have a11 : w1.cell? ⟨tb, 11, none⟩ = some (.int .i64 0) := hT1.cell 11
  have hl1 := hT1.lt
  obtain ⟨w2, hw2⟩ : ∃ w2, (w1.setCell ⟨tb, 11, none⟩ (.int .i64 c)) = w2 := ⟨_, rfl⟩
  rw [hw2] at hT2 hM2
  have HT2 : Hid (Blk w2 tb 55 #[.int .u64 0, .string ⟨#[]⟩, .bool false, .int .u64 0, .int .u64 0, .int .u64 0, .int .u64 0, .bool false, .string ⟨#[]⟩, .string ⟨#[]⟩, .slice none 0 0, .int .i64 c]) := hide hT2
  have HM2 := hide hM2
  have hT2' := HT2.out
  have b0 : w2.cell? ⟨tb, 0, none⟩ = some (.int .u64 0) := hT2'.cell 0
  have b1 : w2.cell? ⟨tb, 1, none⟩ = some (.string ⟨#[]⟩) := hT2'.cell 1
  have b2 : w2.cell? ⟨tb, 2, none⟩ = some (.bool false) := hT2'.cell 2
  have b3 : w2.cell? ⟨tb, 3, none⟩ = some (.int .u64 0) := hT2'.cell 3
  have b4 : w2.cell? ⟨tb, 4, none⟩ = some (.int .u64 0) := hT2'.cell 4
  have b5 : w2.cell? ⟨tb, 5, none⟩ = some (.int .u64 0) := hT2'.cell 5
  have b6 : w2.cell? ⟨tb, 6, none⟩ = some (.int .u64 0) := hT2'.cell 6
  have b7 : w2.cell? ⟨tb, 7, none⟩ = some (.bool false) := hT2'.cell 7
  have b8 : w2.cell? ⟨tb, 8, none⟩ = some (.string ⟨#[]⟩) := hT2'.cell 8
  have b9 : w2.cell? ⟨tb, 9, none⟩ = some (.string ⟨#[]⟩) := hT2'.cell 9
  have b10 : w2.cell? ⟨tb, 10, none⟩ = some (.slice none 0 0) := hT2'.cell 10
  have b11 : w2.cell? ⟨tb, 11, none⟩ = some (.int .i64 c) := hT2'.cell 11
  have k0 : w2.frozen? ⟨tb, 0, none⟩ = false := hT2'.frozen 0
  have k1 : w2.frozen? ⟨tb, 1, none⟩ = false := hT2'.frozen 1
  have k2 : w2.frozen? ⟨tb, 2, none⟩ = false := hT2'.frozen 2
  have k3 : w2.frozen? ⟨tb, 3, none⟩ = false := hT2'.frozen 3
  have k4 : w2.frozen? ⟨tb, 4, none⟩ = false := hT2'.frozen 4
  have k5 : w2.frozen? ⟨tb, 5, none⟩ = false := hT2'.frozen 5
  have k6 : w2.frozen? ⟨tb, 6, none⟩ = false := hT2'.frozen 6
  have k7 : w2.frozen? ⟨tb, 7, none⟩ = false := hT2'.frozen 7
  have k8 : w2.frozen? ⟨tb, 8, none⟩ = false := hT2'.frozen 8
  have k9 : w2.frozen? ⟨tb, 9, none⟩ = false := hT2'.frozen 9
  have k10 : w2.frozen? ⟨tb, 10, none⟩ = false := hT2'.frozen 10
  have k11 : w2.frozen? ⟨tb, 11, none⟩ = false := hT2'.frozen 11
  have hl2 := hT2'.lt
  clear ho hst hO hT1 hT2 hT2' hM2
  go_wp2_with fail
  refine bodyPost_ret (results_cell_row rfl _ _ tb 55 (⟨0, ⟨#[]⟩, false, fr0, c⟩ : Said).cells (0, 0) _ rfl ?_ Tryz.underlying55 rfl (by kernel_rfl)) rfl ?_
  · exact put12_blk HT2.out rfl _ _ _ _ _ _ _ _ _ _ _ _
  · refine ⟨⟨0, ⟨#[]⟩, false, fr0, c⟩, _, rfl, .reset HK.out c s' HHo.out, ?_⟩
    exact own_key h0 (HSB.out.trans (SStep.besideOf htb HBB.out HSt.out (put12_mod (g := tb) HM2.out (.inl (List.mem_singleton.2 rfl)) _ _ _ _ _ _ _ _ _ _ _ _))) (HOk.out.mono (by omega))
set_option maxRecDepth 100000 in
set_option maxHeartbeats 4000000 in
theorem own_play_stop {K : Nat} {W w : World} {sb : Nat} {s : Ss} (h0 : Own K W w sb s) (hK : K ≤ 64000) (x : SAct) (hok : x.OK) (hlg : x.large = false) (hq4 : x.kind = 4) :
    Calls Tryz.prog 18 #[.pointer (some ⟨sb, 0, none⟩), x.val] w fun e w' => ∃ o s', e = .returned (.agg o.cells) ∧ s.Plays x o s' ∧ SStep w sb s s' w' ∧ Own (K + 200) W w' sb s' := by
  have hl := x.large_no hlg
  have hl1' := hl.1
  have hl2' := hl.2
  have hMB : Mod [] w (w.alloc (.cells #[.int .i64 x.kind, .int .i64 x.n, .int .u64 (x.id : Nat), .int .u64 (x.code : Nat), .string x.text, .bool x.fin, .int .u64 (x.fr.f.kind : Nat), .int .u64 (x.fr.f.a : Nat), .int .u64 (x.fr.f.b : Nat), .int .u64 (x.fr.f.c : Nat), .bool x.fr.f.fin, .string x.fr.f.data, .string x.fr.f.more, .slice x.fr.A x.fr.f.list.length x.fr.c, .int .u64 (x.lim.data : Int), .int .u64 (x.lim.bl : Int), .int .u64 (x.lim.br : Int), .int .u64 (x.lim.un : Int), .int .u64 (x.lim.bidis : Int), .int .u64 (x.lim.unis : Int)] 52)) := (Mod.refl [] w).alloc _
  have hNB := Blk.new w 52 #[.int .i64 x.kind, .int .i64 x.n, .int .u64 (x.id : Nat), .int .u64 (x.code : Nat), .string x.text, .bool x.fin, .int .u64 (x.fr.f.kind : Nat), .int .u64 (x.fr.f.a : Nat), .int .u64 (x.fr.f.b : Nat), .int .u64 (x.fr.f.c : Nat), .bool x.fr.f.fin, .string x.fr.f.data, .string x.fr.f.more, .slice x.fr.A x.fr.f.list.length x.fr.c, .int .u64 (x.lim.data : Int), .int .u64 (x.lim.bl : Int), .int .u64 (x.lim.br : Int), .int .u64 (x.lim.un : Int), .int .u64 (x.lim.bidis : Int), .int .u64 (x.lim.unis : Int)]
  obtain ⟨wB, hwB⟩ : ∃ wB, w.alloc (.cells #[.int .i64 x.kind, .int .i64 x.n, .int .u64 (x.id : Nat), .int .u64 (x.code : Nat), .string x.text, .bool x.fin, .int .u64 (x.fr.f.kind : Nat), .int .u64 (x.fr.f.a : Nat), .int .u64 (x.fr.f.b : Nat), .int .u64 (x.fr.f.c : Nat), .bool x.fr.f.fin, .string x.fr.f.data, .string x.fr.f.more, .slice x.fr.A x.fr.f.list.length x.fr.c, .int .u64 (x.lim.data : Int), .int .u64 (x.lim.bl : Int), .int .u64 (x.lim.br : Int), .int .u64 (x.lim.un : Int), .int .u64 (x.lim.bidis : Int), .int .u64 (x.lim.unis : Int)] 52) = wB := ⟨_, rfl⟩
  rw [hwB] at hMB hNB
  have hOB := h0.next hMB
  have HSB : Hid (SStep w sb s s wB) := hide (SStep.refl h0.box hMB)
  have HBB := hide hOB.box
  have hMC : Mod [] wB (wB.alloc (.cells #[.int .u64 0, .string ⟨#[]⟩, .bool false, .int .u64 0, .int .u64 0, .int .u64 0, .int .u64 0, .bool false, .string ⟨#[]⟩, .string ⟨#[]⟩, .slice none 0 0, .int .i64 0] 55)) := (Mod.refl [] wB).alloc _
  have hNC := Blk.new wB 55 #[.int .u64 0, .string ⟨#[]⟩, .bool false, .int .u64 0, .int .u64 0, .int .u64 0, .int .u64 0, .bool false, .string ⟨#[]⟩, .string ⟨#[]⟩, .slice none 0 0, .int .i64 0]
  have hnin := beside_new' hOB.box
  obtain ⟨tb, htb⟩ : ∃ tb, wB.heap.size = tb := ⟨_, rfl⟩
  have hSC := SStep.refl hOB.box hMC
  have hOC := hOB.next hMC
  have hXC := hMC.blk hNB (by simp)
  rw [htb] at hNC hnin
  have HT := hide hNC
  have HNin := hide hnin
  have HO := hide hOC
  have x0 : (wB.alloc (.cells #[.int .u64 0, .string ⟨#[]⟩, .bool false, .int .u64 0, .int .u64 0, .int .u64 0, .int .u64 0, .bool false, .string ⟨#[]⟩, .string ⟨#[]⟩, .slice none 0 0, .int .i64 0] 55)).cell? ⟨w.heap.size, 0, none⟩ = some (.int .i64 x.kind) := hXC.cell 0
  have x1 : (wB.alloc (.cells #[.int .u64 0, .string ⟨#[]⟩, .bool false, .int .u64 0, .int .u64 0, .int .u64 0, .int .u64 0, .bool false, .string ⟨#[]⟩, .string ⟨#[]⟩, .slice none 0 0, .int .i64 0] 55)).cell? ⟨w.heap.size, 1, none⟩ = some (.int .i64 x.n) := hXC.cell 1
  have x2 : (wB.alloc (.cells #[.int .u64 0, .string ⟨#[]⟩, .bool false, .int .u64 0, .int .u64 0, .int .u64 0, .int .u64 0, .bool false, .string ⟨#[]⟩, .string ⟨#[]⟩, .slice none 0 0, .int .i64 0] 55)).cell? ⟨w.heap.size, 2, none⟩ = some (.int .u64 (x.id : Nat)) := hXC.cell 2
  have x3 : (wB.alloc (.cells #[.int .u64 0, .string ⟨#[]⟩, .bool false, .int .u64 0, .int .u64 0, .int .u64 0, .int .u64 0, .bool false, .string ⟨#[]⟩, .string ⟨#[]⟩, .slice none 0 0, .int .i64 0] 55)).cell? ⟨w.heap.size, 3, none⟩ = some (.int .u64 (x.code : Nat)) := hXC.cell 3
  have x4 : (wB.alloc (.cells #[.int .u64 0, .string ⟨#[]⟩, .bool false, .int .u64 0, .int .u64 0, .int .u64 0, .int .u64 0, .bool false, .string ⟨#[]⟩, .string ⟨#[]⟩, .slice none 0 0, .int .i64 0] 55)).cell? ⟨w.heap.size, 4, none⟩ = some (.string x.text) := hXC.cell 4
  have x5 : (wB.alloc (.cells #[.int .u64 0, .string ⟨#[]⟩, .bool false, .int .u64 0, .int .u64 0, .int .u64 0, .int .u64 0, .bool false, .string ⟨#[]⟩, .string ⟨#[]⟩, .slice none 0 0, .int .i64 0] 55)).cell? ⟨w.heap.size, 5, none⟩ = some (.bool x.fin) := hXC.cell 5
  have x6 : (wB.alloc (.cells #[.int .u64 0, .string ⟨#[]⟩, .bool false, .int .u64 0, .int .u64 0, .int .u64 0, .int .u64 0, .bool false, .string ⟨#[]⟩, .string ⟨#[]⟩, .slice none 0 0, .int .i64 0] 55)).cell? ⟨w.heap.size, 6, none⟩ = some (.int .u64 (x.fr.f.kind : Nat)) := hXC.cell 6
  have x7 : (wB.alloc (.cells #[.int .u64 0, .string ⟨#[]⟩, .bool false, .int .u64 0, .int .u64 0, .int .u64 0, .int .u64 0, .bool false, .string ⟨#[]⟩, .string ⟨#[]⟩, .slice none 0 0, .int .i64 0] 55)).cell? ⟨w.heap.size, 7, none⟩ = some (.int .u64 (x.fr.f.a : Nat)) := hXC.cell 7
  have x8 : (wB.alloc (.cells #[.int .u64 0, .string ⟨#[]⟩, .bool false, .int .u64 0, .int .u64 0, .int .u64 0, .int .u64 0, .bool false, .string ⟨#[]⟩, .string ⟨#[]⟩, .slice none 0 0, .int .i64 0] 55)).cell? ⟨w.heap.size, 8, none⟩ = some (.int .u64 (x.fr.f.b : Nat)) := hXC.cell 8
  have x9 : (wB.alloc (.cells #[.int .u64 0, .string ⟨#[]⟩, .bool false, .int .u64 0, .int .u64 0, .int .u64 0, .int .u64 0, .bool false, .string ⟨#[]⟩, .string ⟨#[]⟩, .slice none 0 0, .int .i64 0] 55)).cell? ⟨w.heap.size, 9, none⟩ = some (.int .u64 (x.fr.f.c : Nat)) := hXC.cell 9
  have x10 : (wB.alloc (.cells #[.int .u64 0, .string ⟨#[]⟩, .bool false, .int .u64 0, .int .u64 0, .int .u64 0, .int .u64 0, .bool false, .string ⟨#[]⟩, .string ⟨#[]⟩, .slice none 0 0, .int .i64 0] 55)).cell? ⟨w.heap.size, 10, none⟩ = some (.bool x.fr.f.fin) := hXC.cell 10
  have x11 : (wB.alloc (.cells #[.int .u64 0, .string ⟨#[]⟩, .bool false, .int .u64 0, .int .u64 0, .int .u64 0, .int .u64 0, .bool false, .string ⟨#[]⟩, .string ⟨#[]⟩, .slice none 0 0, .int .i64 0] 55)).cell? ⟨w.heap.size, 11, none⟩ = some (.string x.fr.f.data) := hXC.cell 11
  have x12 : (wB.alloc (.cells #[.int .u64 0, .string ⟨#[]⟩, .bool false, .int .u64 0, .int .u64 0, .int .u64 0, .int .u64 0, .bool false, .string ⟨#[]⟩, .string ⟨#[]⟩, .slice none 0 0, .int .i64 0] 55)).cell? ⟨w.heap.size, 12, none⟩ = some (.string x.fr.f.more) := hXC.cell 12
  have x13 : (wB.alloc (.cells #[.int .u64 0, .string ⟨#[]⟩, .bool false, .int .u64 0, .int .u64 0, .int .u64 0, .int .u64 0, .bool false, .string ⟨#[]⟩, .string ⟨#[]⟩, .slice none 0 0, .int .i64 0] 55)).cell? ⟨w.heap.size, 13, none⟩ = some (.slice x.fr.A x.fr.f.list.length x.fr.c) := hXC.cell 13
  have x14 : (wB.alloc (.cells #[.int .u64 0, .string ⟨#[]⟩, .bool false, .int .u64 0, .int .u64 0, .int .u64 0, .int .u64 0, .bool false, .string ⟨#[]⟩, .string ⟨#[]⟩, .slice none 0 0, .int .i64 0] 55)).cell? ⟨w.heap.size, 14, none⟩ = some (.int .u64 (x.lim.data : Int)) := hXC.cell 14
  have x15 : (wB.alloc (.cells #[.int .u64 0, .string ⟨#[]⟩, .bool false, .int .u64 0, .int .u64 0, .int .u64 0, .int .u64 0, .bool false, .string ⟨#[]⟩, .string ⟨#[]⟩, .slice none 0 0, .int .i64 0] 55)).cell? ⟨w.heap.size, 15, none⟩ = some (.int .u64 (x.lim.bl : Int)) := hXC.cell 15
  have x16 : (wB.alloc (.cells #[.int .u64 0, .string ⟨#[]⟩, .bool false, .int .u64 0, .int .u64 0, .int .u64 0, .int .u64 0, .bool false, .string ⟨#[]⟩, .string ⟨#[]⟩, .slice none 0 0, .int .i64 0] 55)).cell? ⟨w.heap.size, 16, none⟩ = some (.int .u64 (x.lim.br : Int)) := hXC.cell 16
  have x17 : (wB.alloc (.cells #[.int .u64 0, .string ⟨#[]⟩, .bool false, .int .u64 0, .int .u64 0, .int .u64 0, .int .u64 0, .bool false, .string ⟨#[]⟩, .string ⟨#[]⟩, .slice none 0 0, .int .i64 0] 55)).cell? ⟨w.heap.size, 17, none⟩ = some (.int .u64 (x.lim.un : Int)) := hXC.cell 17
  have x18 : (wB.alloc (.cells #[.int .u64 0, .string ⟨#[]⟩, .bool false, .int .u64 0, .int .u64 0, .int .u64 0, .int .u64 0, .bool false, .string ⟨#[]⟩, .string ⟨#[]⟩, .slice none 0 0, .int .i64 0] 55)).cell? ⟨w.heap.size, 18, none⟩ = some (.int .u64 (x.lim.bidis : Int)) := hXC.cell 18
  have x19 : (wB.alloc (.cells #[.int .u64 0, .string ⟨#[]⟩, .bool false, .int .u64 0, .int .u64 0, .int .u64 0, .int .u64 0, .bool false, .string ⟨#[]⟩, .string ⟨#[]⟩, .slice none 0 0, .int .i64 0] 55)).cell? ⟨w.heap.size, 19, none⟩ = some (.int .u64 (x.lim.unis : Int)) := hXC.cell 19
  have hwl := hNB.lt
  clear hl hMB hNB hOB hMC hNC hnin hSC hOC hXC
  unfold SAct.val
  have HK := hide hq4
  have hk0 : (x.kind == 0) = false := by rw [HK.out]; rfl
  have hk1 : (x.kind == 1) = false := by rw [HK.out]; rfl
  have hk2 : (x.kind == 2) = false := by rw [HK.out]; rfl
  have hk3 : (x.kind == 3) = false := by rw [HK.out]; rfl
  have hk4 : (x.kind == 4) = true := by rw [HK.out]; rfl
  have hk5 : (x.kind == 5) = false := by rw [HK.out]; rfl
  have hk6 : (x.kind == 6) = false := by rw [HK.out]; rfl
  have hk7 : (x.kind == 7) = false := by rw [HK.out]; rfl
  have hk8 : (x.kind == 8) = false := by rw [HK.out]; rfl
  have hk9 : (x.kind == 9) = false := by rw [HK.out]; rfl
  have hct := own_stop HO.out x.id x.code
  have HCt := hide hct
  clear hq4 hct
  go_enter Tryz.func18, Tryz.ntmps18
  go_wp2_with fail
  refine HCt.out.mono ?_
  rintro e w1 ⟨c, s', rfl, ho, hst, hO⟩
  have hT1 : Blk w1 tb 55 #[.int .u64 0, .string ⟨#[]⟩, .bool false, .int .u64 0, .int .u64 0, .int .u64 0, .int .u64 0, .bool false, .string ⟨#[]⟩, .string ⟨#[]⟩, .slice none 0 0, .int .i64 0] := hst.2.1.blk HT.out HNin.out
  have HHo := hide ho
  have HSt := hide hst
  have HOk := hide hO.ok
  have hT2 := (hT1.set_ 11 (.int .i64 c))
  have hM2 := ((Mod.refl [tb] w1).setCell (p := ⟨tb, 11, none⟩) (.inl (by simp)) (.int .i64 c))
  have g0 : w1.frozen? ⟨tb, 0, none⟩ = false := hT1.frozen 0
  have g1 : w1.frozen? ⟨tb, 1, none⟩ = false := hT1.frozen 1
  have g2 : w1.frozen? ⟨tb, 2, none⟩ = false := hT1.frozen 2
  have g3 : w1.frozen? ⟨tb, 3, none⟩ = false := hT1.frozen 3
  have g4 : w1.frozen? ⟨tb, 4, none⟩ = false := hT1.frozen 4
  have g5 : w1.frozen? ⟨tb, 5, none⟩ = false := hT1.frozen 5
  have g6 : w1.frozen? ⟨tb, 6, none⟩ = false := hT1.frozen 6
  have g7 : w1.frozen? ⟨tb, 7, none⟩ = false := hT1.frozen 7
  have g8 : w1.frozen? ⟨tb, 8, none⟩ = false := hT1.frozen 8
  have g9 : w1.frozen? ⟨tb, 9, none⟩ = false := hT1.frozen 9
  have g10 : w1.frozen? ⟨tb, 10, none⟩ = false := hT1.frozen 10
  have g11 : w1.frozen? ⟨tb, 11, none⟩ = false := hT1.frozen 11
  have a0 : w1.cell? ⟨tb, 0, none⟩ = some (.int .u64 0) := hT1.cell 0
  have a1 : w1.cell? ⟨tb, 1, none⟩ = some (.string ⟨#[]⟩) := hT1.cell 1
  have a2 : w1.cell? ⟨tb, 2, none⟩ = some (.bool false) := hT1.cell 2
  have a3 : w1.cell? ⟨tb, 3, none⟩ = some (.int .u64 0) := hT1.cell 3
  have a4 : w1.cell? ⟨tb, 4, none⟩ = some (.int .u64 0) := hT1.cell 4
  have a5 : w1.cell? ⟨tb, 5, none⟩ = some (.int .u64 0) := hT1.cell 5
  have a6 : w1.cell? ⟨tb, 6, none⟩ = some (.int .u64 0) := hT1.cell 6
  have a7 : w1.cell? ⟨tb, 7, none⟩ = some (.bool false) := hT1.cell 7
  have a8 : w1.cell? ⟨tb, 8, none⟩ = some (.string ⟨#[]⟩) := hT1.cell 8
  have a9 : w1.cell? ⟨tb, 9, none⟩ = some (.string ⟨#[]⟩) := hT1.cell 9
  have a10 : w1.cell? ⟨tb, 10, none⟩ = some (.slice none 0 0) := hT1.cell 10
  have a11 : w1.cell? ⟨tb, 11, none⟩ = some (.int .i64 0) := hT1.cell 11
  have hl1 := hT1.lt
  obtain ⟨w2, hw2⟩ : ∃ w2, (w1.setCell ⟨tb, 11, none⟩ (.int .i64 c)) = w2 := ⟨_, rfl⟩
  rw [hw2] at hT2 hM2
  have HT2 : Hid (Blk w2 tb 55 #[.int .u64 0, .string ⟨#[]⟩, .bool false, .int .u64 0, .int .u64 0, .int .u64 0, .int .u64 0, .bool false, .string ⟨#[]⟩, .string ⟨#[]⟩, .slice none 0 0, .int .i64 c]) := hide hT2
  have HM2 := hide hM2
  have hT2' := HT2.out
  have b0 : w2.cell? ⟨tb, 0, none⟩ = some (.int .u64 0) := hT2'.cell 0
  have b1 : w2.cell? ⟨tb, 1, none⟩ = some (.string ⟨#[]⟩) := hT2'.cell 1
  have b2 : w2.cell? ⟨tb, 2, none⟩ = some (.bool false) := hT2'.cell 2
  have b3 : w2.cell? ⟨tb, 3, none⟩ = some (.int .u64 0) := hT2'.cell 3
  have b4 : w2.cell? ⟨tb, 4, none⟩ = some (.int .u64 0) := hT2'.cell 4
  have b5 : w2.cell? ⟨tb, 5, none⟩ = some (.int .u64 0) := hT2'.cell 5
  have b6 : w2.cell? ⟨tb, 6, none⟩ = some (.int .u64 0) := hT2'.cell 6
  have b7 : w2.cell? ⟨tb, 7, none⟩ = some (.bool false) := hT2'.cell 7
  have b8 : w2.cell? ⟨tb, 8, none⟩ = some (.string ⟨#[]⟩) := hT2'.cell 8
  have b9 : w2.cell? ⟨tb, 9, none⟩ = some (.string ⟨#[]⟩) := hT2'.cell 9
  have b10 : w2.cell? ⟨tb, 10, none⟩ = some (.slice none 0 0) := hT2'.cell 10
  have b11 : w2.cell? ⟨tb, 11, none⟩ = some (.int .i64 c) := hT2'.cell 11
  have k0 : w2.frozen? ⟨tb, 0, none⟩ = false := hT2'.frozen 0
  have k1 : w2.frozen? ⟨tb, 1, none⟩ = false := hT2'.frozen 1
  have k2 : w2.frozen? ⟨tb, 2, none⟩ = false := hT2'.frozen 2
  have k3 : w2.frozen? ⟨tb, 3, none⟩ = false := hT2'.frozen 3
  have k4 : w2.frozen? ⟨tb, 4, none⟩ = false := hT2'.frozen 4
  have k5 : w2.frozen? ⟨tb, 5, none⟩ = false := hT2'.frozen 5
  have k6 : w2.frozen? ⟨tb, 6, none⟩ = false := hT2'.frozen 6
  have k7 : w2.frozen? ⟨tb, 7, none⟩ = false := hT2'.frozen 7
  have k8 : w2.frozen? ⟨tb, 8, none⟩ = false := hT2'.frozen 8
  have k9 : w2.frozen? ⟨tb, 9, none⟩ = false := hT2'.frozen 9
  have k10 : w2.frozen? ⟨tb, 10, none⟩ = false := hT2'.frozen 10
  have k11 : w2.frozen? ⟨tb, 11, none⟩ = false := hT2'.frozen 11
  have hl2 := hT2'.lt
  clear ho hst hO hT1 hT2 hT2' hM2
  go_wp2_with fail
  refine bodyPost_ret (results_cell_row rfl _ _ tb 55 (⟨0, ⟨#[]⟩, false, fr0, c⟩ : Said).cells (0, 0) _ rfl ?_ Tryz.underlying55 rfl (by kernel_rfl)) rfl ?_
  · exact put12_blk HT2.out rfl _ _ _ _ _ _ _ _ _ _ _ _
  · refine ⟨⟨0, ⟨#[]⟩, false, fr0, c⟩, _, rfl, .stop HK.out c s' HHo.out, ?_⟩
    exact own_key h0 (HSB.out.trans (SStep.besideOf htb HBB.out HSt.out (put12_mod (g := tb) HM2.out (.inl (List.mem_singleton.2 rfl)) _ _ _ _ _ _ _ _ _ _ _ _))) (HOk.out.mono (by omega))
set_option maxRecDepth 100000 in
set_option maxHeartbeats 4000000 in
theorem own_play_got {K : Nat} {W w : World} {sb : Nat} {s : Ss} (h0 : Own K W w sb s) (hK : K ≤ 64000) (x : SAct) (hok : x.OK) (hlg : x.large = false) (hq5 : x.kind = 5) :
    Calls Tryz.prog 18 #[.pointer (some ⟨sb, 0, none⟩), x.val] w fun e w' => ∃ o s', e = .returned (.agg o.cells) ∧ s.Plays x o s' ∧ SStep w sb s s' w' ∧ Own (K + 200) W w' sb s' := by
  have hl := x.large_no hlg
  have hl1' := hl.1
  have hl2' := hl.2
  have hMB : Mod [] w (w.alloc (.cells #[.int .i64 x.kind, .int .i64 x.n, .int .u64 (x.id : Nat), .int .u64 (x.code : Nat), .string x.text, .bool x.fin, .int .u64 (x.fr.f.kind : Nat), .int .u64 (x.fr.f.a : Nat), .int .u64 (x.fr.f.b : Nat), .int .u64 (x.fr.f.c : Nat), .bool x.fr.f.fin, .string x.fr.f.data, .string x.fr.f.more, .slice x.fr.A x.fr.f.list.length x.fr.c, .int .u64 (x.lim.data : Int), .int .u64 (x.lim.bl : Int), .int .u64 (x.lim.br : Int), .int .u64 (x.lim.un : Int), .int .u64 (x.lim.bidis : Int), .int .u64 (x.lim.unis : Int)] 52)) := (Mod.refl [] w).alloc _
  have hNB := Blk.new w 52 #[.int .i64 x.kind, .int .i64 x.n, .int .u64 (x.id : Nat), .int .u64 (x.code : Nat), .string x.text, .bool x.fin, .int .u64 (x.fr.f.kind : Nat), .int .u64 (x.fr.f.a : Nat), .int .u64 (x.fr.f.b : Nat), .int .u64 (x.fr.f.c : Nat), .bool x.fr.f.fin, .string x.fr.f.data, .string x.fr.f.more, .slice x.fr.A x.fr.f.list.length x.fr.c, .int .u64 (x.lim.data : Int), .int .u64 (x.lim.bl : Int), .int .u64 (x.lim.br : Int), .int .u64 (x.lim.un : Int), .int .u64 (x.lim.bidis : Int), .int .u64 (x.lim.unis : Int)]
  obtain ⟨wB, hwB⟩ : ∃ wB, w.alloc (.cells #[.int .i64 x.kind, .int .i64 x.n, .int .u64 (x.id : Nat), .int .u64 (x.code : Nat), .string x.text, .bool x.fin, .int .u64 (x.fr.f.kind : Nat), .int .u64 (x.fr.f.a : Nat), .int .u64 (x.fr.f.b : Nat), .int .u64 (x.fr.f.c : Nat), .bool x.fr.f.fin, .string x.fr.f.data, .string x.fr.f.more, .slice x.fr.A x.fr.f.list.length x.fr.c, .int .u64 (x.lim.data : Int), .int .u64 (x.lim.bl : Int), .int .u64 (x.lim.br : Int), .int .u64 (x.lim.un : Int), .int .u64 (x.lim.bidis : Int), .int .u64 (x.lim.unis : Int)] 52) = wB := ⟨_, rfl⟩
  rw [hwB] at hMB hNB
  have hOB := h0.next hMB
  have HSB : Hid (SStep w sb s s wB) := hide (SStep.refl h0.box hMB)
  have HBB := hide hOB.box
  have hMC : Mod [] wB (wB.alloc (.cells #[.int .u64 0, .string ⟨#[]⟩, .bool false, .int .u64 0, .int .u64 0, .int .u64 0, .int .u64 0, .bool false, .string ⟨#[]⟩, .string ⟨#[]⟩, .slice none 0 0, .int .i64 0] 55)) := (Mod.refl [] wB).alloc _
  have hNC := Blk.new wB 55 #[.int .u64 0, .string ⟨#[]⟩, .bool false, .int .u64 0, .int .u64 0, .int .u64 0, .int .u64 0, .bool false, .string ⟨#[]⟩, .string ⟨#[]⟩, .slice none 0 0, .int .i64 0]
  have hnin := beside_new' hOB.box
  obtain ⟨tb, htb⟩ : ∃ tb, wB.heap.size = tb := ⟨_, rfl⟩
  have hSC := SStep.refl hOB.box hMC
  have hOC := hOB.next hMC
  have hXC := hMC.blk hNB (by simp)
  rw [htb] at hNC hnin
  have HT := hide hNC
  have HNin := hide hnin
  have HO := hide hOC
  have x0 : (wB.alloc (.cells #[.int .u64 0, .string ⟨#[]⟩, .bool false, .int .u64 0, .int .u64 0, .int .u64 0, .int .u64 0, .bool false, .string ⟨#[]⟩, .string ⟨#[]⟩, .slice none 0 0, .int .i64 0] 55)).cell? ⟨w.heap.size, 0, none⟩ = some (.int .i64 x.kind) := hXC.cell 0
  have x1 : (wB.alloc (.cells #[.int .u64 0, .string ⟨#[]⟩, .bool false, .int .u64 0, .int .u64 0, .int .u64 0, .int .u64 0, .bool false, .string ⟨#[]⟩, .string ⟨#[]⟩, .slice none 0 0, .int .i64 0] 55)).cell? ⟨w.heap.size, 1, none⟩ = some (.int .i64 x.n) := hXC.cell 1
  have x2 : (wB.alloc (.cells #[.int .u64 0, .string ⟨#[]⟩, .bool false, .int .u64 0, .int .u64 0, .int .u64 0, .int .u64 0, .bool false, .string ⟨#[]⟩, .string ⟨#[]⟩, .slice none 0 0, .int .i64 0] 55)).cell? ⟨w.heap.size, 2, none⟩ = some (.int .u64 (x.id : Nat)) := hXC.cell 2
  have x3 : (wB.alloc (.cells #[.int .u64 0, .string ⟨#[]⟩, .bool false, .int .u64 0, .int .u64 0, .int .u64 0, .int .u64 0, .bool false, .string ⟨#[]⟩, .string ⟨#[]⟩, .slice none 0 0, .int .i64 0] 55)).cell? ⟨w.heap.size, 3, none⟩ = some (.int .u64 (x.code : Nat)) := hXC.cell 3
  have x4 : (wB.alloc (.cells #[.int .u64 0, .string ⟨#[]⟩, .bool false, .int .u64 0, .int .u64 0, .int .u64 0, .int .u64 0, .bool false, .string ⟨#[]⟩, .string ⟨#[]⟩, .slice none 0 0, .int .i64 0] 55)).cell? ⟨w.heap.size, 4, none⟩ = some (.string x.text) := hXC.cell 4
  have x5 : (wB.alloc (.cells #[.int .u64 0, .string ⟨#[]⟩, .bool false, .int .u64 0, .int .u64 0, .int .u64 0, .int .u64 0, .bool false, .string ⟨#[]⟩, .string ⟨#[]⟩, .slice none 0 0, .int .i64 0] 55)).cell? ⟨w.heap.size, 5, none⟩ = some (.bool x.fin) := hXC.cell 5
  have x6 : (wB.alloc (.cells #[.int .u64 0, .string ⟨#[]⟩, .bool false, .int .u64 0, .int .u64 0, .int .u64 0, .int .u64 0, .bool false, .string ⟨#[]⟩, .string ⟨#[]⟩, .slice none 0 0, .int .i64 0] 55)).cell? ⟨w.heap.size, 6, none⟩ = some (.int .u64 (x.fr.f.kind : Nat)) := hXC.cell 6
  have x7 : (wB.alloc (.cells #[.int .u64 0, .string ⟨#[]⟩, .bool false, .int .u64 0, .int .u64 0, .int .u64 0, .int .u64 0, .bool false, .string ⟨#[]⟩, .string ⟨#[]⟩, .slice none 0 0, .int .i64 0] 55)).cell? ⟨w.heap.size, 7, none⟩ = some (.int .u64 (x.fr.f.a : Nat)) := hXC.cell 7
  have x8 : (wB.alloc (.cells #[.int .u64 0, .string ⟨#[]⟩, .bool false, .int .u64 0, .int .u64 0, .int .u64 0, .int .u64 0, .bool false, .string ⟨#[]⟩, .string ⟨#[]⟩, .slice none 0 0, .int .i64 0] 55)).cell? ⟨w.heap.size, 8, none⟩ = some (.int .u64 (x.fr.f.b : Nat)) := hXC.cell 8
  have x9 : (wB.alloc (.cells #[.int .u64 0, .string ⟨#[]⟩, .bool false, .int .u64 0, .int .u64 0, .int .u64 0, .int .u64 0, .bool false, .string ⟨#[]⟩, .string ⟨#[]⟩, .slice none 0 0, .int .i64 0] 55)).cell? ⟨w.heap.size, 9, none⟩ = some (.int .u64 (x.fr.f.c : Nat)) := hXC.cell 9
  have x10 : (wB.alloc (.cells #[.int .u64 0, .string ⟨#[]⟩, .bool false, .int .u64 0, .int .u64 0, .int .u64 0, .int .u64 0, .bool false, .string ⟨#[]⟩, .string ⟨#[]⟩, .slice none 0 0, .int .i64 0] 55)).cell? ⟨w.heap.size, 10, none⟩ = some (.bool x.fr.f.fin) := hXC.cell 10
  have x11 : (wB.alloc (.cells #[.int .u64 0, .string ⟨#[]⟩, .bool false, .int .u64 0, .int .u64 0, .int .u64 0, .int .u64 0, .bool false, .string ⟨#[]⟩, .string ⟨#[]⟩, .slice none 0 0, .int .i64 0] 55)).cell? ⟨w.heap.size, 11, none⟩ = some (.string x.fr.f.data) := hXC.cell 11
  have x12 : (wB.alloc (.cells #[.int .u64 0, .string ⟨#[]⟩, .bool false, .int .u64 0, .int .u64 0, .int .u64 0, .int .u64 0, .bool false, .string ⟨#[]⟩, .string ⟨#[]⟩, .slice none 0 0, .int .i64 0] 55)).cell? ⟨w.heap.size, 12, none⟩ = some (.string x.fr.f.more) := hXC.cell 12
  have x13 : (wB.alloc (.cells #[.int .u64 0, .string ⟨#[]⟩, .bool false, .int .u64 0, .int .u64 0, .int .u64 0, .int .u64 0, .bool false, .string ⟨#[]⟩, .string ⟨#[]⟩, .slice none 0 0, .int .i64 0] 55)).cell? ⟨w.heap.size, 13, none⟩ = some (.slice x.fr.A x.fr.f.list.length x.fr.c) := hXC.cell 13
  have x14 : (wB.alloc (.cells #[.int .u64 0, .string ⟨#[]⟩, .bool false, .int .u64 0, .int .u64 0, .int .u64 0, .int .u64 0, .bool false, .string ⟨#[]⟩, .string ⟨#[]⟩, .slice none 0 0, .int .i64 0] 55)).cell? ⟨w.heap.size, 14, none⟩ = some (.int .u64 (x.lim.data : Int)) := hXC.cell 14
  have x15 : (wB.alloc (.cells #[.int .u64 0, .string ⟨#[]⟩, .bool false, .int .u64 0, .int .u64 0, .int .u64 0, .int .u64 0, .bool false, .string ⟨#[]⟩, .string ⟨#[]⟩, .slice none 0 0, .int .i64 0] 55)).cell? ⟨w.heap.size, 15, none⟩ = some (.int .u64 (x.lim.bl : Int)) := hXC.cell 15
  have x16 : (wB.alloc (.cells #[.int .u64 0, .string ⟨#[]⟩, .bool false, .int .u64 0, .int .u64 0, .int .u64 0, .int .u64 0, .bool false, .string ⟨#[]⟩, .string ⟨#[]⟩, .slice none 0 0, .int .i64 0] 55)).cell? ⟨w.heap.size, 16, none⟩ = some (.int .u64 (x.lim.br : Int)) := hXC.cell 16
  have x17 : (wB.alloc (.cells #[.int .u64 0, .string ⟨#[]⟩, .bool false, .int .u64 0, .int .u64 0, .int .u64 0, .int .u64 0, .bool false, .string ⟨#[]⟩, .string ⟨#[]⟩, .slice none 0 0, .int .i64 0] 55)).cell? ⟨w.heap.size, 17, none⟩ = some (.int .u64 (x.lim.un : Int)) := hXC.cell 17
  have x18 : (wB.alloc (.cells #[.int .u64 0, .string ⟨#[]⟩, .bool false, .int .u64 0, .int .u64 0, .int .u64 0, .int .u64 0, .bool false, .string ⟨#[]⟩, .string ⟨#[]⟩, .slice none 0 0, .int .i64 0] 55)).cell? ⟨w.heap.size, 18, none⟩ = some (.int .u64 (x.lim.bidis : Int)) := hXC.cell 18
  have x19 : (wB.alloc (.cells #[.int .u64 0, .string ⟨#[]⟩, .bool false, .int .u64 0, .int .u64 0, .int .u64 0, .int .u64 0, .bool false, .string ⟨#[]⟩, .string ⟨#[]⟩, .slice none 0 0, .int .i64 0] 55)).cell? ⟨w.heap.size, 19, none⟩ = some (.int .u64 (x.lim.unis : Int)) := hXC.cell 19
  have hwl := hNB.lt
  clear hl hMB hNB hOB hMC hNC hnin hSC hOC hXC
  unfold SAct.val
  have HK := hide hq5
  have hk0 : (x.kind == 0) = false := by rw [HK.out]; rfl
  have hk1 : (x.kind == 1) = false := by rw [HK.out]; rfl
  have hk2 : (x.kind == 2) = false := by rw [HK.out]; rfl
  have hk3 : (x.kind == 3) = false := by rw [HK.out]; rfl
  have hk4 : (x.kind == 4) = false := by rw [HK.out]; rfl
  have hk5 : (x.kind == 5) = true := by rw [HK.out]; rfl
  have hk6 : (x.kind == 6) = false := by rw [HK.out]; rfl
  have hk7 : (x.kind == 7) = false := by rw [HK.out]; rfl
  have hk8 : (x.kind == 8) = false := by rw [HK.out]; rfl
  have hk9 : (x.kind == 9) = false := by rw [HK.out]; rfl
  have hct := own_got HO.out (by omega) x.fr.A x.fr.f.list.length x.fr.c x.fr.f hok.fr.kind hok.fr.a hok.fr.b hok.fr.c (by omega)
  unfold fval fcs at hct
  have HCt := hide hct
  clear hq5 hct
  go_enter Tryz.func18, Tryz.ntmps18
  go_wp2_with fail
  refine HCt.out.mono ?_
  rintro e w1 ⟨c, s', rfl, ho, hst, hO⟩
  have hT1 : Blk w1 tb 55 #[.int .u64 0, .string ⟨#[]⟩, .bool false, .int .u64 0, .int .u64 0, .int .u64 0, .int .u64 0, .bool false, .string ⟨#[]⟩, .string ⟨#[]⟩, .slice none 0 0, .int .i64 0] := hst.2.1.blk HT.out HNin.out
  have HHo := hide ho
  have HSt := hide hst
  have HOk := hide hO.ok
  have hT2 := (hT1.set_ 11 (.int .i64 c))
  have hM2 := ((Mod.refl [tb] w1).setCell (p := ⟨tb, 11, none⟩) (.inl (by simp)) (.int .i64 c))
  have g0 : w1.frozen? ⟨tb, 0, none⟩ = false := hT1.frozen 0
  have g1 : w1.frozen? ⟨tb, 1, none⟩ = false := hT1.frozen 1
  have g2 : w1.frozen? ⟨tb, 2, none⟩ = false := hT1.frozen 2
  have g3 : w1.frozen? ⟨tb, 3, none⟩ = false := hT1.frozen 3
  have g4 : w1.frozen? ⟨tb, 4, none⟩ = false := hT1.frozen 4
  have g5 : w1.frozen? ⟨tb, 5, none⟩ = false := hT1.frozen 5
  have g6 : w1.frozen? ⟨tb, 6, none⟩ = false := hT1.frozen 6
  have g7 : w1.frozen? ⟨tb, 7, none⟩ = false := hT1.frozen 7
  have g8 : w1.frozen? ⟨tb, 8, none⟩ = false := hT1.frozen 8
  have g9 : w1.frozen? ⟨tb, 9, none⟩ = false := hT1.frozen 9
  have g10 : w1.frozen? ⟨tb, 10, none⟩ = false := hT1.frozen 10
  have g11 : w1.frozen? ⟨tb, 11, none⟩ = false := hT1.frozen 11
  have a0 : w1.cell? ⟨tb, 0, none⟩ = some (.int .u64 0) := hT1.cell 0
  have a1 : w1.cell? ⟨tb, 1, none⟩ = some (.string ⟨#[]⟩) := hT1.cell 1
  have a2 : w1.cell? ⟨tb, 2, none⟩ = some (.bool false) := hT1.cell 2
  have a3 : w1.cell? ⟨tb, 3, none⟩ = some (.int .u64 0) := hT1.cell 3
  have a4 : w1.cell? ⟨tb, 4, none⟩ = some (.int .u64 0) := hT1.cell 4
  have a5 : w1.cell? ⟨tb, 5, none⟩ = some (.int .u64 0) := hT1.cell 5
  have a6 : w1.cell? ⟨tb, 6, none⟩ = some (.int .u64 0) := hT1.cell 6
  have a7 : w1.cell? ⟨tb, 7, none⟩ = some (.bool false) := hT1.cell 7
  have a8 : w1.cell? ⟨tb, 8, none⟩ = some (.string ⟨#[]⟩) := hT1.cell 8
  have a9 : w1.cell? ⟨tb, 9, none⟩ = some (.string ⟨#[]⟩) := hT1.cell 9
  have a10 : w1.cell? ⟨tb, 10, none⟩ = some (.slice none 0 0) := hT1.cell 10
  have a11 : w1.cell? ⟨tb, 11, none⟩ = some (.int .i64 0) := hT1.cell 11
  have hl1 := hT1.lt
  obtain ⟨w2, hw2⟩ : ∃ w2, (w1.setCell ⟨tb, 11, none⟩ (.int .i64 c)) = w2 := ⟨_, rfl⟩
  rw [hw2] at hT2 hM2
  have HT2 : Hid (Blk w2 tb 55 #[.int .u64 0, .string ⟨#[]⟩, .bool false, .int .u64 0, .int .u64 0, .int .u64 0, .int .u64 0, .bool false, .string ⟨#[]⟩, .string ⟨#[]⟩, .slice none 0 0, .int .i64 c]) := hide hT2
  have HM2 := hide hM2
  have hT2' := HT2.out
  have b0 : w2.cell? ⟨tb, 0, none⟩ = some (.int .u64 0) := hT2'.cell 0
  have b1 : w2.cell? ⟨tb, 1, none⟩ = some (.string ⟨#[]⟩) := hT2'.cell 1
  have b2 : w2.cell? ⟨tb, 2, none⟩ = some (.bool false) := hT2'.cell 2
  have b3 : w2.cell? ⟨tb, 3, none⟩ = some (.int .u64 0) := hT2'.cell 3
  have b4 : w2.cell? ⟨tb, 4, none⟩ = some (.int .u64 0) := hT2'.cell 4
  have b5 : w2.cell? ⟨tb, 5, none⟩ = some (.int .u64 0) := hT2'.cell 5
  have b6 : w2.cell? ⟨tb, 6, none⟩ = some (.int .u64 0) := hT2'.cell 6
  have b7 : w2.cell? ⟨tb, 7, none⟩ = some (.bool false) := hT2'.cell 7
  have b8 : w2.cell? ⟨tb, 8, none⟩ = some (.string ⟨#[]⟩) := hT2'.cell 8
  have b9 : w2.cell? ⟨tb, 9, none⟩ = some (.string ⟨#[]⟩) := hT2'.cell 9
  have b10 : w2.cell? ⟨tb, 10, none⟩ = some (.slice none 0 0) := hT2'.cell 10
  have b11 : w2.cell? ⟨tb, 11, none⟩ = some (.int .i64 c) := hT2'.cell 11
  have k0 : w2.frozen? ⟨tb, 0, none⟩ = false := hT2'.frozen 0
  have k1 : w2.frozen? ⟨tb, 1, none⟩ = false := hT2'.frozen 1
  have k2 : w2.frozen? ⟨tb, 2, none⟩ = false := hT2'.frozen 2
  have k3 : w2.frozen? ⟨tb, 3, none⟩ = false := hT2'.frozen 3
  have k4 : w2.frozen? ⟨tb, 4, none⟩ = false := hT2'.frozen 4
  have k5 : w2.frozen? ⟨tb, 5, none⟩ = false := hT2'.frozen 5
  have k6 : w2.frozen? ⟨tb, 6, none⟩ = false := hT2'.frozen 6
  have k7 : w2.frozen? ⟨tb, 7, none⟩ = false := hT2'.frozen 7
  have k8 : w2.frozen? ⟨tb, 8, none⟩ = false := hT2'.frozen 8
  have k9 : w2.frozen? ⟨tb, 9, none⟩ = false := hT2'.frozen 9
  have k10 : w2.frozen? ⟨tb, 10, none⟩ = false := hT2'.frozen 10
  have k11 : w2.frozen? ⟨tb, 11, none⟩ = false := hT2'.frozen 11
  have hl2 := hT2'.lt
  clear ho hst hO hT1 hT2 hT2' hM2
  go_wp2_with fail
  refine bodyPost_ret (results_cell_row rfl _ _ tb 55 (⟨0, ⟨#[]⟩, false, fr0, c⟩ : Said).cells (0, 0) _ rfl ?_ Tryz.underlying55 rfl (by kernel_rfl)) rfl ?_
  · exact put12_blk HT2.out rfl _ _ _ _ _ _ _ _ _ _ _ _
  · refine ⟨⟨0, ⟨#[]⟩, false, fr0, c⟩, _, rfl, .got HK.out c s' HHo.out, ?_⟩
    exact own_key h0 (HSB.out.trans (SStep.besideOf htb HBB.out HSt.out (put12_mod (g := tb) HM2.out (.inl (List.mem_singleton.2 rfl)) _ _ _ _ _ _ _ _ _ _ _ _))) (HOk.out.mono (by omega))
set_option maxRecDepth 100000 in
set_option maxHeartbeats 4000000 in
theorem own_play_next {K : Nat} {W w : World} {sb : Nat} {s : Ss} (h0 : Own K W w sb s) (hK : K ≤ 64000) (x : SAct) (hok : x.OK) (hlg : x.large = false) (hq6 : x.kind = 6) :
    Calls Tryz.prog 18 #[.pointer (some ⟨sb, 0, none⟩), x.val] w fun e w' => ∃ o s', e = .returned (.agg o.cells) ∧ s.Plays x o s' ∧ SStep w sb s s' w' ∧ Own (K + 200) W w' sb s' := by
  have hl := x.large_no hlg
  have hl1' := hl.1
  have hl2' := hl.2
  have hMB : Mod [] w (w.alloc (.cells #[.int .i64 x.kind, .int .i64 x.n, .int .u64 (x.id : Nat), .int .u64 (x.code : Nat), .string x.text, .bool x.fin, .int .u64 (x.fr.f.kind : Nat), .int .u64 (x.fr.f.a : Nat), .int .u64 (x.fr.f.b : Nat), .int .u64 (x.fr.f.c : Nat), .bool x.fr.f.fin, .string x.fr.f.data, .string x.fr.f.more, .slice x.fr.A x.fr.f.list.length x.fr.c, .int .u64 (x.lim.data : Int), .int .u64 (x.lim.bl : Int), .int .u64 (x.lim.br : Int), .int .u64 (x.lim.un : Int), .int .u64 (x.lim.bidis : Int), .int .u64 (x.lim.unis : Int)] 52)) := (Mod.refl [] w).alloc _
  have hNB := Blk.new w 52 #[.int .i64 x.kind, .int .i64 x.n, .int .u64 (x.id : Nat), .int .u64 (x.code : Nat), .string x.text, .bool x.fin, .int .u64 (x.fr.f.kind : Nat), .int .u64 (x.fr.f.a : Nat), .int .u64 (x.fr.f.b : Nat), .int .u64 (x.fr.f.c : Nat), .bool x.fr.f.fin, .string x.fr.f.data, .string x.fr.f.more, .slice x.fr.A x.fr.f.list.length x.fr.c, .int .u64 (x.lim.data : Int), .int .u64 (x.lim.bl : Int), .int .u64 (x.lim.br : Int), .int .u64 (x.lim.un : Int), .int .u64 (x.lim.bidis : Int), .int .u64 (x.lim.unis : Int)]
  obtain ⟨wB, hwB⟩ : ∃ wB, w.alloc (.cells #[.int .i64 x.kind, .int .i64 x.n, .int .u64 (x.id : Nat), .int .u64 (x.code : Nat), .string x.text, .bool x.fin, .int .u64 (x.fr.f.kind : Nat), .int .u64 (x.fr.f.a : Nat), .int .u64 (x.fr.f.b : Nat), .int .u64 (x.fr.f.c : Nat), .bool x.fr.f.fin, .string x.fr.f.data, .string x.fr.f.more, .slice x.fr.A x.fr.f.list.length x.fr.c, .int .u64 (x.lim.data : Int), .int .u64 (x.lim.bl : Int), .int .u64 (x.lim.br : Int), .int .u64 (x.lim.un : Int), .int .u64 (x.lim.bidis : Int), .int .u64 (x.lim.unis : Int)] 52) = wB := ⟨_, rfl⟩
  rw [hwB] at hMB hNB
  have hOB := h0.next hMB
  have HSB : Hid (SStep w sb s s wB) := hide (SStep.refl h0.box hMB)
  have HBB := hide hOB.box
  have hMC : Mod [] wB (wB.alloc (.cells #[.int .u64 0, .string ⟨#[]⟩, .bool false, .int .u64 0, .int .u64 0, .int .u64 0, .int .u64 0, .bool false, .string ⟨#[]⟩, .string ⟨#[]⟩, .slice none 0 0, .int .i64 0] 55)) := (Mod.refl [] wB).alloc _
  have hNC := Blk.new wB 55 #[.int .u64 0, .string ⟨#[]⟩, .bool false, .int .u64 0, .int .u64 0, .int .u64 0, .int .u64 0, .bool false, .string ⟨#[]⟩, .string ⟨#[]⟩, .slice none 0 0, .int .i64 0]
  have hnin := beside_new' hOB.box
  obtain ⟨tb, htb⟩ : ∃ tb, wB.heap.size = tb := ⟨_, rfl⟩
  have hSC := SStep.refl hOB.box hMC
  have hOC := hOB.next hMC
  have hXC := hMC.blk hNB (by simp)
  rw [htb] at hNC hnin
  have HT := hide hNC
  have HNin := hide hnin
  have HO := hide hOC
  have x0 : (wB.alloc (.cells #[.int .u64 0, .string ⟨#[]⟩, .bool false, .int .u64 0, .int .u64 0, .int .u64 0, .int .u64 0, .bool false, .string ⟨#[]⟩, .string ⟨#[]⟩, .slice none 0 0, .int .i64 0] 55)).cell? ⟨w.heap.size, 0, none⟩ = some (.int .i64 x.kind) := hXC.cell 0
  have x1 : (wB.alloc (.cells #[.int .u64 0, .string ⟨#[]⟩, .bool false, .int .u64 0, .int .u64 0, .int .u64 0, .int .u64 0, .bool false, .string ⟨#[]⟩, .string ⟨#[]⟩, .slice none 0 0, .int .i64 0] 55)).cell? ⟨w.heap.size, 1, none⟩ = some (.int .i64 x.n) := hXC.cell 1
  have x2 : (wB.alloc (.cells #[.int .u64 0, .string ⟨#[]⟩, .bool false, .int .u64 0, .int .u64 0, .int .u64 0, .int .u64 0, .bool false, .string ⟨#[]⟩, .string ⟨#[]⟩, .slice none 0 0, .int .i64 0] 55)).cell? ⟨w.heap.size, 2, none⟩ = some (.int .u64 (x.id : Nat)) := hXC.cell 2
  have x3 : (wB.alloc (.cells #[.int .u64 0, .string ⟨#[]⟩, .bool false, .int .u64 0, .int .u64 0, .int .u64 0, .int .u64 0, .bool false, .string ⟨#[]⟩, .string ⟨#[]⟩, .slice none 0 0, .int .i64 0] 55)).cell? ⟨w.heap.size, 3, none⟩ = some (.int .u64 (x.code : Nat)) := hXC.cell 3
  have x4 : (wB.alloc (.cells #[.int .u64 0, .string ⟨#[]⟩, .bool false, .int .u64 0, .int .u64 0, .int .u64 0, .int .u64 0, .bool false, .string ⟨#[]⟩, .string ⟨#[]⟩, .slice none 0 0, .int .i64 0] 55)).cell? ⟨w.heap.size, 4, none⟩ = some (.string x.text) := hXC.cell 4
  have x5 : (wB.alloc (.cells #[.int .u64 0, .string ⟨#[]⟩, .bool false, .int .u64 0, .int .u64 0, .int .u64 0, .int .u64 0, .bool false, .string ⟨#[]⟩, .string ⟨#[]⟩, .slice none 0 0, .int .i64 0] 55)).cell? ⟨w.heap.size, 5, none⟩ = some (.bool x.fin) := hXC.cell 5
  have x6 : (wB.alloc (.cells #[.int .u64 0, .string ⟨#[]⟩, .bool false, .int .u64 0, .int .u64 0, .int .u64 0, .int .u64 0, .bool false, .string ⟨#[]⟩, .string ⟨#[]⟩, .slice none 0 0, .int .i64 0] 55)).cell? ⟨w.heap.size, 6, none⟩ = some (.int .u64 (x.fr.f.kind : Nat)) := hXC.cell 6
  have x7 : (wB.alloc (.cells #[.int .u64 0, .string ⟨#[]⟩, .bool false, .int .u64 0, .int .u64 0, .int .u64 0, .int .u64 0, .bool false, .string ⟨#[]⟩, .string ⟨#[]⟩, .slice none 0 0, .int .i64 0] 55)).cell? ⟨w.heap.size, 7, none⟩ = some (.int .u64 (x.fr.f.a : Nat)) := hXC.cell 7
  have x8 : (wB.alloc (.cells #[.int .u64 0, .string ⟨#[]⟩, .bool false, .int .u64 0, .int .u64 0, .int .u64 0, .int .u64 0, .bool false, .string ⟨#[]⟩, .string ⟨#[]⟩, .slice none 0 0, .int .i64 0] 55)).cell? ⟨w.heap.size, 8, none⟩ = some (.int .u64 (x.fr.f.b : Nat)) := hXC.cell 8
  have x9 : (wB.alloc (.cells #[.int .u64 0, .string ⟨#[]⟩, .bool false, .int .u64 0, .int .u64 0, .int .u64 0, .int .u64 0, .bool false, .string ⟨#[]⟩, .string ⟨#[]⟩, .slice none 0 0, .int .i64 0] 55)).cell? ⟨w.heap.size, 9, none⟩ = some (.int .u64 (x.fr.f.c : Nat)) := hXC.cell 9
  have x10 : (wB.alloc (.cells #[.int .u64 0, .string ⟨#[]⟩, .bool false, .int .u64 0, .int .u64 0, .int .u64 0, .int .u64 0, .bool false, .string ⟨#[]⟩, .string ⟨#[]⟩, .slice none 0 0, .int .i64 0] 55)).cell? ⟨w.heap.size, 10, none⟩ = some (.bool x.fr.f.fin) := hXC.cell 10
  have x11 : (wB.alloc (.cells #[.int .u64 0, .string ⟨#[]⟩, .bool false, .int .u64 0, .int .u64 0, .int .u64 0, .int .u64 0, .bool false, .string ⟨#[]⟩, .string ⟨#[]⟩, .slice none 0 0, .int .i64 0] 55)).cell? ⟨w.heap.size, 11, none⟩ = some (.string x.fr.f.data) := hXC.cell 11
  have x12 : (wB.alloc (.cells #[.int .u64 0, .string ⟨#[]⟩, .bool false, .int .u64 0, .int .u64 0, .int .u64 0, .int .u64 0, .bool false, .string ⟨#[]⟩, .string ⟨#[]⟩, .slice none 0 0, .int .i64 0] 55)).cell? ⟨w.heap.size, 12, none⟩ = some (.string x.fr.f.more) := hXC.cell 12
  have x13 : (wB.alloc (.cells #[.int .u64 0, .string ⟨#[]⟩, .bool false, .int .u64 0, .int .u64 0, .int .u64 0, .int .u64 0, .bool false, .string ⟨#[]⟩, .string ⟨#[]⟩, .slice none 0 0, .int .i64 0] 55)).cell? ⟨w.heap.size, 13, none⟩ = some (.slice x.fr.A x.fr.f.list.length x.fr.c) := hXC.cell 13
  have x14 : (wB.alloc (.cells #[.int .u64 0, .string ⟨#[]⟩, .bool false, .int .u64 0, .int .u64 0, .int .u64 0, .int .u64 0, .bool false, .string ⟨#[]⟩, .string ⟨#[]⟩, .slice none 0 0, .int .i64 0] 55)).cell? ⟨w.heap.size, 14, none⟩ = some (.int .u64 (x.lim.data : Int)) := hXC.cell 14
  have x15 : (wB.alloc (.cells #[.int .u64 0, .string ⟨#[]⟩, .bool false, .int .u64 0, .int .u64 0, .int .u64 0, .int .u64 0, .bool false, .string ⟨#[]⟩, .string ⟨#[]⟩, .slice none 0 0, .int .i64 0] 55)).cell? ⟨w.heap.size, 15, none⟩ = some (.int .u64 (x.lim.bl : Int)) := hXC.cell 15
  have x16 : (wB.alloc (.cells #[.int .u64 0, .string ⟨#[]⟩, .bool false, .int .u64 0, .int .u64 0, .int .u64 0, .int .u64 0, .bool false, .string ⟨#[]⟩, .string ⟨#[]⟩, .slice none 0 0, .int .i64 0] 55)).cell? ⟨w.heap.size, 16, none⟩ = some (.int .u64 (x.lim.br : Int)) := hXC.cell 16
  have x17 : (wB.alloc (.cells #[.int .u64 0, .string ⟨#[]⟩, .bool false, .int .u64 0, .int .u64 0, .int .u64 0, .int .u64 0, .bool false, .string ⟨#[]⟩, .string ⟨#[]⟩, .slice none 0 0, .int .i64 0] 55)).cell? ⟨w.heap.size, 17, none⟩ = some (.int .u64 (x.lim.un : Int)) := hXC.cell 17
  have x18 : (wB.alloc (.cells #[.int .u64 0, .string ⟨#[]⟩, .bool false, .int .u64 0, .int .u64 0, .int .u64 0, .int .u64 0, .bool false, .string ⟨#[]⟩, .string ⟨#[]⟩, .slice none 0 0, .int .i64 0] 55)).cell? ⟨w.heap.size, 18, none⟩ = some (.int .u64 (x.lim.bidis : Int)) := hXC.cell 18
  have x19 : (wB.alloc (.cells #[.int .u64 0, .string ⟨#[]⟩, .bool false, .int .u64 0, .int .u64 0, .int .u64 0, .int .u64 0, .bool false, .string ⟨#[]⟩, .string ⟨#[]⟩, .slice none 0 0, .int .i64 0] 55)).cell? ⟨w.heap.size, 19, none⟩ = some (.int .u64 (x.lim.unis : Int)) := hXC.cell 19
  have hwl := hNB.lt
  clear hl hMB hNB hOB hMC hNC hnin hSC hOC hXC
  unfold SAct.val
  have HK := hide hq6
  have hk0 : (x.kind == 0) = false := by rw [HK.out]; rfl
  have hk1 : (x.kind == 1) = false := by rw [HK.out]; rfl
  have hk2 : (x.kind == 2) = false := by rw [HK.out]; rfl
  have hk3 : (x.kind == 3) = false := by rw [HK.out]; rfl
  have hk4 : (x.kind == 4) = false := by rw [HK.out]; rfl
  have hk5 : (x.kind == 5) = false := by rw [HK.out]; rfl
  have hk6 : (x.kind == 6) = true := by rw [HK.out]; rfl
  have hk7 : (x.kind == 7) = false := by rw [HK.out]; rfl
  have hk8 : (x.kind == 8) = false := by rw [HK.out]; rfl
  have hk9 : (x.kind == 9) = false := by rw [HK.out]; rfl
  have hct := own_next HO.out x.n hok.n1 hok.n2
  unfold fval fcs at hct
  have HCt := hide hct
  clear hq6 hct
  go_enter Tryz.func18, Tryz.ntmps18
  go_wp2_with fail
  refine HCt.out.mono ?_
  rintro e w1 ⟨ff, is, s', rfl, ho, hst, hO⟩
  have hT1 : Blk w1 tb 55 #[.int .u64 0, .string ⟨#[]⟩, .bool false, .int .u64 0, .int .u64 0, .int .u64 0, .int .u64 0, .bool false, .string ⟨#[]⟩, .string ⟨#[]⟩, .slice none 0 0, .int .i64 0] := hst.2.1.blk HT.out HNin.out
  have HHo := hide ho
  have HSt := hide hst
  have HOk := hide hO.ok
  have g0 : w1.frozen? ⟨tb, 0, none⟩ = false := hT1.frozen 0
  have g1 : w1.frozen? ⟨tb, 1, none⟩ = false := hT1.frozen 1
  have g2 : w1.frozen? ⟨tb, 2, none⟩ = false := hT1.frozen 2
  have g3 : w1.frozen? ⟨tb, 3, none⟩ = false := hT1.frozen 3
  have g4 : w1.frozen? ⟨tb, 4, none⟩ = false := hT1.frozen 4
  have g5 : w1.frozen? ⟨tb, 5, none⟩ = false := hT1.frozen 5
  have g6 : w1.frozen? ⟨tb, 6, none⟩ = false := hT1.frozen 6
  have g7 : w1.frozen? ⟨tb, 7, none⟩ = false := hT1.frozen 7
  have g8 : w1.frozen? ⟨tb, 8, none⟩ = false := hT1.frozen 8
  have g9 : w1.frozen? ⟨tb, 9, none⟩ = false := hT1.frozen 9
  have g10 : w1.frozen? ⟨tb, 10, none⟩ = false := hT1.frozen 10
  have g11 : w1.frozen? ⟨tb, 11, none⟩ = false := hT1.frozen 11
  have a0 : w1.cell? ⟨tb, 0, none⟩ = some (.int .u64 0) := hT1.cell 0
  have a1 : w1.cell? ⟨tb, 1, none⟩ = some (.string ⟨#[]⟩) := hT1.cell 1
  have a2 : w1.cell? ⟨tb, 2, none⟩ = some (.bool false) := hT1.cell 2
  have a3 : w1.cell? ⟨tb, 3, none⟩ = some (.int .u64 0) := hT1.cell 3
  have a4 : w1.cell? ⟨tb, 4, none⟩ = some (.int .u64 0) := hT1.cell 4
  have a5 : w1.cell? ⟨tb, 5, none⟩ = some (.int .u64 0) := hT1.cell 5
  have a6 : w1.cell? ⟨tb, 6, none⟩ = some (.int .u64 0) := hT1.cell 6
  have a7 : w1.cell? ⟨tb, 7, none⟩ = some (.bool false) := hT1.cell 7
  have a8 : w1.cell? ⟨tb, 8, none⟩ = some (.string ⟨#[]⟩) := hT1.cell 8
  have a9 : w1.cell? ⟨tb, 9, none⟩ = some (.string ⟨#[]⟩) := hT1.cell 9
  have a10 : w1.cell? ⟨tb, 10, none⟩ = some (.slice none 0 0) := hT1.cell 10
  have a11 : w1.cell? ⟨tb, 11, none⟩ = some (.int .i64 0) := hT1.cell 11
  have hl1 := hT1.lt
  have HT2 : Hid (Blk ((((((((((w1.setCell ⟨tb, 3, none⟩ (.int .u64 (ff.kind : Nat))).setCell ⟨tb, 4, none⟩ (.int .u64 (ff.a : Nat))).setCell ⟨tb, 5, none⟩ (.int .u64 (ff.b : Nat))).setCell ⟨tb, 6, none⟩ (.int .u64 (ff.c : Nat))).setCell ⟨tb, 7, none⟩ (.bool ff.fin)).setCell ⟨tb, 8, none⟩ (.string ff.data)).setCell ⟨tb, 9, none⟩ (.string ff.more)).setCell ⟨tb, 10, none⟩ (.slice none 0 0)).setCell ⟨tb, 2, none⟩ (.bool is))) tb 55 #[.int .u64 0, .string ⟨#[]⟩, .bool is, .int .u64 (ff.kind : Nat), .int .u64 (ff.a : Nat), .int .u64 (ff.b : Nat), .int .u64 (ff.c : Nat), .bool ff.fin, .string ff.data, .string ff.more, .slice none 0 0, .int .i64 0]) := hide (by
    have hb := hT1.sets (fun i => (#[.int .u64 0, .string ⟨#[]⟩, .bool is, .int .u64 (ff.kind : Nat), .int .u64 (ff.a : Nat), .int .u64 (ff.b : Nat), .int .u64 (ff.c : Nat), .bool ff.fin, .string ff.data, .string ff.more, .slice none 0 0, .int .i64 0] : Array Value).getD i undef) [3, 4, 5, 6, 7, 8, 9, 10, 2]
    rw [setsL_eq _ _ 12 _ rfl rfl (fun i hi hm => by
      simp only [List.mem_cons, List.not_mem_nil, or_false, not_or] at hm
      have : i = 0 ∨ i = 1 ∨ i = 11 := by omega
      rcases this with rfl | rfl | rfl <;> rfl)] at hb
    exact hb)
  have HM2 : Hid (Mod [tb] w1 (((((((((w1.setCell ⟨tb, 3, none⟩ (.int .u64 (ff.kind : Nat))).setCell ⟨tb, 4, none⟩ (.int .u64 (ff.a : Nat))).setCell ⟨tb, 5, none⟩ (.int .u64 (ff.b : Nat))).setCell ⟨tb, 6, none⟩ (.int .u64 (ff.c : Nat))).setCell ⟨tb, 7, none⟩ (.bool ff.fin)).setCell ⟨tb, 8, none⟩ (.string ff.data)).setCell ⟨tb, 9, none⟩ (.string ff.more)).setCell ⟨tb, 10, none⟩ (.slice none 0 0)).setCell ⟨tb, 2, none⟩ (.bool is))) := hide ((Mod.refl [tb] w1).sets (.inl (List.mem_singleton.2 rfl)) (fun i => (#[.int .u64 0, .string ⟨#[]⟩, .bool is, .int .u64 (ff.kind : Nat), .int .u64 (ff.a : Nat), .int .u64 (ff.b : Nat), .int .u64 (ff.c : Nat), .bool ff.fin, .string ff.data, .string ff.more, .slice none 0 0, .int .i64 0] : Array Value).getD i undef) [3, 4, 5, 6, 7, 8, 9, 10, 2])
  clear ho hst hO hT1
  go_wp2_with fail
  refine bodyPost_ret (results_cell_row rfl _ _ tb 55 (⟨0, ⟨#[]⟩, is, ff, 0⟩ : Said).cells (0, 0) _ rfl ?_ Tryz.underlying55 rfl (by kernel_rfl)) rfl ?_
  · exact put12_blk HT2.out rfl _ _ _ _ _ _ _ _ _ _ _ _
  · refine ⟨⟨0, ⟨#[]⟩, is, ff, 0⟩, _, rfl, .next HK.out ff is s' HHo.out, ?_⟩
    exact own_key h0 (HSB.out.trans (SStep.besideOf htb HBB.out HSt.out (put12_mod (g := tb) HM2.out (.inl (List.mem_singleton.2 rfl)) _ _ _ _ _ _ _ _ _ _ _ _))) (HOk.out.mono (by omega))
set_option maxRecDepth 100000 in
set_option maxHeartbeats 4000000 in
theorem own_play_acked {K : Nat} {W w : World} {sb : Nat} {s : Ss} (h0 : Own K W w sb s) (hK : K ≤ 64000) (x : SAct) (hok : x.OK) (hlg : x.large = false) (hq7 : x.kind = 7) :
    Calls Tryz.prog 18 #[.pointer (some ⟨sb, 0, none⟩), x.val] w fun e w' => ∃ o s', e = .returned (.agg o.cells) ∧ s.Plays x o s' ∧ SStep w sb s s' w' ∧ Own (K + 200) W w' sb s' := by
  have hl := x.large_no hlg
  have hl1' := hl.1
  have hl2' := hl.2
  have hMB : Mod [] w (w.alloc (.cells #[.int .i64 x.kind, .int .i64 x.n, .int .u64 (x.id : Nat), .int .u64 (x.code : Nat), .string x.text, .bool x.fin, .int .u64 (x.fr.f.kind : Nat), .int .u64 (x.fr.f.a : Nat), .int .u64 (x.fr.f.b : Nat), .int .u64 (x.fr.f.c : Nat), .bool x.fr.f.fin, .string x.fr.f.data, .string x.fr.f.more, .slice x.fr.A x.fr.f.list.length x.fr.c, .int .u64 (x.lim.data : Int), .int .u64 (x.lim.bl : Int), .int .u64 (x.lim.br : Int), .int .u64 (x.lim.un : Int), .int .u64 (x.lim.bidis : Int), .int .u64 (x.lim.unis : Int)] 52)) := (Mod.refl [] w).alloc _
  have hNB := Blk.new w 52 #[.int .i64 x.kind, .int .i64 x.n, .int .u64 (x.id : Nat), .int .u64 (x.code : Nat), .string x.text, .bool x.fin, .int .u64 (x.fr.f.kind : Nat), .int .u64 (x.fr.f.a : Nat), .int .u64 (x.fr.f.b : Nat), .int .u64 (x.fr.f.c : Nat), .bool x.fr.f.fin, .string x.fr.f.data, .string x.fr.f.more, .slice x.fr.A x.fr.f.list.length x.fr.c, .int .u64 (x.lim.data : Int), .int .u64 (x.lim.bl : Int), .int .u64 (x.lim.br : Int), .int .u64 (x.lim.un : Int), .int .u64 (x.lim.bidis : Int), .int .u64 (x.lim.unis : Int)]
  obtain ⟨wB, hwB⟩ : ∃ wB, w.alloc (.cells #[.int .i64 x.kind, .int .i64 x.n, .int .u64 (x.id : Nat), .int .u64 (x.code : Nat), .string x.text, .bool x.fin, .int .u64 (x.fr.f.kind : Nat), .int .u64 (x.fr.f.a : Nat), .int .u64 (x.fr.f.b : Nat), .int .u64 (x.fr.f.c : Nat), .bool x.fr.f.fin, .string x.fr.f.data, .string x.fr.f.more, .slice x.fr.A x.fr.f.list.length x.fr.c, .int .u64 (x.lim.data : Int), .int .u64 (x.lim.bl : Int), .int .u64 (x.lim.br : Int), .int .u64 (x.lim.un : Int), .int .u64 (x.lim.bidis : Int), .int .u64 (x.lim.unis : Int)] 52) = wB := ⟨_, rfl⟩
  rw [hwB] at hMB hNB
  have hOB := h0.next hMB
  have HSB : Hid (SStep w sb s s wB) := hide (SStep.refl h0.box hMB)
  have HBB := hide hOB.box
  have hMC : Mod [] wB (wB.alloc (.cells #[.int .u64 0, .string ⟨#[]⟩, .bool false, .int .u64 0, .int .u64 0, .int .u64 0, .int .u64 0, .bool false, .string ⟨#[]⟩, .string ⟨#[]⟩, .slice none 0 0, .int .i64 0] 55)) := (Mod.refl [] wB).alloc _
  have hNC := Blk.new wB 55 #[.int .u64 0, .string ⟨#[]⟩, .bool false, .int .u64 0, .int .u64 0, .int .u64 0, .int .u64 0, .bool false, .string ⟨#[]⟩, .string ⟨#[]⟩, .slice none 0 0, .int .i64 0]
  have hnin := beside_new' hOB.box
  obtain ⟨tb, htb⟩ : ∃ tb, wB.heap.size = tb := ⟨_, rfl⟩
  have hSC := SStep.refl hOB.box hMC
  have hOC := hOB.next hMC
  have hXC := hMC.blk hNB (by simp)
  rw [htb] at hNC hnin
  have HT := hide hNC
  have HNin := hide hnin
  have HO := hide hOC
  have x0 : (wB.alloc (.cells #[.int .u64 0, .string ⟨#[]⟩, .bool false, .int .u64 0, .int .u64 0, .int .u64 0, .int .u64 0, .bool false, .string ⟨#[]⟩, .string ⟨#[]⟩, .slice none 0 0, .int .i64 0] 55)).cell? ⟨w.heap.size, 0, none⟩ = some (.int .i64 x.kind) := hXC.cell 0
  have x1 : (wB.alloc (.cells #[.int .u64 0, .string ⟨#[]⟩, .bool false, .int .u64 0, .int .u64 0, .int .u64 0, .int .u64 0, .bool false, .string ⟨#[]⟩, .string ⟨#[]⟩, .slice none 0 0, .int .i64 0] 55)).cell? ⟨w.heap.size, 1, none⟩ = some (.int .i64 x.n) := hXC.cell 1
  have x2 : (wB.alloc (.cells #[.int .u64 0, .string ⟨#[]⟩, .bool false, .int .u64 0, .int .u64 0, .int .u64 0, .int .u64 0, .bool false, .string ⟨#[]⟩, .string ⟨#[]⟩, .slice none 0 0, .int .i64 0] 55)).cell? ⟨w.heap.size, 2, none⟩ = some (.int .u64 (x.id : Nat)) := hXC.cell 2
  have x3 : (wB.alloc (.cells #[.int .u64 0, .string ⟨#[]⟩, .bool false, .int .u64 0, .int .u64 0, .int .u64 0, .int .u64 0, .bool false, .string ⟨#[]⟩, .string ⟨#[]⟩, .slice none 0 0, .int .i64 0] 55)).cell? ⟨w.heap.size, 3, none⟩ = some (.int .u64 (x.code : Nat)) := hXC.cell 3
  have x4 : (wB.alloc (.cells #[.int .u64 0, .string ⟨#[]⟩, .bool false, .int .u64 0, .int .u64 0, .int .u64 0, .int .u64 0, .bool false, .string ⟨#[]⟩, .string ⟨#[]⟩, .slice none 0 0, .int .i64 0] 55)).cell? ⟨w.heap.size, 4, none⟩ = some (.string x.text) := hXC.cell 4
  have x5 : (wB.alloc (.cells #[.int .u64 0, .string ⟨#[]⟩, .bool false, .int .u64 0, .int .u64 0, .int .u64 0, .int .u64 0, .bool false, .string ⟨#[]⟩, .string ⟨#[]⟩, .slice none 0 0, .int .i64 0] 55)).cell? ⟨w.heap.size, 5, none⟩ = some (.bool x.fin) := hXC.cell 5
  have x6 : (wB.alloc (.cells #[.int .u64 0, .string ⟨#[]⟩, .bool false, .int .u64 0, .int .u64 0, .int .u64 0, .int .u64 0, .bool false, .string ⟨#[]⟩, .string ⟨#[]⟩, .slice none 0 0, .int .i64 0] 55)).cell? ⟨w.heap.size, 6, none⟩ = some (.int .u64 (x.fr.f.kind : Nat)) := hXC.cell 6
  have x7 : (wB.alloc (.cells #[.int .u64 0, .string ⟨#[]⟩, .bool false, .int .u64 0, .int .u64 0, .int .u64 0, .int .u64 0, .bool false, .string ⟨#[]⟩, .string ⟨#[]⟩, .slice none 0 0, .int .i64 0] 55)).cell? ⟨w.heap.size, 7, none⟩ = some (.int .u64 (x.fr.f.a : Nat)) := hXC.cell 7
  have x8 : (wB.alloc (.cells #[.int .u64 0, .string ⟨#[]⟩, .bool false, .int .u64 0, .int .u64 0, .int .u64 0, .int .u64 0, .bool false, .string ⟨#[]⟩, .string ⟨#[]⟩, .slice none 0 0, .int .i64 0] 55)).cell? ⟨w.heap.size, 8, none⟩ = some (.int .u64 (x.fr.f.b : Nat)) := hXC.cell 8
  have x9 : (wB.alloc (.cells #[.int .u64 0, .string ⟨#[]⟩, .bool false, .int .u64 0, .int .u64 0, .int .u64 0, .int .u64 0, .bool false, .string ⟨#[]⟩, .string ⟨#[]⟩, .slice none 0 0, .int .i64 0] 55)).cell? ⟨w.heap.size, 9, none⟩ = some (.int .u64 (x.fr.f.c : Nat)) := hXC.cell 9
  have x10 : (wB.alloc (.cells #[.int .u64 0, .string ⟨#[]⟩, .bool false, .int .u64 0, .int .u64 0, .int .u64 0, .int .u64 0, .bool false, .string ⟨#[]⟩, .string ⟨#[]⟩, .slice none 0 0, .int .i64 0] 55)).cell? ⟨w.heap.size, 10, none⟩ = some (.bool x.fr.f.fin) := hXC.cell 10
  have x11 : (wB.alloc (.cells #[.int .u64 0, .string ⟨#[]⟩, .bool false, .int .u64 0, .int .u64 0, .int .u64 0, .int .u64 0, .bool false, .string ⟨#[]⟩, .string ⟨#[]⟩, .slice none 0 0, .int .i64 0] 55)).cell? ⟨w.heap.size, 11, none⟩ = some (.string x.fr.f.data) := hXC.cell 11
  have x12 : (wB.alloc (.cells #[.int .u64 0, .string ⟨#[]⟩, .bool false, .int .u64 0, .int .u64 0, .int .u64 0, .int .u64 0, .bool false, .string ⟨#[]⟩, .string ⟨#[]⟩, .slice none 0 0, .int .i64 0] 55)).cell? ⟨w.heap.size, 12, none⟩ = some (.string x.fr.f.more) := hXC.cell 12
  have x13 : (wB.alloc (.cells #[.int .u64 0, .string ⟨#[]⟩, .bool false, .int .u64 0, .int .u64 0, .int .u64 0, .int .u64 0, .bool false, .string ⟨#[]⟩, .string ⟨#[]⟩, .slice none 0 0, .int .i64 0] 55)).cell? ⟨w.heap.size, 13, none⟩ = some (.slice x.fr.A x.fr.f.list.length x.fr.c) := hXC.cell 13
  have x14 : (wB.alloc (.cells #[.int .u64 0, .string ⟨#[]⟩, .bool false, .int .u64 0, .int .u64 0, .int .u64 0, .int .u64 0, .bool false, .string ⟨#[]⟩, .string ⟨#[]⟩, .slice none 0 0, .int .i64 0] 55)).cell? ⟨w.heap.size, 14, none⟩ = some (.int .u64 (x.lim.data : Int)) := hXC.cell 14
  have x15 : (wB.alloc (.cells #[.int .u64 0, .string ⟨#[]⟩, .bool false, .int .u64 0, .int .u64 0, .int .u64 0, .int .u64 0, .bool false, .string ⟨#[]⟩, .string ⟨#[]⟩, .slice none 0 0, .int .i64 0] 55)).cell? ⟨w.heap.size, 15, none⟩ = some (.int .u64 (x.lim.bl : Int)) := hXC.cell 15
  have x16 : (wB.alloc (.cells #[.int .u64 0, .string ⟨#[]⟩, .bool false, .int .u64 0, .int .u64 0, .int .u64 0, .int .u64 0, .bool false, .string ⟨#[]⟩, .string ⟨#[]⟩, .slice none 0 0, .int .i64 0] 55)).cell? ⟨w.heap.size, 16, none⟩ = some (.int .u64 (x.lim.br : Int)) := hXC.cell 16
  have x17 : (wB.alloc (.cells #[.int .u64 0, .string ⟨#[]⟩, .bool false, .int .u64 0, .int .u64 0, .int .u64 0, .int .u64 0, .bool false, .string ⟨#[]⟩, .string ⟨#[]⟩, .slice none 0 0, .int .i64 0] 55)).cell? ⟨w.heap.size, 17, none⟩ = some (.int .u64 (x.lim.un : Int)) := hXC.cell 17
  have x18 : (wB.alloc (.cells #[.int .u64 0, .string ⟨#[]⟩, .bool false, .int .u64 0, .int .u64 0, .int .u64 0, .int .u64 0, .bool false, .string ⟨#[]⟩, .string ⟨#[]⟩, .slice none 0 0, .int .i64 0] 55)).cell? ⟨w.heap.size, 18, none⟩ = some (.int .u64 (x.lim.bidis : Int)) := hXC.cell 18
  have x19 : (wB.alloc (.cells #[.int .u64 0, .string ⟨#[]⟩, .bool false, .int .u64 0, .int .u64 0, .int .u64 0, .int .u64 0, .bool false, .string ⟨#[]⟩, .string ⟨#[]⟩, .slice none 0 0, .int .i64 0] 55)).cell? ⟨w.heap.size, 19, none⟩ = some (.int .u64 (x.lim.unis : Int)) := hXC.cell 19
  have hwl := hNB.lt
  clear hl hMB hNB hOB hMC hNC hnin hSC hOC hXC
  unfold SAct.val
  have HK := hide hq7
  have hk0 : (x.kind == 0) = false := by rw [HK.out]; rfl
  have hk1 : (x.kind == 1) = false := by rw [HK.out]; rfl
  have hk2 : (x.kind == 2) = false := by rw [HK.out]; rfl
  have hk3 : (x.kind == 3) = false := by rw [HK.out]; rfl
  have hk4 : (x.kind == 4) = false := by rw [HK.out]; rfl
  have hk5 : (x.kind == 5) = false := by rw [HK.out]; rfl
  have hk6 : (x.kind == 6) = false := by rw [HK.out]; rfl
  have hk7 : (x.kind == 7) = true := by rw [HK.out]; rfl
  have hk8 : (x.kind == 8) = false := by rw [HK.out]; rfl
  have hk9 : (x.kind == 9) = false := by rw [HK.out]; rfl
  have hct := own_acked HO.out x.fr.A x.fr.f.list.length x.fr.c x.fr.f hok.fr.kind hok.fr.a hok.fr.b (by unfold maxLen; omega)
  unfold fval fcs at hct
  have HCt := hide hct
  clear hq7 hct
  go_enter Tryz.func18, Tryz.ntmps18
  go_wp2_with fail
  refine HCt.out.mono ?_
  rintro e w1 ⟨s', rfl, ho, hst, hO⟩
  have hT1 : Blk w1 tb 55 #[.int .u64 0, .string ⟨#[]⟩, .bool false, .int .u64 0, .int .u64 0, .int .u64 0, .int .u64 0, .bool false, .string ⟨#[]⟩, .string ⟨#[]⟩, .slice none 0 0, .int .i64 0] := hst.2.1.blk HT.out HNin.out
  have HHo := hide ho
  have HSt := hide hst
  have HOk := hide hO.ok
  have HT2 := hide hT1
  have HM2 : Hid (Mod [tb] w1 w1) := hide (Mod.refl _ _)
  have b0 : w1.cell? ⟨tb, 0, none⟩ = some (.int .u64 0) := hT1.cell 0
  have b1 : w1.cell? ⟨tb, 1, none⟩ = some (.string ⟨#[]⟩) := hT1.cell 1
  have b2 : w1.cell? ⟨tb, 2, none⟩ = some (.bool false) := hT1.cell 2
  have b3 : w1.cell? ⟨tb, 3, none⟩ = some (.int .u64 0) := hT1.cell 3
  have b4 : w1.cell? ⟨tb, 4, none⟩ = some (.int .u64 0) := hT1.cell 4
  have b5 : w1.cell? ⟨tb, 5, none⟩ = some (.int .u64 0) := hT1.cell 5
  have b6 : w1.cell? ⟨tb, 6, none⟩ = some (.int .u64 0) := hT1.cell 6
  have b7 : w1.cell? ⟨tb, 7, none⟩ = some (.bool false) := hT1.cell 7
  have b8 : w1.cell? ⟨tb, 8, none⟩ = some (.string ⟨#[]⟩) := hT1.cell 8
  have b9 : w1.cell? ⟨tb, 9, none⟩ = some (.string ⟨#[]⟩) := hT1.cell 9
  have b10 : w1.cell? ⟨tb, 10, none⟩ = some (.slice none 0 0) := hT1.cell 10
  have b11 : w1.cell? ⟨tb, 11, none⟩ = some (.int .i64 0) := hT1.cell 11
  have k0 : w1.frozen? ⟨tb, 0, none⟩ = false := hT1.frozen 0
  have k1 : w1.frozen? ⟨tb, 1, none⟩ = false := hT1.frozen 1
  have k2 : w1.frozen? ⟨tb, 2, none⟩ = false := hT1.frozen 2
  have k3 : w1.frozen? ⟨tb, 3, none⟩ = false := hT1.frozen 3
  have k4 : w1.frozen? ⟨tb, 4, none⟩ = false := hT1.frozen 4
  have k5 : w1.frozen? ⟨tb, 5, none⟩ = false := hT1.frozen 5
  have k6 : w1.frozen? ⟨tb, 6, none⟩ = false := hT1.frozen 6
  have k7 : w1.frozen? ⟨tb, 7, none⟩ = false := hT1.frozen 7
  have k8 : w1.frozen? ⟨tb, 8, none⟩ = false := hT1.frozen 8
  have k9 : w1.frozen? ⟨tb, 9, none⟩ = false := hT1.frozen 9
  have k10 : w1.frozen? ⟨tb, 10, none⟩ = false := hT1.frozen 10
  have k11 : w1.frozen? ⟨tb, 11, none⟩ = false := hT1.frozen 11
  have hl2 := hT1.lt
  clear ho hst hO hT1
  go_wp2_with fail
  refine bodyPost_ret (results_cell_row rfl _ _ tb 55 (said0 : Said).cells (0, 0) _ rfl ?_ Tryz.underlying55 rfl (by kernel_rfl)) rfl ?_
  · exact put12_blk HT2.out rfl _ _ _ _ _ _ _ _ _ _ _ _
  · refine ⟨said0, _, rfl, .acked HK.out s' HHo.out, ?_⟩
    exact own_key h0 (HSB.out.trans (SStep.besideOf htb HBB.out HSt.out (put12_mod (g := tb) HM2.out (.inl (List.mem_singleton.2 rfl)) _ _ _ _ _ _ _ _ _ _ _ _))) (HOk.out.mono (by omega))
set_option maxRecDepth 100000 in
set_option maxHeartbeats 4000000 in
theorem own_play_lost {K : Nat} {W w : World} {sb : Nat} {s : Ss} (h0 : Own K W w sb s) (hK : K ≤ 64000) (x : SAct) (hok : x.OK) (hlg : x.large = false) (hq8 : x.kind = 8) :
    Calls Tryz.prog 18 #[.pointer (some ⟨sb, 0, none⟩), x.val] w fun e w' => ∃ o s', e = .returned (.agg o.cells) ∧ s.Plays x o s' ∧ SStep w sb s s' w' ∧ Own (K + 200) W w' sb s' := by
  have hl := x.large_no hlg
  have hl1' := hl.1
  have hl2' := hl.2
  have hMB : Mod [] w (w.alloc (.cells #[.int .i64 x.kind, .int .i64 x.n, .int .u64 (x.id : Nat), .int .u64 (x.code : Nat), .string x.text, .bool x.fin, .int .u64 (x.fr.f.kind : Nat), .int .u64 (x.fr.f.a : Nat), .int .u64 (x.fr.f.b : Nat), .int .u64 (x.fr.f.c : Nat), .bool x.fr.f.fin, .string x.fr.f.data, .string x.fr.f.more, .slice x.fr.A x.fr.f.list.length x.fr.c, .int .u64 (x.lim.data : Int), .int .u64 (x.lim.bl : Int), .int .u64 (x.lim.br : Int), .int .u64 (x.lim.un : Int), .int .u64 (x.lim.bidis : Int), .int .u64 (x.lim.unis : Int)] 52)) := (Mod.refl [] w).alloc _
  have hNB := Blk.new w 52 #[.int .i64 x.kind, .int .i64 x.n, .int .u64 (x.id : Nat), .int .u64 (x.code : Nat), .string x.text, .bool x.fin, .int .u64 (x.fr.f.kind : Nat), .int .u64 (x.fr.f.a : Nat), .int .u64 (x.fr.f.b : Nat), .int .u64 (x.fr.f.c : Nat), .bool x.fr.f.fin, .string x.fr.f.data, .string x.fr.f.more, .slice x.fr.A x.fr.f.list.length x.fr.c, .int .u64 (x.lim.data : Int), .int .u64 (x.lim.bl : Int), .int .u64 (x.lim.br : Int), .int .u64 (x.lim.un : Int), .int .u64 (x.lim.bidis : Int), .int .u64 (x.lim.unis : Int)]
  obtain ⟨wB, hwB⟩ : ∃ wB, w.alloc (.cells #[.int .i64 x.kind, .int .i64 x.n, .int .u64 (x.id : Nat), .int .u64 (x.code : Nat), .string x.text, .bool x.fin, .int .u64 (x.fr.f.kind : Nat), .int .u64 (x.fr.f.a : Nat), .int .u64 (x.fr.f.b : Nat), .int .u64 (x.fr.f.c : Nat), .bool x.fr.f.fin, .string x.fr.f.data, .string x.fr.f.more, .slice x.fr.A x.fr.f.list.length x.fr.c, .int .u64 (x.lim.data : Int), .int .u64 (x.lim.bl : Int), .int .u64 (x.lim.br : Int), .int .u64 (x.lim.un : Int), .int .u64 (x.lim.bidis : Int), .int .u64 (x.lim.unis : Int)] 52) = wB := ⟨_, rfl⟩
  rw [hwB] at hMB hNB
  have hOB := h0.next hMB
  have HSB : Hid (SStep w sb s s wB) := hide (SStep.refl h0.box hMB)
  have HBB := hide hOB.box
  have hMC : Mod [] wB (wB.alloc (.cells #[.int .u64 0, .string ⟨#[]⟩, .bool false, .int .u64 0, .int .u64 0, .int .u64 0, .int .u64 0, .bool false, .string ⟨#[]⟩, .string ⟨#[]⟩, .slice none 0 0, .int .i64 0] 55)) := (Mod.refl [] wB).alloc _
  have hNC := Blk.new wB 55 #[.int .u64 0, .string ⟨#[]⟩, .bool false, .int .u64 0, .int .u64 0, .int .u64 0, .int .u64 0, .bool false, .string ⟨#[]⟩, .string ⟨#[]⟩, .slice none 0 0, .int .i64 0]
  have hnin := beside_new' hOB.box
  obtain ⟨tb, htb⟩ : ∃ tb, wB.heap.size = tb := ⟨_, rfl⟩
  have hSC := SStep.refl hOB.box hMC
  have hOC := hOB.next hMC
  have hXC := hMC.blk hNB (by simp)
  rw [htb] at hNC hnin
  have HT := hide hNC
  have HNin := hide hnin
  have HO := hide hOC
  have x0 : (wB.alloc (.cells #[.int .u64 0, .string ⟨#[]⟩, .bool false, .int .u64 0, .int .u64 0, .int .u64 0, .int .u64 0, .bool false, .string ⟨#[]⟩, .string ⟨#[]⟩, .slice none 0 0, .int .i64 0] 55)).cell? ⟨w.heap.size, 0, none⟩ = some (.int .i64 x.kind) := hXC.cell 0
  have x1 : (wB.alloc (.cells #[.int .u64 0, .string ⟨#[]⟩, .bool false, .int .u64 0, .int .u64 0, .int .u64 0, .int .u64 0, .bool false, .string ⟨#[]⟩, .string ⟨#[]⟩, .slice none 0 0, .int .i64 0] 55)).cell? ⟨w.heap.size, 1, none⟩ = some (.int .i64 x.n) := hXC.cell 1
  have x2 : (wB.alloc (.cells #[.int .u64 0, .string ⟨#[]⟩, .bool false, .int .u64 0, .int .u64 0, .int .u64 0, .int .u64 0, .bool false, .string ⟨#[]⟩, .string ⟨#[]⟩, .slice none 0 0, .int .i64 0] 55)).cell? ⟨w.heap.size, 2, none⟩ = some (.int .u64 (x.id : Nat)) := hXC.cell 2
  have x3 : (wB.alloc (.cells #[.int .u64 0, .string ⟨#[]⟩, .bool false, .int .u64 0, .int .u64 0, .int .u64 0, .int .u64 0, .bool false, .string ⟨#[]⟩, .string ⟨#[]⟩, .slice none 0 0, .int .i64 0] 55)).cell? ⟨w.heap.size, 3, none⟩ = some (.int .u64 (x.code : Nat)) := hXC.cell 3
  have x4 : (wB.alloc (.cells #[.int .u64 0, .string ⟨#[]⟩, .bool false, .int .u64 0, .int .u64 0, .int .u64 0, .int .u64 0, .bool false, .string ⟨#[]⟩, .string ⟨#[]⟩, .slice none 0 0, .int .i64 0] 55)).cell? ⟨w.heap.size, 4, none⟩ = some (.string x.text) := hXC.cell 4
  have x5 : (wB.alloc (.cells #[.int .u64 0, .string ⟨#[]⟩, .bool false, .int .u64 0, .int .u64 0, .int .u64 0, .int .u64 0, .bool false, .string ⟨#[]⟩, .string ⟨#[]⟩, .slice none 0 0, .int .i64 0] 55)).cell? ⟨w.heap.size, 5, none⟩ = some (.bool x.fin) := hXC.cell 5
  have x6 : (wB.alloc (.cells #[.int .u64 0, .string ⟨#[]⟩, .bool false, .int .u64 0, .int .u64 0, .int .u64 0, .int .u64 0, .bool false, .string ⟨#[]⟩, .string ⟨#[]⟩, .slice none 0 0, .int .i64 0] 55)).cell? ⟨w.heap.size, 6, none⟩ = some (.int .u64 (x.fr.f.kind : Nat)) := hXC.cell 6
  have x7 : (wB.alloc (.cells #[.int .u64 0, .string ⟨#[]⟩, .bool false, .int .u64 0, .int .u64 0, .int .u64 0, .int .u64 0, .bool false, .string ⟨#[]⟩, .string ⟨#[]⟩, .slice none 0 0, .int .i64 0] 55)).cell? ⟨w.heap.size, 7, none⟩ = some (.int .u64 (x.fr.f.a : Nat)) := hXC.cell 7
  have x8 : (wB.alloc (.cells #[.int .u64 0, .string ⟨#[]⟩, .bool false, .int .u64 0, .int .u64 0, .int .u64 0, .int .u64 0, .bool false, .string ⟨#[]⟩, .string ⟨#[]⟩, .slice none 0 0, .int .i64 0] 55)).cell? ⟨w.heap.size, 8, none⟩ = some (.int .u64 (x.fr.f.b : Nat)) := hXC.cell 8
  have x9 : (wB.alloc (.cells #[.int .u64 0, .string ⟨#[]⟩, .bool false, .int .u64 0, .int .u64 0, .int .u64 0, .int .u64 0, .bool false, .string ⟨#[]⟩, .string ⟨#[]⟩, .slice none 0 0, .int .i64 0] 55)).cell? ⟨w.heap.size, 9, none⟩ = some (.int .u64 (x.fr.f.c : Nat)) := hXC.cell 9
  have x10 : (wB.alloc (.cells #[.int .u64 0, .string ⟨#[]⟩, .bool false, .int .u64 0, .int .u64 0, .int .u64 0, .int .u64 0, .bool false, .string ⟨#[]⟩, .string ⟨#[]⟩, .slice none 0 0, .int .i64 0] 55)).cell? ⟨w.heap.size, 10, none⟩ = some (.bool x.fr.f.fin) := hXC.cell 10
  have x11 : (wB.alloc (.cells #[.int .u64 0, .string ⟨#[]⟩, .bool false, .int .u64 0, .int .u64 0, .int .u64 0, .int .u64 0, .bool false, .string ⟨#[]⟩, .string ⟨#[]⟩, .slice none 0 0, .int .i64 0] 55)).cell? ⟨w.heap.size, 11, none⟩ = some (.string x.fr.f.data) := hXC.cell 11
  have x12 : (wB.alloc (.cells #[.int .u64 0, .string ⟨#[]⟩, .bool false, .int .u64 0, .int .u64 0, .int .u64 0, .int .u64 0, .bool false, .string ⟨#[]⟩, .string ⟨#[]⟩, .slice none 0 0, .int .i64 0] 55)).cell? ⟨w.heap.size, 12, none⟩ = some (.string x.fr.f.more) := hXC.cell 12
  have x13 : (wB.alloc (.cells #[.int .u64 0, .string ⟨#[]⟩, .bool false, .int .u64 0, .int .u64 0, .int .u64 0, .int .u64 0, .bool false, .string ⟨#[]⟩, .string ⟨#[]⟩, .slice none 0 0, .int .i64 0] 55)).cell? ⟨w.heap.size, 13, none⟩ = some (.slice x.fr.A x.fr.f.list.length x.fr.c) := hXC.cell 13
  have x14 : (wB.alloc (.cells #[.int .u64 0, .string ⟨#[]⟩, .bool false, .int .u64 0, .int .u64 0, .int .u64 0, .int .u64 0, .bool false, .string ⟨#[]⟩, .string ⟨#[]⟩, .slice none 0 0, .int .i64 0] 55)).cell? ⟨w.heap.size, 14, none⟩ = some (.int .u64 (x.lim.data : Int)) := hXC.cell 14
  have x15 : (wB.alloc (.cells #[.int .u64 0, .string ⟨#[]⟩, .bool false, .int .u64 0, .int .u64 0, .int .u64 0, .int .u64 0, .bool false, .string ⟨#[]⟩, .string ⟨#[]⟩, .slice none 0 0, .int .i64 0] 55)).cell? ⟨w.heap.size, 15, none⟩ = some (.int .u64 (x.lim.bl : Int)) := hXC.cell 15
  have x16 : (wB.alloc (.cells #[.int .u64 0, .string ⟨#[]⟩, .bool false, .int .u64 0, .int .u64 0, .int .u64 0, .int .u64 0, .bool false, .string ⟨#[]⟩, .string ⟨#[]⟩, .slice none 0 0, .int .i64 0] 55)).cell? ⟨w.heap.size, 16, none⟩ = some (.int .u64 (x.lim.br : Int)) := hXC.cell 16
  have x17 : (wB.alloc (.cells #[.int .u64 0, .string ⟨#[]⟩, .bool false, .int .u64 0, .int .u64 0, .int .u64 0, .int .u64 0, .bool false, .string ⟨#[]⟩, .string ⟨#[]⟩, .slice none 0 0, .int .i64 0] 55)).cell? ⟨w.heap.size, 17, none⟩ = some (.int .u64 (x.lim.un : Int)) := hXC.cell 17
  have x18 : (wB.alloc (.cells #[.int .u64 0, .string ⟨#[]⟩, .bool false, .int .u64 0, .int .u64 0, .int .u64 0, .int .u64 0, .bool false, .string ⟨#[]⟩, .string ⟨#[]⟩, .slice none 0 0, .int .i64 0] 55)).cell? ⟨w.heap.size, 18, none⟩ = some (.int .u64 (x.lim.bidis : Int)) := hXC.cell 18
  have x19 : (wB.alloc (.cells #[.int .u64 0, .string ⟨#[]⟩, .bool false, .int .u64 0, .int .u64 0, .int .u64 0, .int .u64 0, .bool false, .string ⟨#[]⟩, .string ⟨#[]⟩, .slice none 0 0, .int .i64 0] 55)).cell? ⟨w.heap.size, 19, none⟩ = some (.int .u64 (x.lim.unis : Int)) := hXC.cell 19
  have hwl := hNB.lt
  clear hl hMB hNB hOB hMC hNC hnin hSC hOC hXC
  unfold SAct.val
  have HK := hide hq8
  have hk0 : (x.kind == 0) = false := by rw [HK.out]; rfl
  have hk1 : (x.kind == 1) = false := by rw [HK.out]; rfl
  have hk2 : (x.kind == 2) = false := by rw [HK.out]; rfl
  have hk3 : (x.kind == 3) = false := by rw [HK.out]; rfl
  have hk4 : (x.kind == 4) = false := by rw [HK.out]; rfl
  have hk5 : (x.kind == 5) = false := by rw [HK.out]; rfl
  have hk6 : (x.kind == 6) = false := by rw [HK.out]; rfl
  have hk7 : (x.kind == 7) = false := by rw [HK.out]; rfl
  have hk8 : (x.kind == 8) = true := by rw [HK.out]; rfl
  have hk9 : (x.kind == 9) = false := by rw [HK.out]; rfl
  have hct := own_lost HO.out x.fr.A x.fr.f.list.length x.fr.c x.fr.f hok.fr.kind hok.fr.a hok.fr.b (by unfold maxLen; omega)
  unfold fval fcs at hct
  have HCt := hide hct
  clear hq8 hct
  go_enter Tryz.func18, Tryz.ntmps18
  go_wp2_with fail
  refine HCt.out.mono ?_
  rintro e w1 ⟨s', rfl, ho, hst, hO⟩
  have hT1 : Blk w1 tb 55 #[.int .u64 0, .string ⟨#[]⟩, .bool false, .int .u64 0, .int .u64 0, .int .u64 0, .int .u64 0, .bool false, .string ⟨#[]⟩, .string ⟨#[]⟩, .slice none 0 0, .int .i64 0] := hst.2.1.blk HT.out HNin.out
  have HHo := hide ho
  have HSt := hide hst
  have HOk := hide hO.ok
  have HT2 := hide hT1
  have HM2 : Hid (Mod [tb] w1 w1) := hide (Mod.refl _ _)
  have b0 : w1.cell? ⟨tb, 0, none⟩ = some (.int .u64 0) := hT1.cell 0
  have b1 : w1.cell? ⟨tb, 1, none⟩ = some (.string ⟨#[]⟩) := hT1.cell 1
  have b2 : w1.cell? ⟨tb, 2, none⟩ = some (.bool false) := hT1.cell 2
  have b3 : w1.cell? ⟨tb, 3, none⟩ = some (.int .u64 0) := hT1.cell 3
  have b4 : w1.cell? ⟨tb, 4, none⟩ = some (.int .u64 0) := hT1.cell 4
  have b5 : w1.cell? ⟨tb, 5, none⟩ = some (.int .u64 0) := hT1.cell 5
  have b6 : w1.cell? ⟨tb, 6, none⟩ = some (.int .u64 0) := hT1.cell 6
  have b7 : w1.cell? ⟨tb, 7, none⟩ = some (.bool false) := hT1.cell 7
  have b8 : w1.cell? ⟨tb, 8, none⟩ = some (.string ⟨#[]⟩) := hT1.cell 8
  have b9 : w1.cell? ⟨tb, 9, none⟩ = some (.string ⟨#[]⟩) := hT1.cell 9
  have b10 : w1.cell? ⟨tb, 10, none⟩ = some (.slice none 0 0) := hT1.cell 10
  have b11 : w1.cell? ⟨tb, 11, none⟩ = some (.int .i64 0) := hT1.cell 11
  have k0 : w1.frozen? ⟨tb, 0, none⟩ = false := hT1.frozen 0
  have k1 : w1.frozen? ⟨tb, 1, none⟩ = false := hT1.frozen 1
  have k2 : w1.frozen? ⟨tb, 2, none⟩ = false := hT1.frozen 2
  have k3 : w1.frozen? ⟨tb, 3, none⟩ = false := hT1.frozen 3
  have k4 : w1.frozen? ⟨tb, 4, none⟩ = false := hT1.frozen 4
  have k5 : w1.frozen? ⟨tb, 5, none⟩ = false := hT1.frozen 5
  have k6 : w1.frozen? ⟨tb, 6, none⟩ = false := hT1.frozen 6
  have k7 : w1.frozen? ⟨tb, 7, none⟩ = false := hT1.frozen 7
  have k8 : w1.frozen? ⟨tb, 8, none⟩ = false := hT1.frozen 8
  have k9 : w1.frozen? ⟨tb, 9, none⟩ = false := hT1.frozen 9
  have k10 : w1.frozen? ⟨tb, 10, none⟩ = false := hT1.frozen 10
  have k11 : w1.frozen? ⟨tb, 11, none⟩ = false := hT1.frozen 11
  have hl2 := hT1.lt
  clear ho hst hO hT1
  go_wp2_with fail
  refine bodyPost_ret (results_cell_row rfl _ _ tb 55 (said0 : Said).cells (0, 0) _ rfl ?_ Tryz.underlying55 rfl (by kernel_rfl)) rfl ?_
  · exact put12_blk HT2.out rfl _ _ _ _ _ _ _ _ _ _ _ _
  · refine ⟨said0, _, rfl, .lost HK.out s' HHo.out, ?_⟩
    exact own_key h0 (HSB.out.trans (SStep.besideOf htb HBB.out HSt.out (put12_mod (g := tb) HM2.out (.inl (List.mem_singleton.2 rfl)) _ _ _ _ _ _ _ _ _ _ _ _))) (HOk.out.mono (by omega))
set_option maxRecDepth 100000 in
set_option maxHeartbeats 4000000 in
theorem own_play_other {K : Nat} {W w : World} {sb : Nat} {s : Ss} (h0 : Own K W w sb s) (hK : K ≤ 64000) (x : SAct) (hok : x.OK) (hlg : x.large = false) (hq9 : x.kind = 9) :
    Calls Tryz.prog 18 #[.pointer (some ⟨sb, 0, none⟩), x.val] w fun e w' => ∃ o s', e = .returned (.agg o.cells) ∧ s.Plays x o s' ∧ SStep w sb s s' w' ∧ Own (K + 200) W w' sb s' := by
  have hl := x.large_no hlg
  have hl1' := hl.1
  have hl2' := hl.2
  have hMB : Mod [] w (w.alloc (.cells #[.int .i64 x.kind, .int .i64 x.n, .int .u64 (x.id : Nat), .int .u64 (x.code : Nat), .string x.text, .bool x.fin, .int .u64 (x.fr.f.kind : Nat), .int .u64 (x.fr.f.a : Nat), .int .u64 (x.fr.f.b : Nat), .int .u64 (x.fr.f.c : Nat), .bool x.fr.f.fin, .string x.fr.f.data, .string x.fr.f.more, .slice x.fr.A x.fr.f.list.length x.fr.c, .int .u64 (x.lim.data : Int), .int .u64 (x.lim.bl : Int), .int .u64 (x.lim.br : Int), .int .u64 (x.lim.un : Int), .int .u64 (x.lim.bidis : Int), .int .u64 (x.lim.unis : Int)] 52)) := (Mod.refl [] w).alloc _
  have hNB := Blk.new w 52 #[.int .i64 x.kind, .int .i64 x.n, .int .u64 (x.id : Nat), .int .u64 (x.code : Nat), .string x.text, .bool x.fin, .int .u64 (x.fr.f.kind : Nat), .int .u64 (x.fr.f.a : Nat), .int .u64 (x.fr.f.b : Nat), .int .u64 (x.fr.f.c : Nat), .bool x.fr.f.fin, .string x.fr.f.data, .string x.fr.f.more, .slice x.fr.A x.fr.f.list.length x.fr.c, .int .u64 (x.lim.data : Int), .int .u64 (x.lim.bl : Int), .int .u64 (x.lim.br : Int), .int .u64 (x.lim.un : Int), .int .u64 (x.lim.bidis : Int), .int .u64 (x.lim.unis : Int)]
  obtain ⟨wB, hwB⟩ : ∃ wB, w.alloc (.cells #[.int .i64 x.kind, .int .i64 x.n, .int .u64 (x.id : Nat), .int .u64 (x.code : Nat), .string x.text, .bool x.fin, .int .u64 (x.fr.f.kind : Nat), .int .u64 (x.fr.f.a : Nat), .int .u64 (x.fr.f.b : Nat), .int .u64 (x.fr.f.c : Nat), .bool x.fr.f.fin, .string x.fr.f.data, .string x.fr.f.more, .slice x.fr.A x.fr.f.list.length x.fr.c, .int .u64 (x.lim.data : Int), .int .u64 (x.lim.bl : Int), .int .u64 (x.lim.br : Int), .int .u64 (x.lim.un : Int), .int .u64 (x.lim.bidis : Int), .int .u64 (x.lim.unis : Int)] 52) = wB := ⟨_, rfl⟩
  rw [hwB] at hMB hNB
  have hOB := h0.next hMB
  have HSB : Hid (SStep w sb s s wB) := hide (SStep.refl h0.box hMB)
  have HBB := hide hOB.box
  have hMC : Mod [] wB (wB.alloc (.cells #[.int .u64 0, .string ⟨#[]⟩, .bool false, .int .u64 0, .int .u64 0, .int .u64 0, .int .u64 0, .bool false, .string ⟨#[]⟩, .string ⟨#[]⟩, .slice none 0 0, .int .i64 0] 55)) := (Mod.refl [] wB).alloc _
  have hNC := Blk.new wB 55 #[.int .u64 0, .string ⟨#[]⟩, .bool false, .int .u64 0, .int .u64 0, .int .u64 0, .int .u64 0, .bool false, .string ⟨#[]⟩, .string ⟨#[]⟩, .slice none 0 0, .int .i64 0]
  have hnin := beside_new' hOB.box
  obtain ⟨tb, htb⟩ : ∃ tb, wB.heap.size = tb := ⟨_, rfl⟩
  have hSC := SStep.refl hOB.box hMC
  have hOC := hOB.next hMC
  have hXC := hMC.blk hNB (by simp)
  rw [htb] at hNC hnin
  have HT := hide hNC
  have HNin := hide hnin
  have HO := hide hOC
  have x0 : (wB.alloc (.cells #[.int .u64 0, .string ⟨#[]⟩, .bool false, .int .u64 0, .int .u64 0, .int .u64 0, .int .u64 0, .bool false, .string ⟨#[]⟩, .string ⟨#[]⟩, .slice none 0 0, .int .i64 0] 55)).cell? ⟨w.heap.size, 0, none⟩ = some (.int .i64 x.kind) := hXC.cell 0
  have x1 : (wB.alloc (.cells #[.int .u64 0, .string ⟨#[]⟩, .bool false, .int .u64 0, .int .u64 0, .int .u64 0, .int .u64 0, .bool false, .string ⟨#[]⟩, .string ⟨#[]⟩, .slice none 0 0, .int .i64 0] 55)).cell? ⟨w.heap.size, 1, none⟩ = some (.int .i64 x.n) := hXC.cell 1
  have x2 : (wB.alloc (.cells #[.int .u64 0, .string ⟨#[]⟩, .bool false, .int .u64 0, .int .u64 0, .int .u64 0, .int .u64 0, .bool false, .string ⟨#[]⟩, .string ⟨#[]⟩, .slice none 0 0, .int .i64 0] 55)).cell? ⟨w.heap.size, 2, none⟩ = some (.int .u64 (x.id : Nat)) := hXC.cell 2
  have x3 : (wB.alloc (.cells #[.int .u64 0, .string ⟨#[]⟩, .bool false, .int .u64 0, .int .u64 0, .int .u64 0, .int .u64 0, .bool false, .string ⟨#[]⟩, .string ⟨#[]⟩, .slice none 0 0, .int .i64 0] 55)).cell? ⟨w.heap.size, 3, none⟩ = some (.int .u64 (x.code : Nat)) := hXC.cell 3
  have x4 : (wB.alloc (.cells #[.int .u64 0, .string ⟨#[]⟩, .bool false, .int .u64 0, .int .u64 0, .int .u64 0, .int .u64 0, .bool false, .string ⟨#[]⟩, .string ⟨#[]⟩, .slice none 0 0, .int .i64 0] 55)).cell? ⟨w.heap.size, 4, none⟩ = some (.string x.text) := hXC.cell 4
  have x5 : (wB.alloc (.cells #[.int .u64 0, .string ⟨#[]⟩, .bool false, .int .u64 0, .int .u64 0, .int .u64 0, .int .u64 0, .bool false, .string ⟨#[]⟩, .string ⟨#[]⟩, .slice none 0 0, .int .i64 0] 55)).cell? ⟨w.heap.size, 5, none⟩ = some (.bool x.fin) := hXC.cell 5
  have x6 : (wB.alloc (.cells #[.int .u64 0, .string ⟨#[]⟩, .bool false, .int .u64 0, .int .u64 0, .int .u64 0, .int .u64 0, .bool false, .string ⟨#[]⟩, .string ⟨#[]⟩, .slice none 0 0, .int .i64 0] 55)).cell? ⟨w.heap.size, 6, none⟩ = some (.int .u64 (x.fr.f.kind : Nat)) := hXC.cell 6
  have x7 : (wB.alloc (.cells #[.int .u64 0, .string ⟨#[]⟩, .bool false, .int .u64 0, .int .u64 0, .int .u64 0, .int .u64 0, .bool false, .string ⟨#[]⟩, .string ⟨#[]⟩, .slice none 0 0, .int .i64 0] 55)).cell? ⟨w.heap.size, 7, none⟩ = some (.int .u64 (x.fr.f.a : Nat)) := hXC.cell 7
  have x8 : (wB.alloc (.cells #[.int .u64 0, .string ⟨#[]⟩, .bool false, .int .u64 0, .int .u64 0, .int .u64 0, .int .u64 0, .bool false, .string ⟨#[]⟩, .string ⟨#[]⟩, .slice none 0 0, .int .i64 0] 55)).cell? ⟨w.heap.size, 8, none⟩ = some (.int .u64 (x.fr.f.b : Nat)) := hXC.cell 8
  have x9 : (wB.alloc (.cells #[.int .u64 0, .string ⟨#[]⟩, .bool false, .int .u64 0, .int .u64 0, .int .u64 0, .int .u64 0, .bool false, .string ⟨#[]⟩, .string ⟨#[]⟩, .slice none 0 0, .int .i64 0] 55)).cell? ⟨w.heap.size, 9, none⟩ = some (.int .u64 (x.fr.f.c : Nat)) := hXC.cell 9
  have x10 : (wB.alloc (.cells #[.int .u64 0, .string ⟨#[]⟩, .bool false, .int .u64 0, .int .u64 0, .int .u64 0, .int .u64 0, .bool false, .string ⟨#[]⟩, .string ⟨#[]⟩, .slice none 0 0, .int .i64 0] 55)).cell? ⟨w.heap.size, 10, none⟩ = some (.bool x.fr.f.fin) := hXC.cell 10
  have x11 : (wB.alloc (.cells #[.int .u64 0, .string ⟨#[]⟩, .bool false, .int .u64 0, .int .u64 0, .int .u64 0, .int .u64 0, .bool false, .string ⟨#[]⟩, .string ⟨#[]⟩, .slice none 0 0, .int .i64 0] 55)).cell? ⟨w.heap.size, 11, none⟩ = some (.string x.fr.f.data) := hXC.cell 11
  have x12 : (wB.alloc (.cells #[.int .u64 0, .string ⟨#[]⟩, .bool false, .int .u64 0, .int .u64 0, .int .u64 0, .int .u64 0, .bool false, .string ⟨#[]⟩, .string ⟨#[]⟩, .slice none 0 0, .int .i64 0] 55)).cell? ⟨w.heap.size, 12, none⟩ = some (.string x.fr.f.more) := hXC.cell 12
  have x13 : (wB.alloc (.cells #[.int .u64 0, .string ⟨#[]⟩, .bool false, .int .u64 0, .int .u64 0, .int .u64 0, .int .u64 0, .bool false, .string ⟨#[]⟩, .string ⟨#[]⟩, .slice none 0 0, .int .i64 0] 55)).cell? ⟨w.heap.size, 13, none⟩ = some (.slice x.fr.A x.fr.f.list.length x.fr.c) := hXC.cell 13
  have x14 : (wB.alloc (.cells #[.int .u64 0, .string ⟨#[]⟩, .bool false, .int .u64 0, .int .u64 0, .int .u64 0, .int .u64 0, .bool false, .string ⟨#[]⟩, .string ⟨#[]⟩, .slice none 0 0, .int .i64 0] 55)).cell? ⟨w.heap.size, 14, none⟩ = some (.int .u64 (x.lim.data : Int)) := hXC.cell 14
  have x15 : (wB.alloc (.cells #[.int .u64 0, .string ⟨#[]⟩, .bool false, .int .u64 0, .int .u64 0, .int .u64 0, .int .u64 0, .bool false, .string ⟨#[]⟩, .string ⟨#[]⟩, .slice none 0 0, .int .i64 0] 55)).cell? ⟨w.heap.size, 15, none⟩ = some (.int .u64 (x.lim.bl : Int)) := hXC.cell 15
  have x16 : (wB.alloc (.cells #[.int .u64 0, .string ⟨#[]⟩, .bool false, .int .u64 0, .int .u64 0, .int .u64 0, .int .u64 0, .bool false, .string ⟨#[]⟩, .string ⟨#[]⟩, .slice none 0 0, .int .i64 0] 55)).cell? ⟨w.heap.size, 16, none⟩ = some (.int .u64 (x.lim.br : Int)) := hXC.cell 16
  have x17 : (wB.alloc (.cells #[.int .u64 0, .string ⟨#[]⟩, .bool false, .int .u64 0, .int .u64 0, .int .u64 0, .int .u64 0, .bool false, .string ⟨#[]⟩, .string ⟨#[]⟩, .slice none 0 0, .int .i64 0] 55)).cell? ⟨w.heap.size, 17, none⟩ = some (.int .u64 (x.lim.un : Int)) := hXC.cell 17
  have x18 : (wB.alloc (.cells #[.int .u64 0, .string ⟨#[]⟩, .bool false, .int .u64 0, .int .u64 0, .int .u64 0, .int .u64 0, .bool false, .string ⟨#[]⟩, .string ⟨#[]⟩, .slice none 0 0, .int .i64 0] 55)).cell? ⟨w.heap.size, 18, none⟩ = some (.int .u64 (x.lim.bidis : Int)) := hXC.cell 18
  have x19 : (wB.alloc (.cells #[.int .u64 0, .string ⟨#[]⟩, .bool false, .int .u64 0, .int .u64 0, .int .u64 0, .int .u64 0, .bool false, .string ⟨#[]⟩, .string ⟨#[]⟩, .slice none 0 0, .int .i64 0] 55)).cell? ⟨w.heap.size, 19, none⟩ = some (.int .u64 (x.lim.unis : Int)) := hXC.cell 19
  have hwl := hNB.lt
  clear hl hMB hNB hOB hMC hNC hnin hSC hOC hXC
  unfold SAct.val
  have HK := hide hq9
  have hk0 : (x.kind == 0) = false := by rw [HK.out]; rfl
  have hk1 : (x.kind == 1) = false := by rw [HK.out]; rfl
  have hk2 : (x.kind == 2) = false := by rw [HK.out]; rfl
  have hk3 : (x.kind == 3) = false := by rw [HK.out]; rfl
  have hk4 : (x.kind == 4) = false := by rw [HK.out]; rfl
  have hk5 : (x.kind == 5) = false := by rw [HK.out]; rfl
  have hk6 : (x.kind == 6) = false := by rw [HK.out]; rfl
  have hk7 : (x.kind == 7) = false := by rw [HK.out]; rfl
  have hk8 : (x.kind == 8) = false := by rw [HK.out]; rfl
  have hk9 : (x.kind == 9) = true := by rw [HK.out]; rfl
  have hct := own_other HO.out x.lim
  unfold Lm.val at hct
  have HCt := hide hct
  clear hq9 hct
  go_enter Tryz.func18, Tryz.ntmps18
  go_wp2_with fail
  refine HCt.out.mono ?_
  rintro e w1 ⟨s', rfl, ho, hst, hO⟩
  have hT1 : Blk w1 tb 55 #[.int .u64 0, .string ⟨#[]⟩, .bool false, .int .u64 0, .int .u64 0, .int .u64 0, .int .u64 0, .bool false, .string ⟨#[]⟩, .string ⟨#[]⟩, .slice none 0 0, .int .i64 0] := hst.2.1.blk HT.out HNin.out
  have HHo := hide ho
  have HSt := hide hst
  have HOk := hide hO.ok
  have HT2 := hide hT1
  have HM2 : Hid (Mod [tb] w1 w1) := hide (Mod.refl _ _)
  have b0 : w1.cell? ⟨tb, 0, none⟩ = some (.int .u64 0) := hT1.cell 0
  have b1 : w1.cell? ⟨tb, 1, none⟩ = some (.string ⟨#[]⟩) := hT1.cell 1
  have b2 : w1.cell? ⟨tb, 2, none⟩ = some (.bool false) := hT1.cell 2
  have b3 : w1.cell? ⟨tb, 3, none⟩ = some (.int .u64 0) := hT1.cell 3
  have b4 : w1.cell? ⟨tb, 4, none⟩ = some (.int .u64 0) := hT1.cell 4
  have b5 : w1.cell? ⟨tb, 5, none⟩ = some (.int .u64 0) := hT1.cell 5
  have b6 : w1.cell? ⟨tb, 6, none⟩ = some (.int .u64 0) := hT1.cell 6
  have b7 : w1.cell? ⟨tb, 7, none⟩ = some (.bool false) := hT1.cell 7
  have b8 : w1.cell? ⟨tb, 8, none⟩ = some (.string ⟨#[]⟩) := hT1.cell 8
  have b9 : w1.cell? ⟨tb, 9, none⟩ = some (.string ⟨#[]⟩) := hT1.cell 9
  have b10 : w1.cell? ⟨tb, 10, none⟩ = some (.slice none 0 0) := hT1.cell 10
  have b11 : w1.cell? ⟨tb, 11, none⟩ = some (.int .i64 0) := hT1.cell 11
  have k0 : w1.frozen? ⟨tb, 0, none⟩ = false := hT1.frozen 0
  have k1 : w1.frozen? ⟨tb, 1, none⟩ = false := hT1.frozen 1
  have k2 : w1.frozen? ⟨tb, 2, none⟩ = false := hT1.frozen 2
  have k3 : w1.frozen? ⟨tb, 3, none⟩ = false := hT1.frozen 3
  have k4 : w1.frozen? ⟨tb, 4, none⟩ = false := hT1.frozen 4
  have k5 : w1.frozen? ⟨tb, 5, none⟩ = false := hT1.frozen 5
  have k6 : w1.frozen? ⟨tb, 6, none⟩ = false := hT1.frozen 6
  have k7 : w1.frozen? ⟨tb, 7, none⟩ = false := hT1.frozen 7
  have k8 : w1.frozen? ⟨tb, 8, none⟩ = false := hT1.frozen 8
  have k9 : w1.frozen? ⟨tb, 9, none⟩ = false := hT1.frozen 9
  have k10 : w1.frozen? ⟨tb, 10, none⟩ = false := hT1.frozen 10
  have k11 : w1.frozen? ⟨tb, 11, none⟩ = false := hT1.frozen 11
  have hl2 := hT1.lt
  clear ho hst hO hT1
  go_wp2_with fail
  refine bodyPost_ret (results_cell_row rfl _ _ tb 55 (said0 : Said).cells (0, 0) _ rfl ?_ Tryz.underlying55 rfl (by kernel_rfl)) rfl ?_
  · exact put12_blk HT2.out rfl _ _ _ _ _ _ _ _ _ _ _ _
  · refine ⟨said0, _, rfl, .other HK.out s' HHo.out, ?_⟩
    exact own_key h0 (HSB.out.trans (SStep.besideOf htb HBB.out HSt.out (put12_mod (g := tb) HM2.out (.inl (List.mem_singleton.2 rfl)) _ _ _ _ _ _ _ _ _ _ _ _))) (HOk.out.mono (by omega))
set_option maxRecDepth 100000 in
set_option maxHeartbeats 4000000 in
theorem own_play_none {K : Nat} {W w : World} {sb : Nat} {s : Ss} (h0 : Own K W w sb s) (hK : K ≤ 64000) (x : SAct) (hok : x.OK) (hlg : x.large = false) (hkk : x.kind < 0 ∨ 9 < x.kind) :
    Calls Tryz.prog 18 #[.pointer (some ⟨sb, 0, none⟩), x.val] w fun e w' => ∃ o s', e = .returned (.agg o.cells) ∧ s.Plays x o s' ∧ SStep w sb s s' w' ∧ Own (K + 200) W w' sb s' := by
  have hl := x.large_no hlg
  have hl1' := hl.1
  have hl2' := hl.2
  have hMB : Mod [] w (w.alloc (.cells #[.int .i64 x.kind, .int .i64 x.n, .int .u64 (x.id : Nat), .int .u64 (x.code : Nat), .string x.text, .bool x.fin, .int .u64 (x.fr.f.kind : Nat), .int .u64 (x.fr.f.a : Nat), .int .u64 (x.fr.f.b : Nat), .int .u64 (x.fr.f.c : Nat), .bool x.fr.f.fin, .string x.fr.f.data, .string x.fr.f.more, .slice x.fr.A x.fr.f.list.length x.fr.c, .int .u64 (x.lim.data : Int), .int .u64 (x.lim.bl : Int), .int .u64 (x.lim.br : Int), .int .u64 (x.lim.un : Int), .int .u64 (x.lim.bidis : Int), .int .u64 (x.lim.unis : Int)] 52)) := (Mod.refl [] w).alloc _
  have hNB := Blk.new w 52 #[.int .i64 x.kind, .int .i64 x.n, .int .u64 (x.id : Nat), .int .u64 (x.code : Nat), .string x.text, .bool x.fin, .int .u64 (x.fr.f.kind : Nat), .int .u64 (x.fr.f.a : Nat), .int .u64 (x.fr.f.b : Nat), .int .u64 (x.fr.f.c : Nat), .bool x.fr.f.fin, .string x.fr.f.data, .string x.fr.f.more, .slice x.fr.A x.fr.f.list.length x.fr.c, .int .u64 (x.lim.data : Int), .int .u64 (x.lim.bl : Int), .int .u64 (x.lim.br : Int), .int .u64 (x.lim.un : Int), .int .u64 (x.lim.bidis : Int), .int .u64 (x.lim.unis : Int)]
  obtain ⟨wB, hwB⟩ : ∃ wB, w.alloc (.cells #[.int .i64 x.kind, .int .i64 x.n, .int .u64 (x.id : Nat), .int .u64 (x.code : Nat), .string x.text, .bool x.fin, .int .u64 (x.fr.f.kind : Nat), .int .u64 (x.fr.f.a : Nat), .int .u64 (x.fr.f.b : Nat), .int .u64 (x.fr.f.c : Nat), .bool x.fr.f.fin, .string x.fr.f.data, .string x.fr.f.more, .slice x.fr.A x.fr.f.list.length x.fr.c, .int .u64 (x.lim.data : Int), .int .u64 (x.lim.bl : Int), .int .u64 (x.lim.br : Int), .int .u64 (x.lim.un : Int), .int .u64 (x.lim.bidis : Int), .int .u64 (x.lim.unis : Int)] 52) = wB := ⟨_, rfl⟩
  rw [hwB] at hMB hNB
  have hOB := h0.next hMB
  have HSB : Hid (SStep w sb s s wB) := hide (SStep.refl h0.box hMB)
  have HBB := hide hOB.box
  have hMC : Mod [] wB (wB.alloc (.cells #[.int .u64 0, .string ⟨#[]⟩, .bool false, .int .u64 0, .int .u64 0, .int .u64 0, .int .u64 0, .bool false, .string ⟨#[]⟩, .string ⟨#[]⟩, .slice none 0 0, .int .i64 0] 55)) := (Mod.refl [] wB).alloc _
  have hNC := Blk.new wB 55 #[.int .u64 0, .string ⟨#[]⟩, .bool false, .int .u64 0, .int .u64 0, .int .u64 0, .int .u64 0, .bool false, .string ⟨#[]⟩, .string ⟨#[]⟩, .slice none 0 0, .int .i64 0]
  have hnin := beside_new' hOB.box
  obtain ⟨tb, htb⟩ : ∃ tb, wB.heap.size = tb := ⟨_, rfl⟩
  have hSC := SStep.refl hOB.box hMC
  have hOC := hOB.next hMC
  have hXC := hMC.blk hNB (by simp)
  rw [htb] at hNC hnin
  have HT := hide hNC
  have HNin := hide hnin
  have HO := hide hOC
  have x0 : (wB.alloc (.cells #[.int .u64 0, .string ⟨#[]⟩, .bool false, .int .u64 0, .int .u64 0, .int .u64 0, .int .u64 0, .bool false, .string ⟨#[]⟩, .string ⟨#[]⟩, .slice none 0 0, .int .i64 0] 55)).cell? ⟨w.heap.size, 0, none⟩ = some (.int .i64 x.kind) := hXC.cell 0
  have x1 : (wB.alloc (.cells #[.int .u64 0, .string ⟨#[]⟩, .bool false, .int .u64 0, .int .u64 0, .int .u64 0, .int .u64 0, .bool false, .string ⟨#[]⟩, .string ⟨#[]⟩, .slice none 0 0, .int .i64 0] 55)).cell? ⟨w.heap.size, 1, none⟩ = some (.int .i64 x.n) := hXC.cell 1
  have x2 : (wB.alloc (.cells #[.int .u64 0, .string ⟨#[]⟩, .bool false, .int .u64 0, .int .u64 0, .int .u64 0, .int .u64 0, .bool false, .string ⟨#[]⟩, .string ⟨#[]⟩, .slice none 0 0, .int .i64 0] 55)).cell? ⟨w.heap.size, 2, none⟩ = some (.int .u64 (x.id : Nat)) := hXC.cell 2
  have x3 : (wB.alloc (.cells #[.int .u64 0, .string ⟨#[]⟩, .bool false, .int .u64 0, .int .u64 0, .int .u64 0, .int .u64 0, .bool false, .string ⟨#[]⟩, .string ⟨#[]⟩, .slice none 0 0, .int .i64 0] 55)).cell? ⟨w.heap.size, 3, none⟩ = some (.int .u64 (x.code : Nat)) := hXC.cell 3
  have x4 : (wB.alloc (.cells #[.int .u64 0, .string ⟨#[]⟩, .bool false, .int .u64 0, .int .u64 0, .int .u64 0, .int .u64 0, .bool false, .string ⟨#[]⟩, .string ⟨#[]⟩, .slice none 0 0, .int .i64 0] 55)).cell? ⟨w.heap.size, 4, none⟩ = some (.string x.text) := hXC.cell 4
  have x5 : (wB.alloc (.cells #[.int .u64 0, .string ⟨#[]⟩, .bool false, .int .u64 0, .int .u64 0, .int .u64 0, .int .u64 0, .bool false, .string ⟨#[]⟩, .string ⟨#[]⟩, .slice none 0 0, .int .i64 0] 55)).cell? ⟨w.heap.size, 5, none⟩ = some (.bool x.fin) := hXC.cell 5
  have x6 : (wB.alloc (.cells #[.int .u64 0, .string ⟨#[]⟩, .bool false, .int .u64 0, .int .u64 0, .int .u64 0, .int .u64 0, .bool false, .string ⟨#[]⟩, .string ⟨#[]⟩, .slice none 0 0, .int .i64 0] 55)).cell? ⟨w.heap.size, 6, none⟩ = some (.int .u64 (x.fr.f.kind : Nat)) := hXC.cell 6
  have x7 : (wB.alloc (.cells #[.int .u64 0, .string ⟨#[]⟩, .bool false, .int .u64 0, .int .u64 0, .int .u64 0, .int .u64 0, .bool false, .string ⟨#[]⟩, .string ⟨#[]⟩, .slice none 0 0, .int .i64 0] 55)).cell? ⟨w.heap.size, 7, none⟩ = some (.int .u64 (x.fr.f.a : Nat)) := hXC.cell 7
  have x8 : (wB.alloc (.cells #[.int .u64 0, .string ⟨#[]⟩, .bool false, .int .u64 0, .int .u64 0, .int .u64 0, .int .u64 0, .bool false, .string ⟨#[]⟩, .string ⟨#[]⟩, .slice none 0 0, .int .i64 0] 55)).cell? ⟨w.heap.size, 8, none⟩ = some (.int .u64 (x.fr.f.b : Nat)) := hXC.cell 8
  have x9 : (wB.alloc (.cells #[.int .u64 0, .string ⟨#[]⟩, .bool false, .int .u64 0, .int .u64 0, .int .u64 0, .int .u64 0, .bool false, .string ⟨#[]⟩, .string ⟨#[]⟩, .slice none 0 0, .int .i64 0] 55)).cell? ⟨w.heap.size, 9, none⟩ = some (.int .u64 (x.fr.f.c : Nat)) := hXC.cell 9
  have x10 : (wB.alloc (.cells #[.int .u64 0, .string ⟨#[]⟩, .bool false, .int .u64 0, .int .u64 0, .int .u64 0, .int .u64 0, .bool false, .string ⟨#[]⟩, .string ⟨#[]⟩, .slice none 0 0, .int .i64 0] 55)).cell? ⟨w.heap.size, 10, none⟩ = some (.bool x.fr.f.fin) := hXC.cell 10
  have x11 : (wB.alloc (.cells #[.int .u64 0, .string ⟨#[]⟩, .bool false, .int .u64 0, .int .u64 0, .int .u64 0, .int .u64 0, .bool false, .string ⟨#[]⟩, .string ⟨#[]⟩, .slice none 0 0, .int .i64 0] 55)).cell? ⟨w.heap.size, 11, none⟩ = some (.string x.fr.f.data) := hXC.cell 11
  have x12 : (wB.alloc (.cells #[.int .u64 0, .string ⟨#[]⟩, .bool false, .int .u64 0, .int .u64 0, .int .u64 0, .int .u64 0, .bool false, .string ⟨#[]⟩, .string ⟨#[]⟩, .slice none 0 0, .int .i64 0] 55)).cell? ⟨w.heap.size, 12, none⟩ = some (.string x.fr.f.more) := hXC.cell 12
  have x13 : (wB.alloc (.cells #[.int .u64 0, .string ⟨#[]⟩, .bool false, .int .u64 0, .int .u64 0, .int .u64 0, .int .u64 0, .bool false, .string ⟨#[]⟩, .string ⟨#[]⟩, .slice none 0 0, .int .i64 0] 55)).cell? ⟨w.heap.size, 13, none⟩ = some (.slice x.fr.A x.fr.f.list.length x.fr.c) := hXC.cell 13
  have x14 : (wB.alloc (.cells #[.int .u64 0, .string ⟨#[]⟩, .bool false, .int .u64 0, .int .u64 0, .int .u64 0, .int .u64 0, .bool false, .string ⟨#[]⟩, .string ⟨#[]⟩, .slice none 0 0, .int .i64 0] 55)).cell? ⟨w.heap.size, 14, none⟩ = some (.int .u64 (x.lim.data : Int)) := hXC.cell 14
  have x15 : (wB.alloc (.cells #[.int .u64 0, .string ⟨#[]⟩, .bool false, .int .u64 0, .int .u64 0, .int .u64 0, .int .u64 0, .bool false, .string ⟨#[]⟩, .string ⟨#[]⟩, .slice none 0 0, .int .i64 0] 55)).cell? ⟨w.heap.size, 15, none⟩ = some (.int .u64 (x.lim.bl : Int)) := hXC.cell 15
  have x16 : (wB.alloc (.cells #[.int .u64 0, .string ⟨#[]⟩, .bool false, .int .u64 0, .int .u64 0, .int .u64 0, .int .u64 0, .bool false, .string ⟨#[]⟩, .string ⟨#[]⟩, .slice none 0 0, .int .i64 0] 55)).cell? ⟨w.heap.size, 16, none⟩ = some (.int .u64 (x.lim.br : Int)) := hXC.cell 16
  have x17 : (wB.alloc (.cells #[.int .u64 0, .string ⟨#[]⟩, .bool false, .int .u64 0, .int .u64 0, .int .u64 0, .int .u64 0, .bool false, .string ⟨#[]⟩, .string ⟨#[]⟩, .slice none 0 0, .int .i64 0] 55)).cell? ⟨w.heap.size, 17, none⟩ = some (.int .u64 (x.lim.un : Int)) := hXC.cell 17
  have x18 : (wB.alloc (.cells #[.int .u64 0, .string ⟨#[]⟩, .bool false, .int .u64 0, .int .u64 0, .int .u64 0, .int .u64 0, .bool false, .string ⟨#[]⟩, .string ⟨#[]⟩, .slice none 0 0, .int .i64 0] 55)).cell? ⟨w.heap.size, 18, none⟩ = some (.int .u64 (x.lim.bidis : Int)) := hXC.cell 18
  have x19 : (wB.alloc (.cells #[.int .u64 0, .string ⟨#[]⟩, .bool false, .int .u64 0, .int .u64 0, .int .u64 0, .int .u64 0, .bool false, .string ⟨#[]⟩, .string ⟨#[]⟩, .slice none 0 0, .int .i64 0] 55)).cell? ⟨w.heap.size, 19, none⟩ = some (.int .u64 (x.lim.unis : Int)) := hXC.cell 19
  have hwl := hNB.lt
  clear hl hMB hNB hOB hMC hNC hnin hSC hOC hXC
  unfold SAct.val
  have hk0 : (x.kind == 0) = false := by rw [beq_eq_false_iff_ne]; omega
  have hk1 : (x.kind == 1) = false := by rw [beq_eq_false_iff_ne]; omega
  have hk2 : (x.kind == 2) = false := by rw [beq_eq_false_iff_ne]; omega
  have hk3 : (x.kind == 3) = false := by rw [beq_eq_false_iff_ne]; omega
  have hk4 : (x.kind == 4) = false := by rw [beq_eq_false_iff_ne]; omega
  have hk5 : (x.kind == 5) = false := by rw [beq_eq_false_iff_ne]; omega
  have hk6 : (x.kind == 6) = false := by rw [beq_eq_false_iff_ne]; omega
  have hk7 : (x.kind == 7) = false := by rw [beq_eq_false_iff_ne]; omega
  have hk8 : (x.kind == 8) = false := by rw [beq_eq_false_iff_ne]; omega
  have hk9 : (x.kind == 9) = false := by rw [beq_eq_false_iff_ne]; omega
  have HKk := hide hkk
  have hT1 := HT.out
  have HT2 := hide hT1
  have b0 : (wB.alloc (.cells #[.int .u64 0, .string ⟨#[]⟩, .bool false, .int .u64 0, .int .u64 0, .int .u64 0, .int .u64 0, .bool false, .string ⟨#[]⟩, .string ⟨#[]⟩, .slice none 0 0, .int .i64 0] 55)).cell? ⟨tb, 0, none⟩ = some (.int .u64 0) := hT1.cell 0
  have b1 : (wB.alloc (.cells #[.int .u64 0, .string ⟨#[]⟩, .bool false, .int .u64 0, .int .u64 0, .int .u64 0, .int .u64 0, .bool false, .string ⟨#[]⟩, .string ⟨#[]⟩, .slice none 0 0, .int .i64 0] 55)).cell? ⟨tb, 1, none⟩ = some (.string ⟨#[]⟩) := hT1.cell 1
  have b2 : (wB.alloc (.cells #[.int .u64 0, .string ⟨#[]⟩, .bool false, .int .u64 0, .int .u64 0, .int .u64 0, .int .u64 0, .bool false, .string ⟨#[]⟩, .string ⟨#[]⟩, .slice none 0 0, .int .i64 0] 55)).cell? ⟨tb, 2, none⟩ = some (.bool false) := hT1.cell 2
  have b3 : (wB.alloc (.cells #[.int .u64 0, .string ⟨#[]⟩, .bool false, .int .u64 0, .int .u64 0, .int .u64 0, .int .u64 0, .bool false, .string ⟨#[]⟩, .string ⟨#[]⟩, .slice none 0 0, .int .i64 0] 55)).cell? ⟨tb, 3, none⟩ = some (.int .u64 0) := hT1.cell 3
  have b4 : (wB.alloc (.cells #[.int .u64 0, .string ⟨#[]⟩, .bool false, .int .u64 0, .int .u64 0, .int .u64 0, .int .u64 0, .bool false, .string ⟨#[]⟩, .string ⟨#[]⟩, .slice none 0 0, .int .i64 0] 55)).cell? ⟨tb, 4, none⟩ = some (.int .u64 0) := hT1.cell 4
  have b5 : (wB.alloc (.cells #[.int .u64 0, .string ⟨#[]⟩, .bool false, .int .u64 0, .int .u64 0, .int .u64 0, .int .u64 0, .bool false, .string ⟨#[]⟩, .string ⟨#[]⟩, .slice none 0 0, .int .i64 0] 55)).cell? ⟨tb, 5, none⟩ = some (.int .u64 0) := hT1.cell 5
  have b6 : (wB.alloc (.cells #[.int .u64 0, .string ⟨#[]⟩, .bool false, .int .u64 0, .int .u64 0, .int .u64 0, .int .u64 0, .bool false, .string ⟨#[]⟩, .string ⟨#[]⟩, .slice none 0 0, .int .i64 0] 55)).cell? ⟨tb, 6, none⟩ = some (.int .u64 0) := hT1.cell 6
  have b7 : (wB.alloc (.cells #[.int .u64 0, .string ⟨#[]⟩, .bool false, .int .u64 0, .int .u64 0, .int .u64 0, .int .u64 0, .bool false, .string ⟨#[]⟩, .string ⟨#[]⟩, .slice none 0 0, .int .i64 0] 55)).cell? ⟨tb, 7, none⟩ = some (.bool false) := hT1.cell 7
  have b8 : (wB.alloc (.cells #[.int .u64 0, .string ⟨#[]⟩, .bool false, .int .u64 0, .int .u64 0, .int .u64 0, .int .u64 0, .bool false, .string ⟨#[]⟩, .string ⟨#[]⟩, .slice none 0 0, .int .i64 0] 55)).cell? ⟨tb, 8, none⟩ = some (.string ⟨#[]⟩) := hT1.cell 8
  have b9 : (wB.alloc (.cells #[.int .u64 0, .string ⟨#[]⟩, .bool false, .int .u64 0, .int .u64 0, .int .u64 0, .int .u64 0, .bool false, .string ⟨#[]⟩, .string ⟨#[]⟩, .slice none 0 0, .int .i64 0] 55)).cell? ⟨tb, 9, none⟩ = some (.string ⟨#[]⟩) := hT1.cell 9
  have b10 : (wB.alloc (.cells #[.int .u64 0, .string ⟨#[]⟩, .bool false, .int .u64 0, .int .u64 0, .int .u64 0, .int .u64 0, .bool false, .string ⟨#[]⟩, .string ⟨#[]⟩, .slice none 0 0, .int .i64 0] 55)).cell? ⟨tb, 10, none⟩ = some (.slice none 0 0) := hT1.cell 10
  have b11 : (wB.alloc (.cells #[.int .u64 0, .string ⟨#[]⟩, .bool false, .int .u64 0, .int .u64 0, .int .u64 0, .int .u64 0, .bool false, .string ⟨#[]⟩, .string ⟨#[]⟩, .slice none 0 0, .int .i64 0] 55)).cell? ⟨tb, 11, none⟩ = some (.int .i64 0) := hT1.cell 11
  have k0 : (wB.alloc (.cells #[.int .u64 0, .string ⟨#[]⟩, .bool false, .int .u64 0, .int .u64 0, .int .u64 0, .int .u64 0, .bool false, .string ⟨#[]⟩, .string ⟨#[]⟩, .slice none 0 0, .int .i64 0] 55)).frozen? ⟨tb, 0, none⟩ = false := hT1.frozen 0
  have k1 : (wB.alloc (.cells #[.int .u64 0, .string ⟨#[]⟩, .bool false, .int .u64 0, .int .u64 0, .int .u64 0, .int .u64 0, .bool false, .string ⟨#[]⟩, .string ⟨#[]⟩, .slice none 0 0, .int .i64 0] 55)).frozen? ⟨tb, 1, none⟩ = false := hT1.frozen 1
  have k2 : (wB.alloc (.cells #[.int .u64 0, .string ⟨#[]⟩, .bool false, .int .u64 0, .int .u64 0, .int .u64 0, .int .u64 0, .bool false, .string ⟨#[]⟩, .string ⟨#[]⟩, .slice none 0 0, .int .i64 0] 55)).frozen? ⟨tb, 2, none⟩ = false := hT1.frozen 2
  have k3 : (wB.alloc (.cells #[.int .u64 0, .string ⟨#[]⟩, .bool false, .int .u64 0, .int .u64 0, .int .u64 0, .int .u64 0, .bool false, .string ⟨#[]⟩, .string ⟨#[]⟩, .slice none 0 0, .int .i64 0] 55)).frozen? ⟨tb, 3, none⟩ = false := hT1.frozen 3
  have k4 : (wB.alloc (.cells #[.int .u64 0, .string ⟨#[]⟩, .bool false, .int .u64 0, .int .u64 0, .int .u64 0, .int .u64 0, .bool false, .string ⟨#[]⟩, .string ⟨#[]⟩, .slice none 0 0, .int .i64 0] 55)).frozen? ⟨tb, 4, none⟩ = false := hT1.frozen 4
  have k5 : (wB.alloc (.cells #[.int .u64 0, .string ⟨#[]⟩, .bool false, .int .u64 0, .int .u64 0, .int .u64 0, .int .u64 0, .bool false, .string ⟨#[]⟩, .string ⟨#[]⟩, .slice none 0 0, .int .i64 0] 55)).frozen? ⟨tb, 5, none⟩ = false := hT1.frozen 5
  have k6 : (wB.alloc (.cells #[.int .u64 0, .string ⟨#[]⟩, .bool false, .int .u64 0, .int .u64 0, .int .u64 0, .int .u64 0, .bool false, .string ⟨#[]⟩, .string ⟨#[]⟩, .slice none 0 0, .int .i64 0] 55)).frozen? ⟨tb, 6, none⟩ = false := hT1.frozen 6
  have k7 : (wB.alloc (.cells #[.int .u64 0, .string ⟨#[]⟩, .bool false, .int .u64 0, .int .u64 0, .int .u64 0, .int .u64 0, .bool false, .string ⟨#[]⟩, .string ⟨#[]⟩, .slice none 0 0, .int .i64 0] 55)).frozen? ⟨tb, 7, none⟩ = false := hT1.frozen 7
  have k8 : (wB.alloc (.cells #[.int .u64 0, .string ⟨#[]⟩, .bool false, .int .u64 0, .int .u64 0, .int .u64 0, .int .u64 0, .bool false, .string ⟨#[]⟩, .string ⟨#[]⟩, .slice none 0 0, .int .i64 0] 55)).frozen? ⟨tb, 8, none⟩ = false := hT1.frozen 8
  have k9 : (wB.alloc (.cells #[.int .u64 0, .string ⟨#[]⟩, .bool false, .int .u64 0, .int .u64 0, .int .u64 0, .int .u64 0, .bool false, .string ⟨#[]⟩, .string ⟨#[]⟩, .slice none 0 0, .int .i64 0] 55)).frozen? ⟨tb, 9, none⟩ = false := hT1.frozen 9
  have k10 : (wB.alloc (.cells #[.int .u64 0, .string ⟨#[]⟩, .bool false, .int .u64 0, .int .u64 0, .int .u64 0, .int .u64 0, .bool false, .string ⟨#[]⟩, .string ⟨#[]⟩, .slice none 0 0, .int .i64 0] 55)).frozen? ⟨tb, 10, none⟩ = false := hT1.frozen 10
  have k11 : (wB.alloc (.cells #[.int .u64 0, .string ⟨#[]⟩, .bool false, .int .u64 0, .int .u64 0, .int .u64 0, .int .u64 0, .bool false, .string ⟨#[]⟩, .string ⟨#[]⟩, .slice none 0 0, .int .i64 0] 55)).frozen? ⟨tb, 11, none⟩ = false := hT1.frozen 11
  have hl2 := hT1.lt
  have HM2 : Hid (Mod [tb] (wB.alloc (.cells #[.int .u64 0, .string ⟨#[]⟩, .bool false, .int .u64 0, .int .u64 0, .int .u64 0, .int .u64 0, .bool false, .string ⟨#[]⟩, .string ⟨#[]⟩, .slice none 0 0, .int .i64 0] 55)) (wB.alloc (.cells #[.int .u64 0, .string ⟨#[]⟩, .bool false, .int .u64 0, .int .u64 0, .int .u64 0, .int .u64 0, .bool false, .string ⟨#[]⟩, .string ⟨#[]⟩, .slice none 0 0, .int .i64 0] 55))) := hide (Mod.refl _ _)
  have HSc : Hid (SStep (wB.alloc (.cells #[.int .u64 0, .string ⟨#[]⟩, .bool false, .int .u64 0, .int .u64 0, .int .u64 0, .int .u64 0, .bool false, .string ⟨#[]⟩, .string ⟨#[]⟩, .slice none 0 0, .int .i64 0] 55)) sb s s (wB.alloc (.cells #[.int .u64 0, .string ⟨#[]⟩, .bool false, .int .u64 0, .int .u64 0, .int .u64 0, .int .u64 0, .bool false, .string ⟨#[]⟩, .string ⟨#[]⟩, .slice none 0 0, .int .i64 0] 55))) := hide (SStep.refl (HBB.out.new ((Mod.refl [] wB).alloc _)) (Mod.refl _ _))
  clear hT1 hkk
  go_enter Tryz.func18, Tryz.ntmps18
  go_wp2_with fail
  refine bodyPost_ret (results_cell_row rfl _ _ tb 55 (said0 : Said).cells (0, 0) _ rfl ?_ Tryz.underlying55 rfl (by kernel_rfl)) rfl ?_
  · exact HT2.out
  · refine ⟨said0, _, rfl, .none HKk.out, ?_⟩
    exact own_key h0 (HSB.out.trans (SStep.refl HBB.out ((Mod.refl [] wB).alloc _))) (h0.ok.mono (by omega))
theorem own_play {K : Nat} {W w : World} {sb : Nat} {s : Ss} (h0 : Own K W w sb s) (hK : K ≤ 64000) (x : SAct) (hok : x.OK) (hlg : x.large = false) :
    Calls Tryz.prog 18 #[.pointer (some ⟨sb, 0, none⟩), x.val] w fun e w' => ∃ o s', e = .returned (.agg o.cells) ∧ s.Plays x o s' ∧ SStep w sb s s' w' ∧ Own (K + 200) W w' sb s' := by
  by_cases hq0 : x.kind = 0
  · exact own_play_open h0 hK x hok hlg hq0
  by_cases hq1 : x.kind = 1
  · exact own_play_write h0 hK x hok hlg hq1
  by_cases hq2 : x.kind = 2
  · exact own_play_read h0 hK x hok hlg hq2
  by_cases hq3 : x.kind = 3
  · exact own_play_reset h0 hK x hok hlg hq3
  by_cases hq4 : x.kind = 4
  · exact own_play_stop h0 hK x hok hlg hq4
  by_cases hq5 : x.kind = 5
  · exact own_play_got h0 hK x hok hlg hq5
  by_cases hq6 : x.kind = 6
  · exact own_play_next h0 hK x hok hlg hq6
  by_cases hq7 : x.kind = 7
  · exact own_play_acked h0 hK x hok hlg hq7
  by_cases hq8 : x.kind = 8
  · exact own_play_lost h0 hK x hok hlg hq8
  by_cases hq9 : x.kind = 9
  · exact own_play_other h0 hK x hok hlg hq9
  exact own_play_none h0 hK x hok hlg (by omega)
end Go.Proofs.YtjdfemfobcjecaaGreat

/-
  streams, plain: what each act does to the sums.
-/
namespace Go.Proofs.YtjdfemfobcjecaaGreat
open Go.RowKit
set_option linter.unusedVariables false
set_option linter.unusedSimpArgs false
theorem came_put {s : Ss} {x x' : St} (hx : x ∈ s.l) (hn : (s.l.map St.id).Nodup) (hid : x'.id = x.id) : (s.put x').came + x.top = s.came + x'.top := sum_put (f := St.top) hid hn hx
theorem came_same {s : Ss} {x x' : St} (hx : x ∈ s.l) (hn : (s.l.map St.id).Nodup) (hid : x'.id = x.id) (ht : x'.top = x.top) : (s.put x').came = s.came := by
  have := came_put hx hn hid
  omega
theorem Put.top_ge {o o' : Ib} {a : Nat} {D : List UInt8} {fin : Bool} (hp : Put o a D fin o') (h : o.WF) : o.top ≤ o'.top := by
  by_cases h0 : o.putErr a D.length fin = 0
  · have ha : ¬ 4611686018427387903 < a := fun hlt => by unfold Ib.putErr at h0; rw [if_pos hlt] at h0; cases h0
    have h1 : o.fitErr (a + D.length) fin = 0 := by unfold Ib.putErr at h0; rw [if_neg ha] at h0; exact h0
    obtain ⟨h2, h3, h4⟩ := Ib.fitErr_zero h1
    have key : ∀ {q : Ib}, q.far = (o.came (a + D.length) fin).far → q.final = (o.came (a + D.length) fin).final → q.known = (o.came (a + D.length) fin).known → o.top ≤ q.top := by
      intro q e1 e2 e3
      unfold Ib.top
      rw [e1, e2, e3]
      unfold Ib.came
      simp only
      cases hk : o.known with
      | true =>
        have := h3 hk
        cases fin with
        | true => have := this.2 rfl; simp; omega
        | false => simp
      | false =>
        cases fin with
        | true => have := h4 rfl; simp; omega
        | false => simp; omega
    cases hr : o.reset with
    | true => rw [hp.old h0 hr]; exact key rfl rfl rfl
    | false => rw [(hp.new h0 hr).1]; exact key rfl rfl rfl
  · rw [hp.bad h0]; exact Nat.le_refl _
theorem made_came (s : Ss) (x : St) (h : x.top = 0) : (s.made x).came = s.came := by
  unfold Ss.came
  show ((s.l ++ [x]).map St.top).sum = _
  rw [List.map_append, List.sum_append]
  simp [h]
structure Ss.Keeps (s s' : Ss) : Prop where
  sent : s'.sent = s.sent
  came : s'.came = s.came
  read : s'.read = s.read
theorem Ss.Keeps.refl (s : Ss) : s.Keeps s := ⟨rfl, rfl, rfl⟩
theorem Ss.Keeps.put {s : Ss} {x x' : St} (hx : x ∈ s.l) (hw : s.WF) (hid : x'.id = x.id) (ht : x'.top = x.top) : s.Keeps (s.put x') := ⟨rfl, came_same hx hw.ids hid ht, rfl⟩
theorem keeps_opens {s s' : Ss} {k n e : Nat} (h : s.Opens k n e s') : s.Keeps s' := by
  rcases h with ⟨_, _, _, rfl⟩ | ⟨_, _, _, _, rfl⟩ | ⟨_, _, _, _, xb, ib, im, ob, rfl⟩
  · exact .refl _
  · exact .refl _
  · exact ⟨rfl, made_came _ _ (newSt_zero _ _ _ _ _ _).1, rfl⟩
theorem keeps_names {s s' : Ss} {id c : Nat} {may : Bool} {v : Value} (h : s.Names id may v c s') : s.Keeps s' := by
  cases h with
  | made s' x n h1 hn hm hc hl hf hop hx hid =>
    have hg := hf.grew (Nat.mod_lt _ (by omega))
    obtain ⟨t, e1, e2, e3⟩ := hg.l
    refine ⟨hg.sent, ?_, hg.read⟩
    unfold Ss.came
    rw [e1, List.map_append, List.sum_append]
    have : (t.map St.top).sum = 0 := by
      have h0 : ∀ y ∈ t, y.top = 0 := fun y hy => (e3 y hy).2.2.1
      clear e1 e2 e3
      induction t with
      | nil => rfl
      | cons y t ih => rw [List.map_cons, List.sum_cons, h0 y (by simp), ih (fun z hz => h0 z (by simp [hz]))]
    omega
  | _ => exact .refl _
theorem keeps_resetBy {s : Ss} {x : St} (hw : s.WF) (hx : x ∈ s.l) (b : Nat) (dv sv : Value) (o : Ob) (code : Nat) : s.Keeps (s.put (x.resetBy b dv sv o code)) := by
  refine .put hx hw ?_ ?_
  · unfold St.resetBy; split <;> rfl
  · unfold St.resetBy; split <;> rfl
theorem keeps_others {s s' : Ss} {l : Lm} (h : s.Others l s') : s.Keeps s' := by
  refine ⟨by rw [h.eq], ?_, by rw [h.eq]⟩
  unfold Ss.came
  congr 1
  apply List.ext_getElem?
  intro i
  rw [List.getElem?_map, List.getElem?_map]
  cases hx : s.l[i]? with
  | none =>
    have : s'.l[i]? = none := by rw [List.getElem?_eq_none_iff] at hx ⊢; rw [h.len]; exact hx
    rw [this]
  | some x =>
    obtain ⟨y, hy, hr⟩ := h.each i x hx
    obtain ⟨dv, sv, rfl⟩ := hr.is
    rw [hy]
    simp only [Option.map_some, Option.some.injEq]
    unfold St.raiseOut
    cases x.out <;> rfl
theorem gots_sums {K : Nat} {s s' : Ss} {f : Fr} {r : Int} (h : s.OK K) (hI : ∀ s1 v c, s.Names f.a (s.takes f.a) v c s1 → ∀ x ∈ s1.l, ∀ b m o, x.inn = some (b, m, o) → o.WF) (hg : s.Gots f r s') : s'.sent = s.sent ∧ s'.read = s.read ∧ s.came ≤ s'.came := by
  have of : ∀ {t : Ss}, s.Keeps t → t.sent = s.sent ∧ t.read = s.read ∧ s.came ≤ t.came := fun hk => ⟨hk.sent, hk.read, by rw [hk.came]; exact Nat.le_refl _⟩
  have two : ∀ {t u : Ss}, s.Keeps t → t.Keeps u → u.sent = s.sent ∧ u.read = s.read ∧ s.came ≤ u.came := fun h1 h2 => ⟨h2.sent.trans h1.sent, h2.read.trans h1.read, by rw [h2.came, h1.came]; exact Nat.le_refl _⟩
  cases hg with
  | comes r s' hk hc =>
    cases hc with
    | names v c s' hn hc => exact of (keeps_names hn)
    | beyond s' x hn => exact of (keeps_names hn)
    | reset s1 x b m m' o hn hx hid hb hi hk =>
      have h1 := keeps_names hn
      have hok := h.names hn
      have hw := hI _ _ _ hn x hx _ _ _ hi
      obtain ⟨_, _, h3, h4⟩ := Ib.resetTo_top hw f.c
      have hxt : x.top = o.top := by unfold St.top; rw [hi]
      have hp := came_put (x' := x.withIn b m' (o.resetTo f.c)) hx hok.wf.ids rfl
      have ht : (x.withIn b m' (o.resetTo f.c)).top = (o.resetTo f.c).top := rfl
      refine ⟨h1.sent, h1.read, ?_⟩
      have hge : o.top ≤ (o.resetTo f.c).top := by
        by_cases h0 : o.resetErr f.c = 0
        · obtain ⟨e1, e2, _⟩ := h3 h0; omega
        · rw [h4 h0]; exact Nat.le_refl _
      have := h1.came
      omega
    | put s1 x b m m' o o' hn hx hid hb hi hk hp =>
      have h1 := keeps_names hn
      have hok := h.names hn
      have hw := hI _ _ _ hn x hx _ _ _ hi
      have hge := hp.top_ge hw
      have hxt : x.top = o.top := by unfold St.top; rw [hi]
      have hpp := came_put (x' := x.withIn b m' o') hx hok.wf.ids rfl
      have ht : (x.withIn b m' o').top = o'.top := rfl
      refine ⟨h1.sent, h1.read, ?_⟩
      have := h1.came
      omega
  | stopBad v c s' hk hn hc => exact of (keeps_names hn)
  | stop s1 x b dv sv dv' sv' o hk hn hx hid ho => exact two (keeps_names hn) (keeps_resetBy (h.names hn).wf hx _ _ _ _ _)
  | raiseBad v c s' hk hn hc => exact of (keeps_names hn)
  | raise s1 x b dv sv dv' sv' o hk hn hx hid ho => exact two (keeps_names hn) (.put hx (h.names hn).wf rfl rfl)
  | blocked v c s' hk hn => exact of (keeps_names hn)
  | data s' hk ho => exact of (keeps_others ho)
  | bidis s' hk ho => exact of (keeps_others ho)
  | unis s' hk ho => exact of (keeps_others ho)
  | idle hk => exact of (.refl _)
  | bad hk => exact of (.refl _)
theorem ctlSt_top (x : St) : x.ctlSt.top = x.top := by unfold St.top; rw [x.ctlSt_same.2.2.1]
theorem pieces_sums {s s' : Ss} {x : St} (hw : s.WF) (hx : x ∈ s.l) {most : Int} {f : Fr} {is : Bool} (h : s.Pieces x most f is s') : s'.came = s.came ∧ s'.read = s.read ∧ s.sent ≤ s'.sent := by
  cases h with
  | none => exact ⟨rfl, rfl, Nat.le_refl _⟩
  | goes b dv sv dv' sv' o ho => exact ⟨came_same (x' := x.withOut b dv' sv' (o.next (s.much o most))) hx hw.ids rfl rfl, rfl, Nat.le_add_right _ _⟩
theorem nexts_sums {K : Nat} {most : Int} {s s' : Ss} {ids : List Int} {f : Fr} {is : Bool} (hn : Ss.Nexts most s ids f is s') : s.OK K → s'.came = s.came ∧ s'.read = s.read ∧ s.sent ≤ s'.sent := by
  induction hn with
  | none s => exact fun _ => ⟨rfl, rfl, Nat.le_refl _⟩
  | ctl x ids hx h => exact fun hk => ⟨came_same hx hk.wf.ids x.ctlSt_same.1 (ctlSt_top x), rfl, Nat.le_refl _⟩
  | piece x ids hx h hp =>
    intro hk
    obtain ⟨e1, e2, e3⟩ := pieces_sums (hk.ctl hx).wf (Ss.put_mem hx x.ctlSt_same.1) hp
    exact ⟨e1.trans (came_same hx hk.wf.ids x.ctlSt_same.1 (ctlSt_top x)), e2, e3⟩
  | more x hx h hp hn ih =>
    intro hk
    obtain ⟨e1, e2, e3⟩ := pieces_sums (hk.ctl hx).wf (Ss.put_mem hx x.ctlSt_same.1) hp
    obtain ⟨k1, k2, k3⟩ := ih ((hk.ctl hx).piece (Ss.put_mem hx x.ctlSt_same.1) hp)
    exact ⟨k1.trans (e1.trans (came_same hx hk.wf.ids x.ctlSt_same.1 (ctlSt_top x))), k2.trans e2, Nat.le_trans e3 k3⟩
/-- what an act does to the sums -/
structure Ss.Sums (s : Ss) (x : SAct) (o : Said) (s' : Ss) : Prop where
  sent : s.sent ≤ s'.sent
  came : s.came ≤ s'.came
  rd : s'.read = s.read + (if x.kind = 2 then o.text.size else 0)
  noCame : x.kind ≠ 5 → s'.came = s.came
  noSent : x.kind ≠ 6 → s'.sent = s.sent
theorem Ss.Sums.of {s s' : Ss} {x : SAct} {o : Said} (h : s.Keeps s') (hz : x.kind = 2 → o.text.size = 0) : s.Sums x o s' := by
  refine ⟨by rw [h.sent]; exact Nat.le_refl _, by rw [h.came]; exact Nat.le_refl _, ?_, fun _ => h.came, fun _ => h.sent⟩
  rw [h.read]
  split
  · rw [hz (by assumption)]; rfl
  · rfl
theorem Ss.Plays.sums {K : Nat} {s s' : Ss} {x : SAct} {o : Said} (h : s.OK K) (hI : ∀ y ∈ s.l, ∀ b m o, y.inn = some (b, m, o) → o.WF) (hp : s.Plays x o s') : s.Sums x o s' := by
  cases hp with
  | open_ hk n c s' ho => exact .of (keeps_opens ho) (fun h2 => by omega)
  | write hk c s' ho =>
    cases ho with
    | none => exact .of (.refl _) (fun h2 => by omega)
    | arg => exact .of (.refl _) (fun h2 => by omega)
    | goes y b dv sv dv' sv' o hg ho => exact .of (.put (Ss.get_mem hg).1 h.wf rfl rfl) (fun h2 => by omega)
  | read hk t d c s' ho =>
    cases ho with
    | none => exact .of (.refl _) (fun _ => rfl)
    | arg => exact .of (.refl _) (fun _ => rfl)
    | goes y b m m' o hg hi =>
      have hy := (Ss.get_mem hg).1
      obtain ⟨e1, e2, e3⟩ := Ib.read_taken (hI y hy _ _ _ hi) x.n
      have hid : (y.readTo b m' (o.read x.n)).id = y.id := by unfold St.readTo; split <;> rfl
      have htop : (y.readTo b m' (o.read x.n)).top = y.top := by
        have : y.top = o.top := by unfold St.top; rw [hi]
        rw [this]
        unfold St.readTo; split <;> exact e2
      have hc := came_same hy h.wf.ids hid htop
      have hr : (s.readsTo y b m' o x.n).read = s.read + (o.readS x.n).length := by unfold Ss.readsTo; split <;> rfl
      have hs : (s.readsTo y b m' o x.n).sent = s.sent := by unfold Ss.readsTo; split <;> rfl
      have hcc : (s.readsTo y b m' o x.n).came = s.came := by unfold Ss.readsTo; split <;> exact hc
      refine ⟨by rw [hs]; exact Nat.le_refl _, by rw [hcc]; exact Nat.le_refl _, ?_, fun _ => hcc, fun _ => hs⟩
      rw [hr, if_pos hk]
      rfl
  | reset hk c s' ho =>
    cases ho with
    | goes hc y b dv sv dv' sv' o hg ho => exact .of (keeps_resetBy h.wf (Ss.get_mem hg).1 _ _ _ _ _) (fun h2 => by omega)
    | _ => exact .of (.refl _) (fun h2 => by omega)
  | stop hk c s' ho =>
    cases ho with
    | goes hc y b m o hg ho hv => exact .of (.put (Ss.get_mem hg).1 h.wf rfl rfl) (fun h2 => by omega)
    | _ => exact .of (.refl _) (fun h2 => by omega)
  | got hk c s' ho =>
    obtain ⟨e1, e2, e3⟩ := gots_sums h (fun s1 v c hn => hn.ib hI) ho
    exact ⟨by rw [e1]; exact Nat.le_refl _, e3, by rw [e2, if_neg (by omega)]; rfl, fun h5 => absurd hk h5, fun _ => e1⟩
  | next hk f is s' ho =>
    have key : s'.came = s.came ∧ s'.read = s.read ∧ s.sent ≤ s'.sent := by
      cases ho with
      | data hr => exact ⟨rfl, rfl, Nat.le_refl _⟩
      | ids hr ss hu hn => exact nexts_sums hn h
    obtain ⟨e1, e2, e3⟩ := key
    exact ⟨e3, by rw [e1]; exact Nat.le_refl _, by rw [e2, if_neg (by omega)]; rfl, fun _ => e1, fun h6 => absurd hk h6⟩
  | acked hk s' ho =>
    cases ho with
    | no => exact .of (.refl _) (fun h2 => by omega)
    | goes y b dv sv dv' sv' o hg hk2 ho => exact .of (.put (Ss.get_mem hg).1 h.wf rfl rfl) (fun h2 => by omega)
  | lost hk s' ho =>
    cases ho with
    | data => exact .of ⟨rfl, rfl, rfl⟩ (fun h2 => by omega)
    | none => exact .of (.refl _) (fun h2 => by omega)
    | noOut => exact .of (.refl _) (fun h2 => by omega)
    | goes y b dv sv dv' sv' o hg hk2 ho => exact .of (.put (Ss.get_mem hg).1 h.wf rfl rfl) (fun h2 => by omega)
    | raise y hg hk2 => exact .of (.put (Ss.get_mem hg).1 h.wf rfl rfl) (fun h2 => by omega)
    | stop y hg hk2 => exact .of (.put (Ss.get_mem hg).1 h.wf rfl rfl) (fun h2 => by omega)
    | reset y hg hk2 => exact .of (.put (Ss.get_mem hg).1 h.wf rfl rfl) (fun h2 => by omega)
    | other => exact .of (.refl _) (fun h2 => by omega)
  | other hk s' ho => exact .of (keeps_others ho) (fun h2 => by omega)
  | none hk => exact .of (.refl _) (fun h2 => by omega)
end Go.Proofs.YtjdfemfobcjecaaGreat

/-
  streams, plain: what goes is let go by the other side's limits.
-/
namespace Go.Proofs.YtjdfemfobcjecaaGreat
open Go.RowKit
set_option linter.unusedVariables false
set_option linter.unusedSimpArgs false
/-- the limit that a stream begins with -/
def Lm.first (l : Lm) (id : Nat) : Nat := if id % 4 = 1 then l.bl else if id % 4 = 2 then l.un else l.br
def St.lim (x : St) : Nat := match x.out with
  | some p => p.2.2.2.limit
  | none => 0
def updN (f : Nat → Option Nat) (i v : Nat) : Nat → Option Nat := fun j => if j = i then some v else f j
/-- a set of the side 0, and what two maps of ids know of it: how wide its streams are, how much of each went -/
structure Hld (s : Ss) (oth : Lm) (wm tm : Nat → Option Nat) : Prop where
  side : s.side = 0
  ot : s.other = oth.capped
  lim : ∀ x ∈ s.l, x.lim ≤ max (oth.first x.id) ((wm x.id).getD 0)
  top : ∀ x ∈ s.l, x.sent = (tm x.id).getD 0
  keys : ∀ id, (tm id).isSome = true → ∃ x ∈ s.l, x.id = id
theorem Hld.of {s s' : Ss} {oth : Lm} {wm wm' tm : Nat → Option Nat} (h : Hld s oth wm tm) (h1 : s'.side = s.side) (h2 : s'.other = s.other) (hw : ∀ i, (wm i).getD 0 ≤ (wm' i).getD 0)
    (each : ∀ y ∈ s'.l, (∃ x ∈ s.l, y.id = x.id ∧ y.lim ≤ max x.lim ((wm' y.id).getD 0) ∧ y.sent = x.sent) ∨ (y.lim ≤ oth.first y.id ∧ y.sent = 0 ∧ ∀ x ∈ s.l, x.id ≠ y.id))
    (back : ∀ x ∈ s.l, ∃ y ∈ s'.l, y.id = x.id) : Hld s' oth wm' tm := by
  refine ⟨h1.trans h.side, h2.trans h.ot, fun y hy => ?_, fun y hy => ?_, fun id hi => ?_⟩
  · rcases each y hy with ⟨x, hx, e1, e2, _⟩ | ⟨e, _⟩
    · have := h.lim x hx
      have := hw x.id
      rw [e1] at e2 ⊢
      omega
    · omega
  · rcases each y hy with ⟨x, hx, e1, _, e3⟩ | ⟨_, e, hn⟩
    · rw [e3, e1]; exact h.top x hx
    · rw [e]
      cases ht : tm y.id with
      | none => rfl
      | some v =>
        obtain ⟨x, hx, hxi⟩ := h.keys y.id (by rw [ht]; rfl)
        exact absurd hxi (hn x hx)
  · obtain ⟨x, hx, rfl⟩ := h.keys id hi
    obtain ⟨y, hy, e⟩ := back x hx
    exact ⟨y, hy, e⟩
theorem Hld.put {s : Ss} {oth : Lm} {wm wm' tm : Nat → Option Nat} (h : Hld s oth wm tm) {x x' : St} (hx : x ∈ s.l) (hid : x'.id = x.id) (hl : x'.lim ≤ max x.lim ((wm' x.id).getD 0)) (hs : x'.sent = x.sent) (hw : ∀ i, (wm i).getD 0 ≤ (wm' i).getD 0) : Hld (s.put x') oth wm' tm := by
  refine h.of rfl rfl hw (fun y hy => ?_) (fun y hy => ?_)
  · rcases Ss.mem_put hy with rfl | ⟨hy, _⟩
    · exact .inl ⟨x, hx, hid, by rw [hid]; exact hl, hs⟩
    · exact .inl ⟨y, hy, rfl, Nat.le_max_left _ _, rfl⟩
  · exact Ss.mem_put_of hid hx hy
theorem Hld.same {s s' : Ss} {oth : Lm} {wm tm : Nat → Option Nat} (h : Hld s oth wm tm) (h1 : s'.side = s.side) (h2 : s'.other = s.other) (h3 : s'.l = s.l) : Hld s' oth wm tm :=
  h.of h1 h2 (fun _ => Nat.le_refl _) (fun y hy => .inl ⟨y, by rw [← h3]; exact hy, rfl, Nat.le_max_left _ _, rfl⟩) (fun y hy => ⟨y, by rw [h3]; exact hy, rfl⟩)
theorem Hld.put' {s : Ss} {oth : Lm} {wm tm : Nat → Option Nat} (h : Hld s oth wm tm) {x x' : St} (hx : x ∈ s.l) (hid : x'.id = x.id) (hl : x'.lim = x.lim) (hs : x'.sent = x.sent) : Hld (s.put x') oth wm tm :=
  h.put hx hid (by rw [hl]; exact Nat.le_max_left _ _) hs (fun _ => Nat.le_refl _)
theorem Lm.first_way {s : Ss} {oth : Lm} (h0 : s.side = 0) (ho : s.other = oth.capped) (id : Nat) (hi : id % 4 ≠ 3) : (Ob.fresh (s.wayOut id)).limit ≤ oth.first id := by
  have hm : s.mine id = (id % 2 == 0) := by unfold Ss.mine; rw [h0]
  have key : s.wayOut id ≤ oth.first id := by
    unfold Ss.wayOut Lm.first
    rw [hm, ho]
    unfold Lm.capped
    simp only
    by_cases h1 : id % 4 = 1
    · have h2 : (id % 2 == 0) = false := by rw [beq_eq_false_iff_ne]; omega
      rw [if_pos h1, if_neg (by omega), h2]
      exact Nat.min_le_left _ _
    · rw [if_neg h1]
      by_cases h2 : id % 4 = 2
      · rw [if_pos h2, if_pos (by omega)]; exact Nat.min_le_left _ _
      · rw [if_neg h2]
        by_cases h3 : id % 4 = 0
        · have h4 : (id % 2 == 0) = true := by rw [beq_iff_eq]; omega
          rw [if_neg (by omega), h4]
          exact Nat.min_le_left _ _
        · omega
  unfold Ob.fresh
  simp only
  omega
theorem newSt_lim {s : Ss} {oth : Lm} (h0 : s.side = 0) (ho : s.other = oth.capped) (id xb ib im ob : Nat) : (s.newSt id xb ib im ob).lim ≤ oth.first id := by
  unfold Ss.newSt St.lim
  simp only
  cases hs : s.sends id with
  | false => simp
  | true =>
    simp only [if_true]
    refine Lm.first_way h0 ho id (fun e3 => ?_)
    unfold Ss.sends at hs
    rw [h0] at hs
    have h1 : (id % 4 / 2 == 0) = false := by rw [beq_eq_false_iff_ne]; omega
    have h2 : (id % 2 == 0) = false := by rw [beq_eq_false_iff_ne]; omega
    rw [h1, h2] at hs
    cases hs
theorem Hld.opens {s s' : Ss} {oth : Lm} {wm tm : Nat → Option Nat} {k n e : Nat} (h : Hld s oth wm tm) (hw : s.WF) (hk : k < 4) (ho : s.Opens k n e s') : Hld s' oth wm tm := by
  rcases ho with ⟨_, _, _, rfl⟩ | ⟨_, _, _, _, rfl⟩ | ⟨_, _, hn, _, xb, ib, im, ob, rfl⟩
  · exact h
  · exact h
  · have e4 : n % 4 = k := by omega
    have hnew := hw.next (id := n) (by rw [e4]; omega)
    refine h.of rfl rfl (fun _ => Nat.le_refl _) (fun y hy => ?_) (fun y hy => ⟨y, List.mem_append_left _ hy, rfl⟩)
    have hy : y ∈ s.l ++ [s.newSt n xb ib im ob] := hy
    rcases List.mem_append.1 hy with hy | hy
    · exact .inl ⟨y, hy, rfl, Nat.le_max_left _ _, rfl⟩
    · obtain rfl := List.mem_singleton.1 hy
      exact .inr ⟨newSt_lim h.side h.ot _ _ _ _ _, (newSt_zero _ _ _ _ _ _).2.1, hnew⟩
theorem Hld.names {s s' : Ss} {oth : Lm} {wm tm : Nat → Option Nat} {id c : Nat} {may : Bool} {v : Value} (h : Hld s oth wm tm) (hw : s.WF) (hn : s.Names id may v c s') : Hld s' oth wm tm := by
  have hw' := hn.wf hw
  cases hn with
  | made s' x n h1 hn hm hc hl hf hop hx hid =>
    have hg := hf.grew (Nat.mod_lt _ (by omega))
    obtain ⟨t, e1, e2, e3⟩ := hg.l
    have hids := hw'.ids
    rw [e1, List.map_append, List.nodup_append] at hids
    refine h.of hg.side hg.other (fun _ => Nat.le_refl _) (fun y hy => ?_) (fun y hy => ⟨y, by rw [e1]; exact List.mem_append_left _ hy, rfl⟩)
    rw [e1] at hy
    rcases List.mem_append.1 hy with hy | hy
    · exact .inl ⟨y, hy, rfl, Nat.le_max_left _ _, rfl⟩
    · obtain ⟨_, _, _, f4, _, _, f7⟩ := e3 y hy
      exact .inr ⟨by rw [f7]; exact newSt_lim h.side h.ot _ _ _ _ _, f4, fun x hx e => hids.2.2 _ (List.mem_map.2 ⟨x, hx, rfl⟩) _ (List.mem_map.2 ⟨y, hy, rfl⟩) e⟩
  | _ => exact h
theorem St.lim_resetBy (x : St) (b : Nat) (dv sv dv' sv' : Value) (o : Ob) (code : Nat) (ho : x.out = some (b, dv, sv, o)) : (x.resetBy b dv' sv' o code).lim = x.lim ∧ (x.resetBy b dv' sv' o code).sent = x.sent ∧ (x.resetBy b dv' sv' o code).id = x.id := by
  have h1 : x.lim = o.limit := by unfold St.lim; rw [ho]
  have h2 : x.sent = o.sent := by unfold St.sent; rw [ho]
  have h3 : o.resetNow.limit = o.limit := by unfold Ob.resetNow; split <;> rfl
  have h4 := o.resetNow_sent
  rw [h1, h2]
  unfold St.resetBy
  split
  · exact ⟨h3, h4, rfl⟩
  · exact ⟨h3, h4, rfl⟩
theorem Hld.outs {s : Ss} {oth : Lm} {wm tm : Nat → Option Nat} (h : Hld s oth wm tm) {x : St} (hx : x ∈ s.l) {b : Nat} {dv sv dv' sv' : Value} {o o' : Ob} (ho : x.out = some (b, dv, sv, o)) (hl : o'.limit = o.limit) (hs : o'.sent = o.sent) : Hld (s.put (x.withOut b dv' sv' o')) oth wm tm := by
  have h1 : x.lim = o.limit := by unfold St.lim; rw [ho]
  have h2 : x.sent = o.sent := by unfold St.sent; rw [ho]
  exact h.put' hx rfl (by rw [h1]; exact hl) (by rw [h2]; exact hs)
theorem Hld.gots {s s' : Ss} {oth : Lm} {wm tm : Nat → Option Nat} {f : Fr} {r : Int} (h : Hld s oth wm tm) (hw : s.WF) (h1 : f.kind ≠ 16) (h2 : f.kind ≠ 18) (h3 : f.kind ≠ 19) (hg : s.Gots f r s') :
    Hld s' oth (if f.kind = 17 ∧ r = 0 then updN wm f.a (max ((wm f.a).getD 0) f.b) else wm) tm := by
  have ne : ∀ {t : Ss}, f.kind ≠ 17 ∨ r ≠ 0 → Hld t oth wm tm → Hld t oth (if f.kind = 17 ∧ r = 0 then updN wm f.a (max ((wm f.a).getD 0) f.b) else wm) tm := fun hn ht => by
    rw [if_neg (fun hc => by rcases hn with hn | hn; exact hn hc.1; exact hn hc.2)]; exact ht
  cases hg with
  | comes r s' hk hc =>
    refine ne (.inl (by omega)) ?_
    cases hc with
    | names v c s' hn hc => exact h.names hw hn
    | beyond s' x hn => exact h.names hw hn
    | reset s1 x b m m' o hn hx hid hb hi hk => exact (h.names hw hn).put' hx rfl rfl rfl
    | put s1 x b m m' o o' hn hx hid hb hi hk hp => exact (h.names hw hn).put' hx rfl rfl rfl
  | stopBad v c s' hk hn hc => exact ne (.inl (by omega)) (h.names hw hn)
  | stop s1 x b dv sv dv' sv' o hk hn hx hid ho =>
    refine ne (.inl (by omega)) ?_
    obtain ⟨e1, e2, e3⟩ := x.lim_resetBy b dv sv dv' sv' o f.b ho
    exact (h.names hw hn).put' hx e3 e1 e2
  | raiseBad v c s' hk hn hc => exact ne (.inr (by omega)) (h.names hw hn)
  | raise s1 x b dv sv dv' sv' o hk hn hx hid ho =>
    rw [if_pos ⟨hk, rfl⟩]
    have h1 : x.lim = o.limit := by unfold St.lim; rw [ho]
    have h2 : x.sent = o.sent := by unfold St.sent; rw [ho]
    refine (h.names hw hn).put hx rfl ?_ (by rw [h2]; rfl) (fun i => ?_)
    · show (o.raise f.b).limit ≤ _
      rw [h1, hid]
      unfold updN Ob.raise
      simp
      omega
    · unfold updN
      split
      · rename_i e; subst e; simp; omega
      · exact Nat.le_refl _
  | blocked v c s' hk hn => exact ne (.inl (by omega)) (h.names hw hn)
  | data s' hk ho => exact absurd hk h1
  | bidis s' hk ho => exact absurd hk h2
  | unis s' hk ho => exact absurd hk h3
  | idle hk => exact ne (.inl (by omega)) h
  | bad hk => exact ne (.inl (by omega)) h
/-- a piece that goes -/
structure Goes (oth : Lm) (wm : Nat → Option Nat) (most : Int) (f : Fr) : Prop where
  id : f.a % 4 ≠ 3
  lim : f.b + f.data.size ≤ max (oth.first f.a) ((wm f.a).getD 0)
  most : (f.data.size : Int) ≤ max most 0
  small : f.b + f.data.size ≤ 65536
def topN (tm : Nat → Option Nat) (f : Fr) : Nat → Option Nat := updN tm f.a (max ((tm f.a).getD 0) (f.b + f.data.size))
theorem Hld.pieces {K : Nat} {s s' : Ss} {oth : Lm} {wm tm : Nat → Option Nat} {x : St} (h : Hld s oth wm tm) (hk : s.OK K) (hx : x ∈ s.l) {most : Int} {f : Fr} {is : Bool} (hp : s.Pieces x most f is s') :
    (is = false ∧ Hld s' oth wm tm) ∨ (is = true ∧ f.kind = 8 ∧ Goes oth wm most f ∧ Hld s' oth wm (topN tm f)) := by
  cases hp with
  | none => exact .inl ⟨rfl, h⟩
  | goes b dv sv dv' sv' o ho =>
    have hg := hk.good x hx b dv sv o ho
    have h1 : x.lim = o.limit := by unfold St.lim; rw [ho]
    have h2 : x.sent = o.sent := by unfold St.sent; rw [ho]
    have hlx := h.lim x hx
    have htx := h.top x hx
    have hmm : max (s.much o most) 0 ≤ max most 0 := by
      unfold Ss.much
      split
      · exact Int.le_refl _
      · omega
    rcases hg.told (s.much o most) with ⟨t1, t2⟩ | ⟨t0, t1, t2, t3, t4, t5, t6, t7, t8, t9⟩
    · left
      refine ⟨by rw [t1], ?_⟩
      refine (h.outs (dv' := dv') (sv' := sv') hx ho (o' := o) rfl rfl).same rfl rfl ?_
      unfold Ss.pieced
      rw [t2]
    · right
      obtain ⟨t, ht⟩ : ∃ t, o.nextTold (s.much o most) = t := ⟨_, rfl⟩
      rw [ht] at t1 t2 t3 t4 t5 t6 t7 t8 t9 ⊢
      have hsz : (t.fr x.id).data.size = t.s.length := by unfold Told.fr; simp [ByteArray.size]
      have hb : (t.fr x.id).b = t.at_ := rfl
      have ha : (t.fr x.id).a = x.id := rfl
      have hol : t.at_ + t.s.length ≤ o.limit := by have := hg.lim; rcases t6 with t6 | ⟨_, t6⟩ <;> omega
      have hsent : (o.next (s.much o most)).sent = max o.sent (t.at_ + t.s.length) := by rw [t7, Ob.takeEnd_sent]
      have hlimn : (o.next (s.much o most)).limit = o.limit := by rw [t7, Ob.takeEnd_limit]
      refine ⟨t1, rfl, ⟨?_, ?_, ?_, ?_⟩, ?_⟩
      · rw [ha]
        intro e3
        have hs := hk.wf.out x hx
        rw [ho] at hs
        unfold Ss.sends at hs
        rw [h.side] at hs
        have h1 : (x.id % 4 / 2 == 0) = false := by rw [beq_eq_false_iff_ne]; omega
        have h2 : (x.id % 2 == 0) = false := by rw [beq_eq_false_iff_ne]; omega
        rw [h1, h2] at hs
        cases hs
      · rw [hsz, hb, ha]; omega
      · rw [hsz, t3]
        unfold Ob.much
        omega
      · rw [hsz, hb]; have := hg.wf.size; omega
      · refine ⟨h.side, h.ot, fun y hy => ?_, fun y hy => ?_, fun id hi => ?_⟩
        · have hy : y ∈ (s.put (x.withOut b dv' sv' (o.next (s.much o most)))).l := hy
          rcases Ss.mem_put hy with rfl | ⟨hy, _⟩
          · show (o.next (s.much o most)).limit ≤ _
            rw [hlimn, ← h1]; exact hlx
          · exact h.lim y hy
        · have hy : y ∈ (s.put (x.withOut b dv' sv' (o.next (s.much o most)))).l := hy
          rcases Ss.mem_put hy with rfl | ⟨hy, hne⟩
          · show (o.next (s.much o most)).sent = (topN tm (t.fr x.id) x.id).getD 0
            unfold topN updN
            rw [ha, if_pos rfl, hsent, hsz, hb, ← htx, h2]
            rfl
          · unfold topN updN
            rw [ha, if_neg (show y.id ≠ x.id from hne)]
            exact h.top y hy
        · unfold topN updN at hi
          rw [ha] at hi
          show ∃ y ∈ (s.put (x.withOut b dv' sv' (o.next (s.much o most)))).l, y.id = id
          by_cases e : id = x.id
          · subst e
            exact ⟨_, Ss.put_mem hx rfl, rfl⟩
          · rw [if_neg e] at hi
            obtain ⟨z, hz, hzi⟩ := h.keys id hi
            obtain ⟨y, hy, hyi⟩ := Ss.mem_put_of (x := x) (x' := x.withOut b dv' sv' (o.next (s.much o most))) rfl hx hz
            exact ⟨y, hy, hyi.trans hzi⟩
theorem St.ctlFr_kind (x : St) (h : x.ctlIs = true) : x.ctlFr.kind ≠ 8 := by
  unfold St.ctlFr St.goneFr fnum
  unfold St.ctlIs at h
  split
  · show (17 : Nat) ≠ 8; decide
  · split
    · show (5 : Nat) ≠ 8; decide
    · split
      · show (4 : Nat) ≠ 8; decide
      · simp_all
theorem Hld.ctl {s : Ss} {oth : Lm} {wm tm : Nat → Option Nat} {x : St} (h : Hld s oth wm tm) (hx : x ∈ s.l) : Hld (s.put x.ctlSt) oth wm tm := by
  obtain ⟨e1, _, _, e3, _⟩ := x.ctlSt_same
  exact h.put' hx e1 (by unfold St.lim; rw [e3]) (by unfold St.sent; rw [e3])
theorem Hld.nexts {K : Nat} {most : Int} {s s' : Ss} {ids : List Int} {f : Fr} {is : Bool} {oth : Lm} {wm tm : Nat → Option Nat} (hn : Ss.Nexts most s ids f is s') : s.OK K → Hld s oth wm tm →
    ((is = false ∨ f.kind ≠ 8) ∧ Hld s' oth wm tm) ∨ (is = true ∧ f.kind = 8 ∧ Goes oth wm most f ∧ Hld s' oth wm (topN tm f)) := by
  induction hn with
  | none s => exact fun _ h => .inl ⟨.inl rfl, h⟩
  | ctl x ids hx hc => exact fun _ h => .inl ⟨.inr (x.ctlFr_kind hc), h.ctl hx⟩
  | piece x ids hx hc hp =>
    intro hk h
    rcases (h.ctl hx).pieces (hk.ctl hx) (Ss.put_mem hx x.ctlSt_same.1) hp with ⟨h1, _⟩ | h1
    · cases h1
    · exact .inr h1
  | more x hx hc hp hn ih =>
    intro hk h
    rcases (h.ctl hx).pieces (hk.ctl hx) (Ss.put_mem hx x.ctlSt_same.1) hp with ⟨_, h1⟩ | ⟨h1, _⟩
    · exact ih ((hk.ctl hx).piece (Ss.put_mem hx x.ctlSt_same.1) hp) h1
    · cases h1
/-- what an act does: the frame that goes, or none -/
theorem Hld.plays {K : Nat} {s s' : Ss} {x : SAct} {o : Said} {oth : Lm} {wm tm : Nat → Option Nat} (h : Hld s oth wm tm) (hk : s.OK K) (hp : s.Plays x o s') (h9 : x.kind ≠ 9) (h5 : x.kind = 5 → x.fr.f.kind ≠ 16 ∧ x.fr.f.kind ≠ 18 ∧ x.fr.f.kind ≠ 19) :
    ((x.kind ≠ 6 ∨ o.is_ = false ∨ o.f.kind ≠ 8) ∧ Hld s' oth (if x.kind = 5 ∧ x.fr.f.kind = 17 ∧ o.e = 0 then updN wm x.fr.f.a (max ((wm x.fr.f.a).getD 0) x.fr.f.b) else wm) tm) ∨
    (x.kind = 6 ∧ o.is_ = true ∧ o.f.kind = 8 ∧ Goes oth wm x.n o.f ∧ Hld s' oth wm (topN tm o.f)) := by
  have ne : ∀ {t : Ss}, x.kind ≠ 5 → x.kind ≠ 6 → Hld t oth wm tm → ((x.kind ≠ 6 ∨ o.is_ = false ∨ o.f.kind ≠ 8) ∧ Hld t oth (if x.kind = 5 ∧ x.fr.f.kind = 17 ∧ o.e = 0 then updN wm x.fr.f.a (max ((wm x.fr.f.a).getD 0) x.fr.f.b) else wm) tm) ∨
      (x.kind = 6 ∧ o.is_ = true ∧ o.f.kind = 8 ∧ Goes oth wm x.n o.f ∧ Hld t oth wm (topN tm o.f)) := fun h5 h6 ht => .inl ⟨.inl h6, by rw [if_neg (fun hc => h5 hc.1)]; exact ht⟩
  cases hp with
  | open_ hx n c s' ho => exact ne (by omega) (by omega) (h.opens hk.wf (kindOf_lt hk.wf _) ho)
  | write hx c s' ho =>
    refine ne (by omega) (by omega) ?_
    cases ho with
    | none => exact h
    | arg => exact h
    | goes y b dv sv dv' sv' o hg ho => exact h.outs (Ss.get_mem hg).1 ho (by unfold Ob.write; split <;> rfl) (o.write_sent _ _)
  | read hx t d c s' ho =>
    refine ne (by omega) (by omega) ?_
    cases ho with
    | none => exact h
    | arg => exact h
    | goes y b m m' o hg hi =>
      have hy := (Ss.get_mem hg).1
      have key : Hld (s.put (y.readTo b m' (o.read x.n))) oth wm tm := by
        refine h.put' hy ?_ ?_ ?_ <;> unfold St.readTo <;> split <;> rfl
      unfold Ss.readsTo
      split <;> exact key.same rfl rfl rfl
  | reset hx c s' ho =>
    refine ne (by omega) (by omega) ?_
    cases ho with
    | goes hc y b dv sv dv' sv' o hg ho =>
      obtain ⟨e1, e2, e3⟩ := y.lim_resetBy b dv sv dv' sv' o x.code ho
      exact h.put' (Ss.get_mem hg).1 e3 e1 e2
    | _ => exact h
  | stop hx c s' ho =>
    refine ne (by omega) (by omega) ?_
    cases ho with
    | goes hc y b m o hg ho hv => exact h.put' (Ss.get_mem hg).1 rfl rfl rfl
    | _ => exact h
  | got hx c s' ho =>
    obtain ⟨g1, g2, g3⟩ := h5 hx
    have := h.gots hk.wf g1 g2 g3 ho
    refine .inl ⟨.inl (by omega), ?_⟩
    by_cases hc : x.fr.f.kind = 17 ∧ c = 0
    · rw [if_pos ⟨hx, hc⟩]; rw [if_pos hc] at this; exact this
    · rw [if_neg (fun q => hc q.2)]; rw [if_neg hc] at this; exact this
  | next hx f is s' ho =>
    have e5 : ¬ (x.kind = 5 ∧ x.fr.f.kind = 17 ∧ (0 : Int) = 0) := by omega
    rw [if_neg e5]
    cases ho with
    | data hr => exact .inl ⟨.inr (.inr (show (16 : Nat) ≠ 8 by decide)), h.same rfl rfl rfl⟩
    | ids hr ss hu hn =>
      rcases Hld.nexts hn hk h with ⟨h1, h2⟩ | ⟨h1, h2, h3, h4⟩
      · exact .inl ⟨.inr h1, h2⟩
      · exact .inr ⟨hx, h1, h2, h3, h4⟩
  | acked hx s' ho =>
    refine ne (by omega) (by omega) ?_
    cases ho with
    | no => exact h
    | goes y b dv sv dv' sv' o hg hk2 ho => exact h.outs (Ss.get_mem hg).1 ho rfl rfl
  | lost hx s' ho =>
    refine ne (by omega) (by omega) ?_
    cases ho with
    | data => exact h.same rfl rfl rfl
    | none => exact h
    | noOut => exact h
    | goes y b dv sv dv' sv' o hg hk2 ho => exact h.outs (Ss.get_mem hg).1 ho rfl rfl
    | raise y hg hk2 => exact h.put' (Ss.get_mem hg).1 rfl rfl rfl
    | stop y hg hk2 => exact h.put' (Ss.get_mem hg).1 rfl rfl rfl
    | reset y hg hk2 => exact h.put' (Ss.get_mem hg).1 rfl rfl rfl
    | other => exact h
  | other hx s' ho => exact absurd hx h9
  | none hx => exact ne (by omega) (by omega) h
/-- a stream that is opened -/
theorem Ss.Plays.opened {s s' : Ss} {x : SAct} {o : Said} {oth : Lm} (hw : s.WF) (h0 : s.side = 0) (ho : s.other = oth.capped) (hp : s.Plays x o s') (hk : x.kind = 0) (he : o.e = 0) :
    o.n % 4 = (if x.fin then 2 else 0) ∧ o.n / 4 < (if x.fin then oth.unis else oth.bidis) ∧ o.n ≤ 1000 := by
  cases hp with
  | open_ hx n c s' h =>
    have he : (c : Int) = 0 := he
    show n % 4 = _ ∧ n / 4 < _ ∧ n ≤ _
    have hol := hw.op_le (kindOf s x.fin)
    have hkl := kindOf_lt hw x.fin
    rcases h with ⟨_, _, h3, _⟩ | ⟨_, _, _, h3, _⟩ | ⟨h1, hl, h2, _⟩
    · omega
    · omega
    · have hkd : kindOf s x.fin = if x.fin then 2 else 0 := by unfold kindOf; rw [h0]
      rw [hkd] at h1 h2 hol hkl
      rw [ho] at h1
      cases hf : x.fin with
      | true =>
        rw [hf] at h1 h2 hol hkl
        unfold Lm.count Lm.capped at h1
        simp at h1 h2 hol hkl ⊢
        omega
      | false =>
        rw [hf] at h1 h2 hol hkl
        unfold Lm.count Lm.capped at h1
        simp at h1 h2 hol hkl ⊢
        omega
  | _ => omega
/-- what was sent so far, of the streams that a range has passed -/
def partT (l : List St) (tm : Nat → Option Nat) (left : Int → Bool) : Nat := ((l.filter fun y => !left (y.id : Int)).map fun y => (tm y.id).getD 0).sum
theorem partT_step : ∀ (l : List St) (tm : Nat → Option Nat) (left : Int → Bool) (x : St), (l.map St.id).Nodup → x ∈ l → left (x.id : Int) = true → partT l tm (fun z => left z && !(z == (x.id : Int))) = partT l tm left + (tm x.id).getD 0
  | [], _, _, _, _, hx, _ => by cases hx
  | y :: l, tm, left, x, hn, hx, hl => by
    rw [List.map_cons, List.nodup_cons] at hn
    by_cases e : y.id = x.id
    · have hyx : y = x := by
        rcases List.mem_cons.1 hx with rfl | hx
        · rfl
        · exact absurd (List.mem_map.2 ⟨x, hx, e.symm⟩) hn.1
      subst hyx
      have hrest : (l.filter fun z => !(left (z.id : Int) && !((z.id : Int) == (y.id : Int)))) = l.filter fun z => !left (z.id : Int) := by
        apply List.filter_congr
        intro z hz
        have hne : ((z.id : Int) == (y.id : Int)) = false := by
          rw [beq_eq_false_iff_ne]
          intro e2
          exact hn.1 (List.mem_map.2 ⟨z, hz, by omega⟩)
        rw [hne]; simp
      unfold partT
      rw [List.filter_cons, List.filter_cons, hrest, hl]
      simp
      omega
    · have hx' : x ∈ l := by
        rcases List.mem_cons.1 hx with rfl | hx
        · exact absurd rfl e
        · exact hx
      have ih := partT_step l tm left x hn.2 hx' hl
      unfold partT at ih ⊢
      have hne : ((y.id : Int) == (x.id : Int)) = false := by
        rw [beq_eq_false_iff_ne]; omega
      rw [List.filter_cons, List.filter_cons]
      simp only [hne, Bool.not_false, Bool.and_true] at ih ⊢
      cases left (y.id : Int)
      · simp at ih ⊢
        omega
      · simp at ih ⊢
        omega
theorem partT_le : ∀ (l : List St) (tm : Nat → Option Nat) (left : Int → Bool), partT l tm left ≤ (l.map fun y => (tm y.id).getD 0).sum
  | [], _, _ => by simp [partT]
  | y :: l, tm, left => by
    have ih := partT_le l tm left
    unfold partT at ih ⊢
    rw [List.filter_cons]
    split
    · simp; omega
    · simp; omega
theorem partT_start : ∀ (l : List St) (tm : Nat → Option Nat), partT l tm (fun x => decide (0 ≤ x) && (tm x.toNat).isSome) = 0
  | [], _ => by simp [partT]
  | y :: l, tm => by
    have ih := partT_start l tm
    unfold partT at ih ⊢
    rw [List.filter_cons]
    split
    · rename_i h
      cases ht : tm y.id with
      | none => rw [List.map_cons, List.sum_cons, ih, ht]; rfl
      | some v => simp [ht] at h
    · exact ih
theorem Hld.sum {s : Ss} {oth : Lm} {wm tm : Nat → Option Nat} (h : Hld s oth wm tm) (hw : s.WF) : (s.l.map fun y => (tm y.id).getD 0).sum = s.sent := by
  rw [hw.sent]
  congr 1
  exact List.map_congr_left (fun y hy => (h.top y hy).symm)
theorem Hld.all {s : Ss} {oth : Lm} {wm tm : Nat → Option Nat} (h : Hld s oth wm tm) (hw : s.WF) (left : Int → Bool) (hl : ∀ x, left x = false) : partT s.l tm left = s.sent := by
  rw [← h.sum hw]
  unfold partT
  rw [List.filter_eq_self.2 (fun y _ => by rw [hl]; rfl)]
theorem Hld.data {s : Ss} {oth : Lm} {wm tm : Nat → Option Nat} (h : Hld s oth wm tm) (hw : s.WF) : s.sent ≤ oth.data := by
  have := hw.sentl
  rw [h.ot] at this
  unfold Lm.capped at this
  simp only at this
  omega
theorem Hld.fresh (mb : Nat) (own oth : Lm) : Hld (Ss.fresh mb 0 own oth) oth (fun _ => none) (fun _ => none) :=
  ⟨rfl, rfl, (fun x hx => by cases hx), (fun x hx => by cases hx), (fun id hi => by cases hi)⟩
end Go.Proofs.YtjdfemfobcjecaaGreat

/-
  The statement StreamsHold, walked; no condition.
-/
namespace Go.Proofs.YtjdfemfobcjecaaGreat
open Go.RowKit Go.Sort
set_option linter.unusedVariables false
set_option linter.unusedSimpArgs false
/-- a map of numbers by numbers -/
def mval (f : Nat → Option Nat) : Int → Option Value := fun x => if 0 ≤ x then (f x.toNat).map (fun n : Nat => .int .u64 (n : Int)) else none
theorem mval_none : mval (fun _ => none) = fun _ => none := by funext x; unfold mval; split <;> rfl
theorem mval_upd (f : Nat → Option Nat) (i v : Nat) : upd (mval f) (i : Int) (some (.int .u64 (v : Int))) = mval (updN f i v) := by
  funext x
  unfold upd mval updN
  by_cases h : x = (i : Int)
  · subst h; simp
  · rw [if_neg h]
    by_cases h0 : 0 ≤ x
    · rw [if_pos h0, if_pos h0, if_neg (by omega)]
    · rw [if_neg h0, if_neg h0]
theorem mval_get (f : Nat → Option Nat) (i : Nat) : (mval f (i : Int)).getD (.int .u64 0) = .int .u64 (((f i).getD 0 : Nat) : Int) := by
  unfold mval
  rw [if_pos (by omega), Int.toNat_natCast]
  cases f i <;> rfl
theorem mval_is (f : Nat → Option Nat) : (fun x => (mval f x).isSome) = fun x => decide (0 ≤ x) && (f x.toNat).isSome := by
  funext x
  unfold mval
  by_cases h : 0 ≤ x
  · rw [if_pos h]; simp [h]
  · rw [if_neg h]; simp [h]
theorem mval_some {f : Nat → Option Nat} {x : Int} {v : Value} (h : mval f x = some v) : ∃ i n : Nat, x = (i : Int) ∧ f i = some n ∧ v = .int .u64 (n : Int) := by
  unfold mval at h
  by_cases h0 : 0 ≤ x
  · rw [if_pos h0] at h
    obtain ⟨n, hn, rfl⟩ := Option.map_eq_some_iff.1 h
    exact ⟨x.toNat, n, by omega, hn, rfl⟩
  · rw [if_neg h0] at h; cases h
theorem Own.far {K : Nat} {W w w' : World} {sb : Nat} {s : Ss} {F : List Nat} (h : Own K W w sb s) (m : Mod F w w') (hF : ∀ k ∈ F, W.heap.size ≤ k ∧ k ∉ s.foot sb) : Own K W w' sb s :=
  ⟨h.box.mod m (fun k hk hkF => (hF k hkF).2 hk), h.mod.trans m (fun k hk => .inr (hF k hk).1), h.new, h.ok⟩
theorem SStep.notin {w w' : World} {sb b : Nat} {s s' : Ss} (h : SStep w sb s s' w') (hb : b < w.heap.size) (hn : b ∉ s.foot sb) : b ∉ s'.foot sb := fun hk => (h.2.2 b hk).elim hn (fun h2 => by omega)
set_option maxRecDepth 100000 in
set_option maxHeartbeats 40000000 in
theorem walkStreamsHold (own other : Lm) (A : Option Addr) (c : Nat) (l : List SAct) (W : World) (hu : own.U) (hu2 : other.U) (hE : Elems W A SAct.cells 20 l) (hok : ∀ y ∈ l, y.OK) :
    Calls Tryz.prog 6 #[own.val, other.val, .slice A l.length c] W fun e w' => e = .returned (.bool true) ∧ Below W.heap.size W w' := by
  have HE := hide hE
  have HOk := hide hok
  clear hE hok
  have hM0 : Mod [] W ((W.alloc (.cells #[.int .u64 (own.data : Int), .int .u64 (own.bl : Int), .int .u64 (own.br : Int), .int .u64 (own.un : Int), .int .u64 (own.bidis : Int), .int .u64 (own.unis : Int)] 24)).alloc (.cells #[.int .u64 (other.data : Int), .int .u64 (other.bl : Int), .int .u64 (other.br : Int), .int .u64 (other.un : Int), .int .u64 (other.bidis : Int), .int .u64 (other.unis : Int)] 24)) := ((Mod.refl [] W).alloc _).alloc _
  have hb0 := (Blk.new W 24 #[.int .u64 (own.data : Int), .int .u64 (own.bl : Int), .int .u64 (own.br : Int), .int .u64 (own.un : Int), .int .u64 (own.bidis : Int), .int .u64 (own.unis : Int)]).alloc (.cells #[.int .u64 (other.data : Int), .int .u64 (other.bl : Int), .int .u64 (other.br : Int), .int .u64 (other.un : Int), .int .u64 (other.bidis : Int), .int .u64 (other.unis : Int)] 24)
  have hb1 := Blk.new (W.alloc (.cells #[.int .u64 (own.data : Int), .int .u64 (own.bl : Int), .int .u64 (own.br : Int), .int .u64 (own.un : Int), .int .u64 (own.bidis : Int), .int .u64 (own.unis : Int)] 24)) 24 #[.int .u64 (other.data : Int), .int .u64 (other.bl : Int), .int .u64 (other.br : Int), .int .u64 (other.un : Int), .int .u64 (other.bidis : Int), .int .u64 (other.unis : Int)]
  rw [World.size_alloc] at hb1
  have HM0 := hide hM0
  have HBo := hide hb0
  have HBt := hide hb1
  have HAw := hide (stawake_any ((W.alloc (.cells #[.int .u64 (own.data : Int), .int .u64 (own.bl : Int), .int .u64 (own.br : Int), .int .u64 (own.un : Int), .int .u64 (own.bidis : Int), .int .u64 (own.unis : Int)] 24)).alloc (.cells #[.int .u64 (other.data : Int), .int .u64 (other.bl : Int), .int .u64 (other.br : Int), .int .u64 (other.un : Int), .int .u64 (other.bidis : Int), .int .u64 (other.unis : Int)] 24)))
  have hmm := @run_makeMap Tryz.prog
  clear hM0 hb0 hb1
  unfold Lm.val
  go_enter Tryz.func6, Tryz.ntmps6
  go_wp2_with fail
  refine HAw.out.mono ?_
  rintro e w1 ⟨rfl, hm1⟩
  have HM1 := hide (HM0.out.trans hm1 (by simp))
  have hbo := hm1.blk HBo.out (by simp)
  have hbt := hm1.blk HBt.out (by simp)
  have HBt1 := hide hbt
  have u0 : w1.cell? ⟨W.heap.size, 0, none⟩ = some (.int .u64 (own.data : Int)) := hbo.cell 0
  have v0 : w1.cell? ⟨W.heap.size + 1, 0, none⟩ = some (.int .u64 (other.data : Int)) := hbt.cell 0
  have u1 : w1.cell? ⟨W.heap.size, 1, none⟩ = some (.int .u64 (own.bl : Int)) := hbo.cell 1
  have v1 : w1.cell? ⟨W.heap.size + 1, 1, none⟩ = some (.int .u64 (other.bl : Int)) := hbt.cell 1
  have u2 : w1.cell? ⟨W.heap.size, 2, none⟩ = some (.int .u64 (own.br : Int)) := hbo.cell 2
  have v2 : w1.cell? ⟨W.heap.size + 1, 2, none⟩ = some (.int .u64 (other.br : Int)) := hbt.cell 2
  have u3 : w1.cell? ⟨W.heap.size, 3, none⟩ = some (.int .u64 (own.un : Int)) := hbo.cell 3
  have v3 : w1.cell? ⟨W.heap.size + 1, 3, none⟩ = some (.int .u64 (other.un : Int)) := hbt.cell 3
  have u4 : w1.cell? ⟨W.heap.size, 4, none⟩ = some (.int .u64 (own.bidis : Int)) := hbo.cell 4
  have v4 : w1.cell? ⟨W.heap.size + 1, 4, none⟩ = some (.int .u64 (other.bidis : Int)) := hbt.cell 4
  have u5 : w1.cell? ⟨W.heap.size, 5, none⟩ = some (.int .u64 (own.unis : Int)) := hbo.cell 5
  have v5 : w1.cell? ⟨W.heap.size + 1, 5, none⟩ = some (.int .u64 (other.unis : Int)) := hbt.cell 5
  have hw1 := hbo.lt
  have hw2 := hbt.lt
  have hnw := own_new w1 0 own other
  unfold Lm.val at hnw
  have HNw := hide hnw
  clear hm1 hbo hbt hnw
  go_wp2_with fail
  refine HNw.out.mono ?_
  rintro e w2 ⟨sb, mb, rfl, hO⟩
  have hhl := Hld.fresh mb own other
  obtain ⟨s0, hs0⟩ : ∃ s0, Ss.fresh mb 0 own other = s0 := ⟨_, rfl⟩
  rw [hs0] at hO hhl
  have HO0 := hide hO
  have HHl0 := hide hhl
  have hbt2 := hO.mod.blk HBt1.out (by simp)
  have y0 : w2.cell? ⟨W.heap.size + 1, 0, none⟩ = some (.int .u64 (other.data : Int)) := hbt2.cell 0
  have y4 : w2.cell? ⟨W.heap.size + 1, 4, none⟩ = some (.int .u64 (other.bidis : Int)) := hbt2.cell 4
  have y5 : w2.cell? ⟨W.heap.size + 1, 5, none⟩ = some (.int .u64 (other.unis : Int)) := hbt2.cell 5
  have hfl := hO.box.foot_lt
  have HFl := hide hfl
  have hl12 : w1.heap.size ≤ w2.heap.size := hO.mod.size
  clear hO hhl hs0 u0 v0 u1 v1 u2 v2 u3 v3 u4 v4 u5 v5 hw1 hw2 hbt2 hfl
  have hll := HE.out.len
  go_wp2_with fail
  go_quiet (fail)
  go_wp2_with fail
  obtain ⟨wb, hwb⟩ : ∃ wb, w2.heap.size = wb := ⟨_, rfl⟩
  obtain ⟨tb, htb⟩ : ∃ tb, wb + 1 = tb := ⟨_, rfl⟩
  have HWb : Hid (w1.heap.size ≤ wb) := hide (by omega)
  have HTb : Hid (w1.heap.size ≤ tb) := hide (by omega)
  have HNe : Hid (tb ≠ wb) := hide (by omega)
  have HSt2 : Hid (wb ∉ s0.foot sb) := hide (fun h => by have := HFl.out wb h; omega)
  have HSt3 : Hid (tb ∉ s0.foot sb) := hide (fun h => by have := HFl.out tb h; omega)
  have HSt1 : Hid (∀ n, Own 0 w1 (((w2.drewN n).alloc (.map #[] 0)).alloc (.map #[] 0)) sb s0) := hide (fun n => HO0.out.next ((((Mod.refl [] w2).drewN n).alloc _).alloc _))
  have HSt4 : Hid (∀ n, IMap (((w2.drewN n).alloc (.map #[] 0)).alloc (.map #[] 0)) wb .u64 (mval fun _ => none)) := hide (fun n => by
    rw [mval_none, ← hwb]
    exact (IMap.made (w2.drewN n) .u64).mod ((Mod.refl [] _).alloc _) (by simp))
  have HSt5 : Hid (∀ n, IMap (((w2.drewN n).alloc (.map #[] 0)).alloc (.map #[] 0)) tb .u64 (mval fun _ => none)) := hide (fun n => by
    have h := IMap.made ((w2.drewN n).alloc (.map #[] 0)) .u64
    have e : ((w2.drewN n).alloc (.map #[] 0)).heap.size = tb := by rw [World.size_alloc]; show w2.heap.size + 1 = tb; omega
    rw [e] at h
    rw [mval_none]
    exact h)
  rw [hwb, htb]
  clear hwb htb
  go_loopw [13] (fun i wr => ∃ (k : Nat) (s : Ss) (wm tm : Nat → Option Nat), i = .int .i64 (k : Int) ∧ k ≤ l.length ∧ k ≤ 60 ∧ Own (200 * k) w1 wr sb s ∧ Hld s other wm tm ∧ wb ∉ s.foot sb ∧ tb ∉ s.foot sb ∧ IMap wr wb .u64 (mval wm) ∧ IMap wr tb .u64 (mval tm)) (fun i _ => l.length - (intOf i).toNat)
  case atStart => exact ⟨0, s0, fun _ => none, fun _ => none, rfl, Nat.zero_le _, by omega, HSt1.out _, HHl0.out, HSt2.out, HSt3.out, HSt4.out _, HSt5.out _⟩
  case round => as_aux_lemma =>
    obtain ⟨k, s, wm, tm, rfl, hk, hk60, hO, hhl, hnw, hnt, hmw, hmt⟩ := hrel
    have HO := hide hO
    have HMr := hide (HM1.out.trans hO.mod (by simp))
    have HHl := hide hhl
    have HNw0 := hide hnw
    have HNt0 := hide hnt
    have HMw := hide hmw
    have HMt := hide hmt
    have hwl := hmw.lt
    have htl := hmt.lt
    clear hO hhl hnw hnt hmw hmt
    by_cases hlt : k < l.length
    · by_cases hl6 : k < 60
      · obtain ⟨x, hx⟩ : ∃ x, l[k]? = some x := ⟨_, List.getElem?_eq_getElem hlt⟩
        obtain ⟨g, o, rfl, hg, hcl⟩ := HE.out.at_ hx
        have hcl : ∀ (j : Nat) u, x.cells[j]? = some u → W.cell? ⟨g, o + k * 20 + j, none⟩ = some u := hcl
        have hxok := HOk.out x (List.mem_of_getElem? hx)
        have HXok := hide hxok
        have d60 : decide ((k : Int) < 60) = true := decide_eq_true (by omega)
        have xl : wr.rangeAt g (o + k * 20) x.cells := fun j v hv => (HMr.out.cell (p := ⟨g, o + k * 20 + j, none⟩) hg (by simp)).trans (hcl j v hv)
        have XL := hide xl
        clear hxok xl
        go_wp2_with (first | (refine wpList_load_mid rfl 52 _ rfl g (o + k * 20) rfl x.cells _ XL.out rfl rfl (by kernel_rfl) ?_) | (refine wpList_store_open rfl 52 _ _ rfl rfl _ x.cells.toArray rfl rfl (by kernel_rfl) rfl (by kernel_rfl) ?_; intro w3 m3 b3 s3; have HM3 := hide m3; have HBx := hide b3; obtain ⟨gx, hgx⟩ : ∃ gx, wr.heap.size = gx := ⟨_, rfl⟩; rw [hgx] at s3 ⊢; have HGx := hide hgx; have HS3 := hide s3; have XL2 := hide b3.range; rw [hgx] at XL2; clear m3 b3 s3 XL hgx) | (refine wpList_load_mid rfl 52 _ rfl gx 0 rfl x.cells _ XL2.out rfl rfl (by kernel_rfl) ?_))
        have hlg : Calls Tryz.prog 17 #[.agg x.cells.toArray] w3 _ := stlarge_any w3 x HXok.out _ rfl
        refine hlg.mono ?_
        rintro e w4 ⟨rfl, hm4⟩
        clear XL2 hlg
        have hmr4 : Mod [] wr w4 := HM3.out.trans hm4 (by simp)
        have HM4 := hide (HMr.out.trans hmr4 (by simp))
        have HO4 := hide (HO.out.next hmr4)
        have HBx4 := hide (hm4.blk HBx.out (by simp))
        rw [HGx.out] at HBx4
        have HMw4 := hide (HMw.out.mod hmr4 (by simp))
        have HMt4 := hide (HMt.out.mod hmr4 (by simp))
        have hwl4 : wb < w4.heap.size := HMw4.out.lt
        have htl4 : tb < w4.heap.size := HMt4.out.lt
        have hgxr := HGx.out
        clear hm4 hmr4
        cases hla : x.large with
        | true =>
          clear hla hgxr
          go_wp2_with fail
          go_ret
          exact ⟨rfl, HM4.out.below (Nat.le_refl _) (by simp)⟩
        | false => as_aux_lemma =>
          have XL3 := hide HBx4.out.range
          have hwx : wb ≠ gx := by omega
          have htx : tb ≠ gx := by omega
          have HWx := hide hwx
          have HTx := hide htx
          have HXw := hide (Ne.symm hwx)
          have hgf : gx ∉ s.foot sb := fun h => by have := HO.out.box.foot_lt gx h; omega
          have HGf := hide hgf
          have HLa := hide hla
          clear hla hgf hwx htx hgxr
          go_wp2_with (refine wpList_load_mid rfl 52 _ rfl gx 0 rfl x.cells _ XL3.out rfl rfl (by kernel_rfl) ?_)
          have hpl : Calls Tryz.prog 18 #[.pointer (some ⟨sb, 0, none⟩), .agg x.cells.toArray] w4 _ := own_play HO4.out (by omega) x HXok.out HLa.out
          refine hpl.mono ?_
          rintro e w5 ⟨p, s', rfl, hp, hst, hO5⟩
          clear XL3 hpl
          have hO5 : Own (200 * (k + 1)) w1 w5 sb s' := hO5.mono (by omega)
          have HO5 := hide hO5
          have hb5 := hst.2.1.blk HBx4.out HGf.out
          have HBx5 := hide hb5
          have HMw5 := hide (HMw4.out.mod hst.2.1 HNw0.out)
          have HMt5 := hide (HMt4.out.mod hst.2.1 HNt0.out)
          have HNw5 := hide (hst.notin hwl4 HNw0.out)
          have HNt5 := hide (hst.notin htl4 HNt0.out)
          have HPlays := hide (fun h9 h5 => HHl.out.plays HO4.out.ok hp h9 h5)
          have HOpn := hide (fun hk he => hp.opened HO4.out.ok.wf HHl.out.side HHl.out.ot hk he)
          clear hp hst hO5 hb5
          go_upto_region 14 with (refine wpList_store_open rfl 55 _ _ rfl rfl _ p.cells rfl rfl (by kernel_rfl) rfl (by kernel_rfl) ?_; intro w6 m6 b6 s6; have HM56 := hide m6; have HBq := hide b6; have HS6 := hide s6; clear m6 b6 s6)
          obtain ⟨go, hgo⟩ : ∃ go, w5.heap.size = go := ⟨_, rfl⟩
          rw [hgo]
          have HBo6 := HBq
          rw [hgo] at HBo6
          have HO6 := hide (HO5.out.next HM56.out)
          have HMw6 := hide (HMw5.out.mod HM56.out (by simp))
          have HMt6 := hide (HMt5.out.mod HM56.out (by simp))
          have HBx6 := hide (HM56.out.blk HBx5.out (by simp))
          have HMout := hide (HM1.out.trans HO6.out.mod (by simp))
          have hbt6 := HO6.out.mod.blk HBt1.out (by simp)
          have x0 : w6.cell? ⟨gx, 0, none⟩ = some (.int .i64 x.kind) := HBx6.out.cell 0
          have x1 : w6.cell? ⟨gx, 1, none⟩ = some (.int .i64 x.n) := HBx6.out.cell 1
          have x5 : w6.cell? ⟨gx, 5, none⟩ = some (.bool x.fin) := HBx6.out.cell 5
          have x6 : w6.cell? ⟨gx, 6, none⟩ = some (.int .u64 (x.fr.f.kind : Nat)) := HBx6.out.cell 6
          have x7 : w6.cell? ⟨gx, 7, none⟩ = some (.int .u64 (x.fr.f.a : Nat)) := HBx6.out.cell 7
          have x8 : w6.cell? ⟨gx, 8, none⟩ = some (.int .u64 (x.fr.f.b : Nat)) := HBx6.out.cell 8
          have o0 : w6.cell? ⟨go, 0, none⟩ = some (.int .u64 (p.n : Nat)) := HBo6.out.cell 0
          have o2 : w6.cell? ⟨go, 2, none⟩ = some (.bool p.is_) := HBo6.out.cell 2
          have o3 : w6.cell? ⟨go, 3, none⟩ = some (.int .u64 (p.f.kind : Nat)) := HBo6.out.cell 3
          have o4 : w6.cell? ⟨go, 4, none⟩ = some (.int .u64 (p.f.a : Nat)) := HBo6.out.cell 4
          have o5 : w6.cell? ⟨go, 5, none⟩ = some (.int .u64 (p.f.b : Nat)) := HBo6.out.cell 5
          have o8 : w6.cell? ⟨go, 8, none⟩ = some (.string p.f.data) := HBo6.out.cell 8
          have o11 : w6.cell? ⟨go, 11, none⟩ = some (.int .i64 p.e) := HBo6.out.cell 11
          have hgl5 := HBx6.out.lt
          have hvl5 := hbt6.lt
          have v1 : w6.cell? ⟨W.heap.size + 1, 1, none⟩ = some (.int .u64 (other.bl : Int)) := hbt6.cell 1
          have v2 : w6.cell? ⟨W.heap.size + 1, 2, none⟩ = some (.int .u64 (other.br : Int)) := hbt6.cell 2
          have v3 : w6.cell? ⟨W.heap.size + 1, 3, none⟩ = some (.int .u64 (other.un : Int)) := hbt6.cell 3
          clear hbt6 hgo HBq HS6 hwl4 htl4
          clear hu hu2
          as_aux_lemma =>
          by_cases hk9 : x.kind = 9
          · have ke9 : (x.kind == 9) = true := by rw [hk9]; rfl
            clear hk9
            go_wp2_with fail
            go_ret
            exact ⟨rfl, HMout.out.below (Nat.le_refl _) (by simp)⟩
          by_cases hk5 : x.kind = 5
          · have hk := hk5
            clear hk5
            as_aux_lemma =>
            by_cases hf : x.fr.f.kind = 16 ∨ x.fr.f.kind = 18 ∨ x.fr.f.kind = 19
            · have HHk := hide hk
              rcases hf with hf | hf | hf
              · have ke9 : (x.kind == 9) = false := by rw [beq_eq_false_iff_ne]; omega
                have ke5 : (x.kind == 5) = true := by rw [hk]; rfl
                have ke0 : (x.kind == 0) = false := by rw [beq_eq_false_iff_ne]; omega
                have ke6 : (x.kind == 6) = false := by rw [beq_eq_false_iff_ne]; omega
                have kn6 : (x.kind != 6) = true := by rw [bne, ke6]; rfl
                have kf16 : ((x.fr.f.kind : Int) == 16) = true := by rw [hf]; rfl
                clear hk hf
                go_wp2_with fail
                go_ret
                exact ⟨rfl, HMout.out.below (Nat.le_refl _) (by simp)⟩
              · have ke9 : (x.kind == 9) = false := by rw [beq_eq_false_iff_ne]; omega
                have ke5 : (x.kind == 5) = true := by rw [hk]; rfl
                have ke0 : (x.kind == 0) = false := by rw [beq_eq_false_iff_ne]; omega
                have ke6 : (x.kind == 6) = false := by rw [beq_eq_false_iff_ne]; omega
                have kn6 : (x.kind != 6) = true := by rw [bne, ke6]; rfl
                have kf16 : ((x.fr.f.kind : Int) == 16) = false := by rw [beq_eq_false_iff_ne]; omega
                have kf18 : ((x.fr.f.kind : Int) == 18) = true := by rw [hf]; rfl
                clear hk hf
                go_wp2_with fail
                go_ret
                exact ⟨rfl, HMout.out.below (Nat.le_refl _) (by simp)⟩
              · have ke9 : (x.kind == 9) = false := by rw [beq_eq_false_iff_ne]; omega
                have ke5 : (x.kind == 5) = true := by rw [hk]; rfl
                have ke0 : (x.kind == 0) = false := by rw [beq_eq_false_iff_ne]; omega
                have ke6 : (x.kind == 6) = false := by rw [beq_eq_false_iff_ne]; omega
                have kn6 : (x.kind != 6) = true := by rw [bne, ke6]; rfl
                have kf16 : ((x.fr.f.kind : Int) == 16) = false := by rw [beq_eq_false_iff_ne]; omega
                have kf18 : ((x.fr.f.kind : Int) == 18) = false := by rw [beq_eq_false_iff_ne]; omega
                have kf19 : ((x.fr.f.kind : Int) == 19) = true := by rw [hf]; rfl
                clear hk hf
                go_wp2_with fail
                go_ret
                exact ⟨rfl, HMout.out.below (Nat.le_refl _) (by simp)⟩
            · by_cases hf17 : x.fr.f.kind = 17
              · by_cases he : p.e = 0
                · have hpl := HPlays.out hk9 (fun _ => by omega)
                  have hhl5 : Hld s' other (updN wm x.fr.f.a (max ((wm x.fr.f.a).getD 0) x.fr.f.b)) tm := by
                    rcases hpl with ⟨_, h⟩ | ⟨h, _⟩
                    · rw [if_pos ⟨hk, hf17, he⟩] at h; exact h
                    · omega
                  have HHl5 := hide hhl5
                  have ke9 : (x.kind == 9) = false := by rw [beq_eq_false_iff_ne]; omega
                  have ke5 : (x.kind == 5) = true := by rw [hk]; rfl
                  have ke0 : (x.kind == 0) = false := by rw [beq_eq_false_iff_ne]; omega
                  have ke6 : (x.kind == 6) = false := by rw [beq_eq_false_iff_ne]; omega
                  have kn6 : (x.kind != 6) = true := by rw [bne, ke6]; rfl
                  have kf16 : ((x.fr.f.kind : Int) == 16) = false := by rw [beq_eq_false_iff_ne]; omega
                  have kf18 : ((x.fr.f.kind : Int) == 18) = false := by rw [beq_eq_false_iff_ne]; omega
                  have kf19 : ((x.fr.f.kind : Int) == 19) = false := by rw [beq_eq_false_iff_ne]; omega
                  have kf17 : ((x.fr.f.kind : Int) == 17) = true := by rw [hf17]; rfl
                  have kee : (p.e == 0) = true := by rw [he]; rfl
                  have hlk := HMw6.out.lookup (P := Tryz.prog) (T := 50) Tryz.underlying50 Tryz.underlying22 (z := .int .u64 0) (by kernel_rfl) (x.fr.f.a : Int)
                  rw [mval_get] at hlk
                  obtain ⟨wv, hwv⟩ : ∃ wv, (wm x.fr.f.a).getD 0 = wv := ⟨_, rfl⟩
                  rw [hwv] at hlk HHl5
                  have mq : max (wv : Int) (x.fr.f.b : Int) = ((max wv x.fr.f.b : Nat) : Int) := by omega
                  obtain ⟨mv, hmv⟩ : ∃ mv, max wv x.fr.f.b = mv := ⟨_, rfl⟩
                  rw [hmv] at mq HHl5
                  obtain ⟨w7, hup, hm7, mm7, hs7⟩ := HMw6.out.update (P := Tryz.prog) (T := 50) Tryz.underlying50 Tryz.underlying22 (x.fr.f.a : Int) (.int .u64 (mv : Int))
                  rw [mval_upd] at hm7
                  have HMw7 := hide hm7
                  have HMt7 := hide (HMt6.out.mod mm7 (by simp only [List.mem_singleton]; exact HNe.out))
                  have HO7 := hide (HO6.out.far mm7 (fun k hk => by simp only [List.mem_singleton] at hk; subst hk; exact ⟨HWb.out, HNw5.out⟩))
                  have z0 : w7.cell? ⟨gx, 0, none⟩ = some (.int .i64 x.kind) := (mm7.cell (p := ⟨gx, 0, none⟩) (by simp; omega) (by simp only [List.mem_singleton]; exact HXw.out)).trans ((HBx6.out).cell 0)
                  clear hpl hhl5 hk hf17 he hwv hmv hm7 mm7 hf hk9
                  go_wp2_with fail
                  go_roundw
                  case rel => exact ⟨k + 1, s', _, tm, by go_num, by omega, by omega, HO7.out, HHl5.out, HNw5.out, HNt5.out, HMw7.out, HMt7.out⟩
                  case measure => simp [intOf]; omega
                · have hhl5 : Hld s' other wm tm := by
                    rcases HPlays.out hk9 (fun _ => by omega) with ⟨_, h⟩ | ⟨h, _⟩
                    · rw [if_neg (fun h => he h.2.2)] at h; exact h
                    · omega
                  have HHl5 := hide hhl5
                  clear hhl5
                  have ke9 : (x.kind == 9) = false := by rw [beq_eq_false_iff_ne]; omega
                  have ke5 : (x.kind == 5) = true := by rw [hk]; rfl
                  have ke0 : (x.kind == 0) = false := by rw [beq_eq_false_iff_ne]; omega
                  have ke6 : (x.kind == 6) = false := by rw [beq_eq_false_iff_ne]; omega
                  have kn6 : (x.kind != 6) = true := by rw [bne, ke6]; rfl
                  have kf16 : ((x.fr.f.kind : Int) == 16) = false := by rw [beq_eq_false_iff_ne]; omega
                  have kf18 : ((x.fr.f.kind : Int) == 18) = false := by rw [beq_eq_false_iff_ne]; omega
                  have kf19 : ((x.fr.f.kind : Int) == 19) = false := by rw [beq_eq_false_iff_ne]; omega
                  have kf17 : ((x.fr.f.kind : Int) == 17) = true := by rw [hf17]; rfl
                  have kee : (p.e == 0) = false := by rw [beq_eq_false_iff_ne]; exact he
                  clear hk hf17 he hf hk9
                  go_wp2_with fail
                  go_roundw
                  case rel => exact ⟨k + 1, s', wm, tm, by go_num, by omega, by omega, HO6.out, HHl5.out, HNw5.out, HNt5.out, HMw6.out, HMt6.out⟩
                  case measure => simp [intOf]; omega
              · have hhl5 : Hld s' other wm tm := by
                  rcases HPlays.out hk9 (fun _ => by omega) with ⟨_, h⟩ | ⟨h, _⟩
                  · rw [if_neg (fun h => hf17 h.2.1)] at h; exact h
                  · omega
                have HHl5 := hide hhl5
                clear hhl5
                have ke9 : (x.kind == 9) = false := by rw [beq_eq_false_iff_ne]; omega
                have ke5 : (x.kind == 5) = true := by rw [hk]; rfl
                have ke0 : (x.kind == 0) = false := by rw [beq_eq_false_iff_ne]; omega
                have ke6 : (x.kind == 6) = false := by rw [beq_eq_false_iff_ne]; omega
                have kn6 : (x.kind != 6) = true := by rw [bne, ke6]; rfl
                have kf16 : ((x.fr.f.kind : Int) == 16) = false := by rw [beq_eq_false_iff_ne]; omega
                have kf18 : ((x.fr.f.kind : Int) == 18) = false := by rw [beq_eq_false_iff_ne]; omega
                have kf19 : ((x.fr.f.kind : Int) == 19) = false := by rw [beq_eq_false_iff_ne]; omega
                have kf17 : ((x.fr.f.kind : Int) == 17) = false := by rw [beq_eq_false_iff_ne]; omega
                clear hk hf17 hf hk9
                go_wp2_with fail
                go_roundw
                case rel => exact ⟨k + 1, s', wm, tm, by go_num, by omega, by omega, HO6.out, HHl5.out, HNw5.out, HNt5.out, HMw6.out, HMt6.out⟩
                case measure => simp [intOf]; omega
          by_cases hk0 : x.kind = 0
          · have hk := hk0
            clear hk0 hk5
            as_aux_lemma =>
            have hhl5 : Hld s' other wm tm := by
              rcases HPlays.out hk9 (fun h => by omega) with ⟨_, h⟩ | ⟨h, _⟩
              · rw [if_neg (by omega)] at h; exact h
              · omega
            have HHl5 := hide hhl5
            clear hhl5
            by_cases he : p.e = 0
            · have hop := HOpn.out hk he
              obtain ⟨hop1, hop2, hop3⟩ := hop
              obtain ⟨iq, hiq⟩ : ∃ iq, p.n / 4 = iq := ⟨_, rfl⟩
              rw [hiq] at hop2
              have q4 : ((p.n : Int) / 4) = (iq : Int) := by omega
              have iqu : IntKind.u64.wrap (iq : Int) = (iq : Int) := IntWalk.u64_in _ (by omega)
              have kee : (p.e == 0) = true := by rw [he]; rfl
              have ke9 : (x.kind == 9) = false := by rw [beq_eq_false_iff_ne]; omega
              have ke5 : (x.kind == 5) = false := by rw [beq_eq_false_iff_ne]; omega
              have ke0 : (x.kind == 0) = true := by rw [hk]; rfl
              have ke6 : (x.kind == 6) = false := by rw [beq_eq_false_iff_ne]; omega
              have kn6 : (x.kind != 6) = true := by rw [bne, ke6]; rfl
              cases hfin : x.fin with
              | true =>
                rw [hfin] at hop1 hop2
                have i4 : ((p.n : Int) % 4) = 2 := by simp only [if_true] at hop1; omega
                have n2 : ¬ other.unis ≤ iq := by simp only [if_true] at hop2; omega
                have xf : w6.cell? ⟨gx, 5, none⟩ = some (.bool true) := by rw [x5, hfin]
                clear x5 hfin hop1 hop2 he hk hk9 hiq
                by_cases n1 : other.bidis ≤ iq
                · go_wp2_with fail
                  go_roundw
                  case rel => exact ⟨k + 1, s', wm, tm, by go_num, by omega, by omega, HO6.out, HHl5.out, HNw5.out, HNt5.out, HMw6.out, HMt6.out⟩
                  case measure => simp [intOf]; omega
                · go_wp2_with fail
                  go_roundw
                  case rel => exact ⟨k + 1, s', wm, tm, by go_num, by omega, by omega, HO6.out, HHl5.out, HNw5.out, HNt5.out, HMw6.out, HMt6.out⟩
                  case measure => simp [intOf]; omega
              | false =>
                rw [hfin] at hop1 hop2
                have i4 : ((p.n : Int) % 4) = 0 := by simp at hop1; omega
                have n1 : ¬ other.bidis ≤ iq := by simp at hop2; omega
                have xf : w6.cell? ⟨gx, 5, none⟩ = some (.bool false) := by rw [x5, hfin]
                clear x5 hfin hop1 hop2 he hk hk9 hiq
                by_cases n2 : other.unis ≤ iq
                · go_wp2_with fail
                  go_roundw
                  case rel => exact ⟨k + 1, s', wm, tm, by go_num, by omega, by omega, HO6.out, HHl5.out, HNw5.out, HNt5.out, HMw6.out, HMt6.out⟩
                  case measure => simp [intOf]; omega
                · go_wp2_with fail
                  go_roundw
                  case rel => exact ⟨k + 1, s', wm, tm, by go_num, by omega, by omega, HO6.out, HHl5.out, HNw5.out, HNt5.out, HMw6.out, HMt6.out⟩
                  case measure => simp [intOf]; omega
            · have kee : (p.e == 0) = false := by rw [beq_eq_false_iff_ne]; exact he
              have ke9 : (x.kind == 9) = false := by rw [beq_eq_false_iff_ne]; omega
              have ke5 : (x.kind == 5) = false := by rw [beq_eq_false_iff_ne]; omega
              have ke0 : (x.kind == 0) = true := by rw [hk]; rfl
              have ke6 : (x.kind == 6) = false := by rw [beq_eq_false_iff_ne]; omega
              have kn6 : (x.kind != 6) = true := by rw [bne, ke6]; rfl
              clear hk he hk9
              go_wp2_with fail
              go_roundw
              case rel => exact ⟨k + 1, s', wm, tm, by go_num, by omega, by omega, HO6.out, HHl5.out, HNw5.out, HNt5.out, HMw6.out, HMt6.out⟩
              case measure => simp [intOf]; omega
          by_cases hk6 : x.kind = 6
          · have hk := hk6
            clear hk6 hk5 hk0
            as_aux_lemma =>
            by_cases his : p.is_ = true ∧ p.f.kind = 8
            · obtain ⟨his, hf8⟩ := his
              have hpl := HPlays.out hk9 (fun h => by omega)
              have hgo : Goes other wm x.n p.f ∧ Hld s' other wm (topN tm p.f) := by
                rcases hpl with ⟨h, _⟩ | ⟨_, _, _, h1, h2⟩
                · rcases h with h | h | h
                  · exact absurd hk h
                  · rw [his] at h; cases h
                  · exact absurd hf8 h
                · exact ⟨h1, h2⟩
              obtain ⟨hgo, hhl5⟩ := hgo
              have HHl5 := hide hhl5
              have HGo := hide hgo
              rw [his] at o2
              have ke9 : (x.kind == 9) = false := by rw [beq_eq_false_iff_ne]; omega
              have ke5 : (x.kind == 5) = false := by rw [beq_eq_false_iff_ne]; omega
              have ke0 : (x.kind == 0) = false := by rw [beq_eq_false_iff_ne]; omega
              have ke6 : (x.kind == 6) = true := by rw [hk]; rfl
              have kn6 : (x.kind != 6) = false := by rw [bne, ke6]; rfl
              have kf8 : ((p.f.kind : Int) != 8) = false := by rw [hf8]; rfl
              have hgs := hgo.small
              have hgl := hgo.lim
              have hgm := hgo.most
              have hg3 := hgo.id
              obtain ⟨en, hen⟩ : ∃ en, p.f.b + p.f.data.size = en := ⟨_, rfl⟩
              have qe : (p.f.b : Int) + (p.f.data.size : Int) = (en : Int) := by omega
              have qs : IntKind.u64.wrap (p.f.data.size : Int) = (p.f.data.size : Int) := IntWalk.u64_in _ (by omega)
              have qb : p.f.b ≤ 65536 := by omega
              have qz : p.f.data.size ≤ 65536 := by omega
              have hlk := HMw6.out.lookup (P := Tryz.prog) (T := 50) Tryz.underlying50 Tryz.underlying22 (z := .int .u64 0) (by kernel_rfl) (p.f.a : Int)
              rw [mval_get] at hlk
              obtain ⟨wv, hwv⟩ : ∃ wv, (wm p.f.a).getD 0 = wv := ⟨_, rfl⟩
              rw [hwv] at hlk hgl
              have hlt2 := HMt6.out.lookup (P := Tryz.prog) (T := 50) Tryz.underlying50 Tryz.underlying22 (z := .int .u64 0) (by kernel_rfl) (p.f.a : Int)
              rw [mval_get] at hlt2
              obtain ⟨tv, htv⟩ : ∃ tv, (tm p.f.a).getD 0 = tv := ⟨_, rfl⟩
              rw [htv] at hlt2
              have mq : max (tv : Int) (en : Int) = ((max tv en : Nat) : Int) := by omega
              obtain ⟨mv, hmv⟩ : ∃ mv, max tv en = mv := ⟨_, rfl⟩
              rw [hmv] at mq
              have htop : topN tm p.f = updN tm p.f.a mv := by unfold topN; rw [htv, hen, hmv]
              rw [htop] at HHl5
              obtain ⟨tm', htm'⟩ : ∃ tm', updN tm p.f.a mv = tm' := ⟨_, rfl⟩
              rw [htm'] at HHl5
              obtain ⟨w7, hup, hm7, mm7, hs7⟩ := HMt6.out.update (P := Tryz.prog) (T := 50) Tryz.underlying50 Tryz.underlying22 (p.f.a : Int) (.int .u64 (mv : Int))
              rw [mval_upd, htm'] at hm7
              have HMt7 := hide hm7
              have HMw7 := hide (HMw6.out.mod mm7 (by simp only [List.mem_singleton]; exact Ne.symm HNe.out))
              have HO7 := hide (HO6.out.far mm7 (fun k hk => by simp only [List.mem_singleton] at hk; subst hk; exact ⟨HTb.out, HNt5.out⟩))
              obtain ⟨w8, cnt8, hrun, hit8, hm8, hs8⟩ := hm7.range (P := Tryz.prog) (T := 50) Tryz.underlying50
              obtain ⟨rb, hrb⟩ : ∃ rb, w7.heap.size = rb := ⟨_, rfl⟩
              rw [hrb] at hit8 hrun
              rw [mval_is] at hit8
              have HIt8 := hide hit8
              have HM8 := hide hm8
              have HRb := hide hrb
              have hp0 := partT_start s'.l tm'
              have HP0 := hide hp0
              have hsd := hhl5.data HO6.out.ok.wf
              have HSd := hide hsd
              have HWf := hide HO6.out.ok.wf
              obtain ⟨fq, hfq⟩ : ∃ fq, other.first p.f.a = fq := ⟨_, rfl⟩
              rw [hfq] at hgl
              have dm : ¬ ((p.f.data.size : Int) > max x.n 0) := by omega
              have mq2 : max (fq : Int) (wv : Int) = ((max fq wv : Nat) : Int) := by omega
              obtain ⟨mx, hmx⟩ : ∃ mx, max fq wv = mx := ⟨_, rfl⟩
              rw [hmx] at mq2 hgl
              have dmx : ¬ mx < en := by omega
              have HSl : Hid (s'.sent ≤ 4611686018427387903) := hide (by have := HO6.out.ok.wf.sentl; have := HO6.out.ok.wf.other.data; unfold mvar at this; omega)
              clear hhl5 hgo hpl hk his hf8 hk9 hp0 hit8 hm8 hrb hsd hwv htv hmv htop htm' hmx hm7 hs7 hen hgm
              have hc4 : p.f.a % 4 = 0 ∨ p.f.a % 4 = 1 ∨ p.f.a % 4 = 2 := by omega
              have HHfq := hide hfq
              clear hfq hg3
              rcases hc4 with hc4 | hc4 | hc4
              · have i4 : ((p.f.a : Int) % 4) = 0 := by omega
                have efq : other.br = fq := by have := HHfq.out; unfold Lm.first at this; rw [hc4] at this; simpa using this
                have vq : w6.cell? ⟨W.heap.size + 1, 2, none⟩ = some (.int .u64 (fq : Int)) := by rw [v2, efq]
                clear v2 efq hc4
                by_cases hsz : 0 < p.f.data.size
                · have hsz' : (p.f.data.size : Int) > 0 := by omega
                  go_wp2_with fail
                  go_loopw [19] (fun n wq => ∃ (left : Int → Bool) (c : Nat), n = .int .u64 (partT s'.l tm' left : Int) ∧ IIter wq tb rb .u64 (mval tm') left c ∧ Mod [] w7 wq) (fun _ wq => wq.rangeLeft tb rb)
                  case atStart => exact ⟨_, _, by rw [HP0.out]; rfl, HIt8.out, HM8.out⟩
                  case round =>
                    obtain ⟨left, c, rfl, hit, hm⟩ := hrel
                    have HMq := hide hm
                    rcases hit.next (P := Tryz.prog) 0 with ⟨hz, hl0, hnx⟩ | ⟨x', v, wn, cntn, hlx, hfx, hnx, hit2, hltn, hm2, hs2, hen⟩
                    · have hall : partT s'.l tm' left = s'.sent := HHl5.out.all HWf.out left hl0
                      have HAll := hide hall
                      have HO8 := hide (HO7.out.next hm)
                      obtain ⟨pt, hpt⟩ : ∃ pt, partT s'.l tm' left = pt := ⟨_, rfl⟩
                      rw [hpt] at hall ⊢
                      clear hit hm hpt
                      go_wp2_with fail
                      refine (own_sums HO8.out).mono ?_
                      rintro e w9 ⟨rfl, hm9, hO9⟩
                      have HO9 := hide (show Own (200 * (k + 1)) w1 w9 sb s' from hO9)
                      have mmx : Mod [] w7 w9 := HMq.out.trans hm9 (by simp)
                      have HMw9 := hide (HMw7.out.mod mmx (by simp))
                      have HMt9 := hide (HMt7.out.mod mmx (by simp))
                      have dd : ¬ other.data < pt := by have := HSd.out; omega
                      have dq : ((s'.sent : Int) != (pt : Int)) = false := by rw [bne_eq_false_iff_eq]; omega
                      clear hm9 hO9 mmx hall
                      go_wp2_with fail
                      go_roundw
                      case rel => exact ⟨k + 1, s', wm, tm', by go_num, by omega, by omega, HO9.out, HHl5.out, HNw5.out, HNt5.out, HMw9.out, HMt9.out⟩
                      case measure => simp [intOf]; omega
                    · obtain ⟨i, n, rfl, hin, rfl⟩ := mval_some hfx
                      obtain ⟨y, hy, rfl⟩ := HHl5.out.keys i (by rw [hin]; rfl)
                      have hst := partT_step s'.l tm' left y HWf.out.ids hy hlx
                      rw [hin] at hst
                      have hle := partT_le s'.l tm' (fun z => left z && !(z == (y.id : Int)))
                      rw [HHl5.out.sum HWf.out, hst] at hle
                      have hsl := HSl.out
                      obtain ⟨pt, hpt⟩ : ∃ pt, partT s'.l tm' left = pt := ⟨_, rfl⟩
                      rw [hpt] at hst hle ⊢
                      have hle2 : pt + n ≤ s'.sent := hle
                      have HSt := hide hst
                      have HIt2 := hide hit2
                      have HMn := hide (hm.trans hm2 (by simp; exact Nat.le_of_eq HRb.out))
                      have HLe := hide hit.left_eq
                      clear hit hm hit2 hm2 hst hfx hlx hpt hin hle
                      go_wp2_with fail
                      go_roundw
                      case rel => exact ⟨_, cntn, by rw [HSt.out]; go_num, HIt2.out, HMn.out⟩
                      case measure => rw [HIt2.out.left_eq, HLe.out]; exact hltn
                · have hsz' : ¬ ((p.f.data.size : Int) > 0) := by omega
                  go_wp2_with fail
                  go_loopw [19] (fun n wq => ∃ (left : Int → Bool) (c : Nat), n = .int .u64 (partT s'.l tm' left : Int) ∧ IIter wq tb rb .u64 (mval tm') left c ∧ Mod [] w7 wq) (fun _ wq => wq.rangeLeft tb rb)
                  case atStart => exact ⟨_, _, by rw [HP0.out]; rfl, HIt8.out, HM8.out⟩
                  case round =>
                    obtain ⟨left, c, rfl, hit, hm⟩ := hrel
                    have HMq := hide hm
                    rcases hit.next (P := Tryz.prog) 0 with ⟨hz, hl0, hnx⟩ | ⟨x', v, wn, cntn, hlx, hfx, hnx, hit2, hltn, hm2, hs2, hen⟩
                    · have hall : partT s'.l tm' left = s'.sent := HHl5.out.all HWf.out left hl0
                      have HAll := hide hall
                      have HO8 := hide (HO7.out.next hm)
                      obtain ⟨pt, hpt⟩ : ∃ pt, partT s'.l tm' left = pt := ⟨_, rfl⟩
                      rw [hpt] at hall ⊢
                      clear hit hm hpt
                      go_wp2_with fail
                      refine (own_sums HO8.out).mono ?_
                      rintro e w9 ⟨rfl, hm9, hO9⟩
                      have HO9 := hide (show Own (200 * (k + 1)) w1 w9 sb s' from hO9)
                      have mmx : Mod [] w7 w9 := HMq.out.trans hm9 (by simp)
                      have HMw9 := hide (HMw7.out.mod mmx (by simp))
                      have HMt9 := hide (HMt7.out.mod mmx (by simp))
                      have dd : ¬ other.data < pt := by have := HSd.out; omega
                      have dq : ((s'.sent : Int) != (pt : Int)) = false := by rw [bne_eq_false_iff_eq]; omega
                      clear hm9 hO9 mmx hall
                      go_wp2_with fail
                      go_roundw
                      case rel => exact ⟨k + 1, s', wm, tm', by go_num, by omega, by omega, HO9.out, HHl5.out, HNw5.out, HNt5.out, HMw9.out, HMt9.out⟩
                      case measure => simp [intOf]; omega
                    · obtain ⟨i, n, rfl, hin, rfl⟩ := mval_some hfx
                      obtain ⟨y, hy, rfl⟩ := HHl5.out.keys i (by rw [hin]; rfl)
                      have hst := partT_step s'.l tm' left y HWf.out.ids hy hlx
                      rw [hin] at hst
                      have hle := partT_le s'.l tm' (fun z => left z && !(z == (y.id : Int)))
                      rw [HHl5.out.sum HWf.out, hst] at hle
                      have hsl := HSl.out
                      obtain ⟨pt, hpt⟩ : ∃ pt, partT s'.l tm' left = pt := ⟨_, rfl⟩
                      rw [hpt] at hst hle ⊢
                      have hle2 : pt + n ≤ s'.sent := hle
                      have HSt := hide hst
                      have HIt2 := hide hit2
                      have HMn := hide (hm.trans hm2 (by simp; exact Nat.le_of_eq HRb.out))
                      have HLe := hide hit.left_eq
                      clear hit hm hit2 hm2 hst hfx hlx hpt hin hle
                      go_wp2_with fail
                      go_roundw
                      case rel => exact ⟨_, cntn, by rw [HSt.out]; go_num, HIt2.out, HMn.out⟩
                      case measure => rw [HIt2.out.left_eq, HLe.out]; exact hltn
              · have i4 : ((p.f.a : Int) % 4) = 1 := by omega
                have efq : other.bl = fq := by have := HHfq.out; unfold Lm.first at this; rw [hc4] at this; simpa using this
                have vq : w6.cell? ⟨W.heap.size + 1, 1, none⟩ = some (.int .u64 (fq : Int)) := by rw [v1, efq]
                clear v1 efq hc4
                by_cases hsz : 0 < p.f.data.size
                · have hsz' : (p.f.data.size : Int) > 0 := by omega
                  go_wp2_with fail
                  go_loopw [19] (fun n wq => ∃ (left : Int → Bool) (c : Nat), n = .int .u64 (partT s'.l tm' left : Int) ∧ IIter wq tb rb .u64 (mval tm') left c ∧ Mod [] w7 wq) (fun _ wq => wq.rangeLeft tb rb)
                  case atStart => exact ⟨_, _, by rw [HP0.out]; rfl, HIt8.out, HM8.out⟩
                  case round =>
                    obtain ⟨left, c, rfl, hit, hm⟩ := hrel
                    have HMq := hide hm
                    rcases hit.next (P := Tryz.prog) 0 with ⟨hz, hl0, hnx⟩ | ⟨x', v, wn, cntn, hlx, hfx, hnx, hit2, hltn, hm2, hs2, hen⟩
                    · have hall : partT s'.l tm' left = s'.sent := HHl5.out.all HWf.out left hl0
                      have HAll := hide hall
                      have HO8 := hide (HO7.out.next hm)
                      obtain ⟨pt, hpt⟩ : ∃ pt, partT s'.l tm' left = pt := ⟨_, rfl⟩
                      rw [hpt] at hall ⊢
                      clear hit hm hpt
                      go_wp2_with fail
                      refine (own_sums HO8.out).mono ?_
                      rintro e w9 ⟨rfl, hm9, hO9⟩
                      have HO9 := hide (show Own (200 * (k + 1)) w1 w9 sb s' from hO9)
                      have mmx : Mod [] w7 w9 := HMq.out.trans hm9 (by simp)
                      have HMw9 := hide (HMw7.out.mod mmx (by simp))
                      have HMt9 := hide (HMt7.out.mod mmx (by simp))
                      have dd : ¬ other.data < pt := by have := HSd.out; omega
                      have dq : ((s'.sent : Int) != (pt : Int)) = false := by rw [bne_eq_false_iff_eq]; omega
                      clear hm9 hO9 mmx hall
                      go_wp2_with fail
                      go_roundw
                      case rel => exact ⟨k + 1, s', wm, tm', by go_num, by omega, by omega, HO9.out, HHl5.out, HNw5.out, HNt5.out, HMw9.out, HMt9.out⟩
                      case measure => simp [intOf]; omega
                    · obtain ⟨i, n, rfl, hin, rfl⟩ := mval_some hfx
                      obtain ⟨y, hy, rfl⟩ := HHl5.out.keys i (by rw [hin]; rfl)
                      have hst := partT_step s'.l tm' left y HWf.out.ids hy hlx
                      rw [hin] at hst
                      have hle := partT_le s'.l tm' (fun z => left z && !(z == (y.id : Int)))
                      rw [HHl5.out.sum HWf.out, hst] at hle
                      have hsl := HSl.out
                      obtain ⟨pt, hpt⟩ : ∃ pt, partT s'.l tm' left = pt := ⟨_, rfl⟩
                      rw [hpt] at hst hle ⊢
                      have hle2 : pt + n ≤ s'.sent := hle
                      have HSt := hide hst
                      have HIt2 := hide hit2
                      have HMn := hide (hm.trans hm2 (by simp; exact Nat.le_of_eq HRb.out))
                      have HLe := hide hit.left_eq
                      clear hit hm hit2 hm2 hst hfx hlx hpt hin hle
                      go_wp2_with fail
                      go_roundw
                      case rel => exact ⟨_, cntn, by rw [HSt.out]; go_num, HIt2.out, HMn.out⟩
                      case measure => rw [HIt2.out.left_eq, HLe.out]; exact hltn
                · have hsz' : ¬ ((p.f.data.size : Int) > 0) := by omega
                  go_wp2_with fail
                  go_loopw [19] (fun n wq => ∃ (left : Int → Bool) (c : Nat), n = .int .u64 (partT s'.l tm' left : Int) ∧ IIter wq tb rb .u64 (mval tm') left c ∧ Mod [] w7 wq) (fun _ wq => wq.rangeLeft tb rb)
                  case atStart => exact ⟨_, _, by rw [HP0.out]; rfl, HIt8.out, HM8.out⟩
                  case round =>
                    obtain ⟨left, c, rfl, hit, hm⟩ := hrel
                    have HMq := hide hm
                    rcases hit.next (P := Tryz.prog) 0 with ⟨hz, hl0, hnx⟩ | ⟨x', v, wn, cntn, hlx, hfx, hnx, hit2, hltn, hm2, hs2, hen⟩
                    · have hall : partT s'.l tm' left = s'.sent := HHl5.out.all HWf.out left hl0
                      have HAll := hide hall
                      have HO8 := hide (HO7.out.next hm)
                      obtain ⟨pt, hpt⟩ : ∃ pt, partT s'.l tm' left = pt := ⟨_, rfl⟩
                      rw [hpt] at hall ⊢
                      clear hit hm hpt
                      go_wp2_with fail
                      refine (own_sums HO8.out).mono ?_
                      rintro e w9 ⟨rfl, hm9, hO9⟩
                      have HO9 := hide (show Own (200 * (k + 1)) w1 w9 sb s' from hO9)
                      have mmx : Mod [] w7 w9 := HMq.out.trans hm9 (by simp)
                      have HMw9 := hide (HMw7.out.mod mmx (by simp))
                      have HMt9 := hide (HMt7.out.mod mmx (by simp))
                      have dd : ¬ other.data < pt := by have := HSd.out; omega
                      have dq : ((s'.sent : Int) != (pt : Int)) = false := by rw [bne_eq_false_iff_eq]; omega
                      clear hm9 hO9 mmx hall
                      go_wp2_with fail
                      go_roundw
                      case rel => exact ⟨k + 1, s', wm, tm', by go_num, by omega, by omega, HO9.out, HHl5.out, HNw5.out, HNt5.out, HMw9.out, HMt9.out⟩
                      case measure => simp [intOf]; omega
                    · obtain ⟨i, n, rfl, hin, rfl⟩ := mval_some hfx
                      obtain ⟨y, hy, rfl⟩ := HHl5.out.keys i (by rw [hin]; rfl)
                      have hst := partT_step s'.l tm' left y HWf.out.ids hy hlx
                      rw [hin] at hst
                      have hle := partT_le s'.l tm' (fun z => left z && !(z == (y.id : Int)))
                      rw [HHl5.out.sum HWf.out, hst] at hle
                      have hsl := HSl.out
                      obtain ⟨pt, hpt⟩ : ∃ pt, partT s'.l tm' left = pt := ⟨_, rfl⟩
                      rw [hpt] at hst hle ⊢
                      have hle2 : pt + n ≤ s'.sent := hle
                      have HSt := hide hst
                      have HIt2 := hide hit2
                      have HMn := hide (hm.trans hm2 (by simp; exact Nat.le_of_eq HRb.out))
                      have HLe := hide hit.left_eq
                      clear hit hm hit2 hm2 hst hfx hlx hpt hin hle
                      go_wp2_with fail
                      go_roundw
                      case rel => exact ⟨_, cntn, by rw [HSt.out]; go_num, HIt2.out, HMn.out⟩
                      case measure => rw [HIt2.out.left_eq, HLe.out]; exact hltn
              · have i4 : ((p.f.a : Int) % 4) = 2 := by omega
                have efq : other.un = fq := by have := HHfq.out; unfold Lm.first at this; rw [hc4] at this; simpa using this
                have vq : w6.cell? ⟨W.heap.size + 1, 3, none⟩ = some (.int .u64 (fq : Int)) := by rw [v3, efq]
                clear v3 efq hc4
                by_cases hsz : 0 < p.f.data.size
                · have hsz' : (p.f.data.size : Int) > 0 := by omega
                  go_wp2_with fail
                  go_loopw [19] (fun n wq => ∃ (left : Int → Bool) (c : Nat), n = .int .u64 (partT s'.l tm' left : Int) ∧ IIter wq tb rb .u64 (mval tm') left c ∧ Mod [] w7 wq) (fun _ wq => wq.rangeLeft tb rb)
                  case atStart => exact ⟨_, _, by rw [HP0.out]; rfl, HIt8.out, HM8.out⟩
                  case round =>
                    obtain ⟨left, c, rfl, hit, hm⟩ := hrel
                    have HMq := hide hm
                    rcases hit.next (P := Tryz.prog) 0 with ⟨hz, hl0, hnx⟩ | ⟨x', v, wn, cntn, hlx, hfx, hnx, hit2, hltn, hm2, hs2, hen⟩
                    · have hall : partT s'.l tm' left = s'.sent := HHl5.out.all HWf.out left hl0
                      have HAll := hide hall
                      have HO8 := hide (HO7.out.next hm)
                      obtain ⟨pt, hpt⟩ : ∃ pt, partT s'.l tm' left = pt := ⟨_, rfl⟩
                      rw [hpt] at hall ⊢
                      clear hit hm hpt
                      go_wp2_with fail
                      refine (own_sums HO8.out).mono ?_
                      rintro e w9 ⟨rfl, hm9, hO9⟩
                      have HO9 := hide (show Own (200 * (k + 1)) w1 w9 sb s' from hO9)
                      have mmx : Mod [] w7 w9 := HMq.out.trans hm9 (by simp)
                      have HMw9 := hide (HMw7.out.mod mmx (by simp))
                      have HMt9 := hide (HMt7.out.mod mmx (by simp))
                      have dd : ¬ other.data < pt := by have := HSd.out; omega
                      have dq : ((s'.sent : Int) != (pt : Int)) = false := by rw [bne_eq_false_iff_eq]; omega
                      clear hm9 hO9 mmx hall
                      go_wp2_with fail
                      go_roundw
                      case rel => exact ⟨k + 1, s', wm, tm', by go_num, by omega, by omega, HO9.out, HHl5.out, HNw5.out, HNt5.out, HMw9.out, HMt9.out⟩
                      case measure => simp [intOf]; omega
                    · obtain ⟨i, n, rfl, hin, rfl⟩ := mval_some hfx
                      obtain ⟨y, hy, rfl⟩ := HHl5.out.keys i (by rw [hin]; rfl)
                      have hst := partT_step s'.l tm' left y HWf.out.ids hy hlx
                      rw [hin] at hst
                      have hle := partT_le s'.l tm' (fun z => left z && !(z == (y.id : Int)))
                      rw [HHl5.out.sum HWf.out, hst] at hle
                      have hsl := HSl.out
                      obtain ⟨pt, hpt⟩ : ∃ pt, partT s'.l tm' left = pt := ⟨_, rfl⟩
                      rw [hpt] at hst hle ⊢
                      have hle2 : pt + n ≤ s'.sent := hle
                      have HSt := hide hst
                      have HIt2 := hide hit2
                      have HMn := hide (hm.trans hm2 (by simp; exact Nat.le_of_eq HRb.out))
                      have HLe := hide hit.left_eq
                      clear hit hm hit2 hm2 hst hfx hlx hpt hin hle
                      go_wp2_with fail
                      go_roundw
                      case rel => exact ⟨_, cntn, by rw [HSt.out]; go_num, HIt2.out, HMn.out⟩
                      case measure => rw [HIt2.out.left_eq, HLe.out]; exact hltn
                · have hsz' : ¬ ((p.f.data.size : Int) > 0) := by omega
                  go_wp2_with fail
                  go_loopw [19] (fun n wq => ∃ (left : Int → Bool) (c : Nat), n = .int .u64 (partT s'.l tm' left : Int) ∧ IIter wq tb rb .u64 (mval tm') left c ∧ Mod [] w7 wq) (fun _ wq => wq.rangeLeft tb rb)
                  case atStart => exact ⟨_, _, by rw [HP0.out]; rfl, HIt8.out, HM8.out⟩
                  case round =>
                    obtain ⟨left, c, rfl, hit, hm⟩ := hrel
                    have HMq := hide hm
                    rcases hit.next (P := Tryz.prog) 0 with ⟨hz, hl0, hnx⟩ | ⟨x', v, wn, cntn, hlx, hfx, hnx, hit2, hltn, hm2, hs2, hen⟩
                    · have hall : partT s'.l tm' left = s'.sent := HHl5.out.all HWf.out left hl0
                      have HAll := hide hall
                      have HO8 := hide (HO7.out.next hm)
                      obtain ⟨pt, hpt⟩ : ∃ pt, partT s'.l tm' left = pt := ⟨_, rfl⟩
                      rw [hpt] at hall ⊢
                      clear hit hm hpt
                      go_wp2_with fail
                      refine (own_sums HO8.out).mono ?_
                      rintro e w9 ⟨rfl, hm9, hO9⟩
                      have HO9 := hide (show Own (200 * (k + 1)) w1 w9 sb s' from hO9)
                      have mmx : Mod [] w7 w9 := HMq.out.trans hm9 (by simp)
                      have HMw9 := hide (HMw7.out.mod mmx (by simp))
                      have HMt9 := hide (HMt7.out.mod mmx (by simp))
                      have dd : ¬ other.data < pt := by have := HSd.out; omega
                      have dq : ((s'.sent : Int) != (pt : Int)) = false := by rw [bne_eq_false_iff_eq]; omega
                      clear hm9 hO9 mmx hall
                      go_wp2_with fail
                      go_roundw
                      case rel => exact ⟨k + 1, s', wm, tm', by go_num, by omega, by omega, HO9.out, HHl5.out, HNw5.out, HNt5.out, HMw9.out, HMt9.out⟩
                      case measure => simp [intOf]; omega
                    · obtain ⟨i, n, rfl, hin, rfl⟩ := mval_some hfx
                      obtain ⟨y, hy, rfl⟩ := HHl5.out.keys i (by rw [hin]; rfl)
                      have hst := partT_step s'.l tm' left y HWf.out.ids hy hlx
                      rw [hin] at hst
                      have hle := partT_le s'.l tm' (fun z => left z && !(z == (y.id : Int)))
                      rw [HHl5.out.sum HWf.out, hst] at hle
                      have hsl := HSl.out
                      obtain ⟨pt, hpt⟩ : ∃ pt, partT s'.l tm' left = pt := ⟨_, rfl⟩
                      rw [hpt] at hst hle ⊢
                      have hle2 : pt + n ≤ s'.sent := hle
                      have HSt := hide hst
                      have HIt2 := hide hit2
                      have HMn := hide (hm.trans hm2 (by simp; exact Nat.le_of_eq HRb.out))
                      have HLe := hide hit.left_eq
                      clear hit hm hit2 hm2 hst hfx hlx hpt hin hle
                      go_wp2_with fail
                      go_roundw
                      case rel => exact ⟨_, cntn, by rw [HSt.out]; go_num, HIt2.out, HMn.out⟩
                      case measure => rw [HIt2.out.left_eq, HLe.out]; exact hltn
            · have hhl5 : Hld s' other wm tm := by
                rcases HPlays.out hk9 (fun h => by omega) with ⟨_, h⟩ | ⟨_, h1, h2, _⟩
                · rw [if_neg (by omega)] at h; exact h
                · exact absurd ⟨h1, h2⟩ his
              have HHl5 := hide hhl5
              clear hhl5
              have ke9 : (x.kind == 9) = false := by rw [beq_eq_false_iff_ne]; omega
              have ke5 : (x.kind == 5) = false := by rw [beq_eq_false_iff_ne]; omega
              have ke0 : (x.kind == 0) = false := by rw [beq_eq_false_iff_ne]; omega
              have ke6 : (x.kind == 6) = true := by rw [hk]; rfl
              have kn6 : (x.kind != 6) = false := by rw [bne, ke6]; rfl
              cases hi : p.is_ with
              | false =>
                rw [hi] at o2
                clear hk hi his hk9
                go_wp2_with fail
                go_roundw
                case rel => exact ⟨k + 1, s', wm, tm, by go_num, by omega, by omega, HO6.out, HHl5.out, HNw5.out, HNt5.out, HMw6.out, HMt6.out⟩
                case measure => simp [intOf]; omega
              | true =>
                rw [hi] at o2
                have kf8 : ((p.f.kind : Int) != 8) = true := by
                  rw [bne_iff_ne]
                  intro e
                  exact his ⟨hi, by omega⟩
                clear hk hi his hk9
                go_wp2_with fail
                go_roundw
                case rel => exact ⟨k + 1, s', wm, tm, by go_num, by omega, by omega, HO6.out, HHl5.out, HNw5.out, HNt5.out, HMw6.out, HMt6.out⟩
                case measure => simp [intOf]; omega
          as_aux_lemma =>
          have hhl5 : Hld s' other wm tm := by
            rcases HPlays.out hk9 (fun h => absurd h hk5) with ⟨_, h⟩ | ⟨h, _⟩
            · rw [if_neg (fun hc => hk5 hc.1)] at h; exact h
            · exact absurd h hk6
          have HHl5 := hide hhl5
          clear hhl5
          have ke9 : (x.kind == 9) = false := by rw [beq_eq_false_iff_ne]; exact hk9
          have ke5 : (x.kind == 5) = false := by rw [beq_eq_false_iff_ne]; exact hk5
          have ke0 : (x.kind == 0) = false := by rw [beq_eq_false_iff_ne]; exact hk0
          have ke6 : (x.kind == 6) = false := by rw [beq_eq_false_iff_ne]; exact hk6
          have kn6 : (x.kind != 6) = true := by rw [bne, ke6]; rfl
          clear hk9 hk5 hk0 hk6
          go_wp2_with fail
          go_roundw
          case rel => exact ⟨k + 1, s', wm, tm, by go_num, by omega, by omega, HO6.out, HHl5.out, HNw5.out, HNt5.out, HMw6.out, HMt6.out⟩
          case measure => simp [intOf]; omega
      · obtain rfl : k = 60 := by omega
        have d60 : decide (((60 : Nat) : Int) < 60) = false := rfl
        go_wp2_with fail
        go_ret
        exact ⟨rfl, HMr.out.below (Nat.le_refl _) (by simp)⟩
    · go_wp2_with fail
      go_ret
      exact ⟨rfl, HMr.out.below (Nat.le_refl _) (by simp)⟩
end Go.Proofs.YtjdfemfobcjecaaGreat

/-
  The row of 'StreamsHold': the walk's contract brought to the given statement.
-/
namespace Go.Proofs.YtjdfemfobcjecaaGreat.lawStreamsHold
open Go.ChangeShapes Go.WideShapes Go.ChangeAt Go.RowKit
open Go.ChangeMaps (open_string shut_string)
set_option linter.unusedVariables false

theorem own : ownKnob Tryz.prog.godebug = none := by kernel_rfl
theorem laidOut : laidOutB Tryz.prog = true := by kernel_rfl

set_option maxRecDepth 100000 in
theorem lifted (os : Os) (started : os.Started) (H : Type) (enc : TypeId × Value → H) :
    ReturnsInHanded {} Tryz.checked os 6 .any (Rows.streamsHoldSpec.pre6 enc Tryz.prog Tryz.f6 Rows.streamsHoldRow.domain false) (Rows.streamsHoldSpec.post enc Tryz.prog Tryz.f6 false true false false) := by
  refine returnsInHanded_of_change (C := Tryz.checked) own started (by kernel_rfl) Tryz.func6
    (ChangeSpec.witness6 (enc := enc) (C := Tryz.checked) false ⟨#[], #[.agg #[.int .u64 0, .int .u64 0, .int .u64 0, .int .u64 0, .int .u64 0, .int .u64 0], .agg #[.int .u64 0, .int .u64 0, .int .u64 0, .int .u64 0, .int .u64 0, .int .u64 0], .slice none 0 0], []⟩ 8 (by kernel_rfl) (by kernel_rfl) (by kernel_rfl) (by kernel_rfl)) ?_
  intro W base args ds gs before hval0 hW hcnd _
  have hval : ∀ (j : Nat) t v, Tryz.f6.params[j]? = some t → args[j]? = some v → Value.okWide Tryz.prog W .any base t v := hval0
  have hW' := hW
  obtain ⟨p, q, hA0, hV, rfl, hfz, hnd⟩ := hW
  have hA : DataW.TrodAll enc Tryz.prog W 0 (fun _ => true) true Tryz.f6.params.toList args.toList ds p := hA0
  rw [Tryz.params6] at hA hval
  obtain ⟨v0, vs0, d0, ds0, p0, q0, hargs, rfl, rfl, h0, r0⟩ := trodAll_cons hA
  obtain ⟨v1, vs1, d1, ds1, p1, q1, rfl, rfl, rfl, h1, r1⟩ := trodAll_cons r0
  obtain ⟨v2, vs2, d2, ds2, p2, q2, rfl, rfl, rfl, h2, r2⟩ := trodAll_cons r1
  obtain ⟨rfl, rfl, rfl⟩ := trodAll_nil r2
  obtain rfl : args = #[v0, v1, v2] := by cases args; simp_all
  obtain ⟨rfl, rfl⟩ := trodVars_none hV
  have k0 := h0
  have lt0 : ∀ x ∈ p0, x.block < W.heap.size := by obtain ⟨m, hm⟩ := k0; exact DataW.trod_lt m _ _ _ hm
  obtain ⟨l0, rfl, u0⟩ := open_limits (hval 0 24 v0 rfl rfl) h0
  have k1 := h1
  have lt1 : ∀ x ∈ p1, x.block < W.heap.size := by obtain ⟨m, hm⟩ := k1; exact DataW.trod_lt m _ _ _ hm
  obtain ⟨l1, rfl, u1⟩ := open_limits (hval 1 24 v1 rfl rfl) h1
  have k2 := h2
  have lt2 : ∀ x ∈ p2, x.block < W.heap.size := by obtain ⟨m, hm⟩ := k2; exact DataW.trod_lt m _ _ _ hm
  obtain ⟨A2, c2, l2, rfl, u2, ok2⟩ := open_sacts (hval 2 49 v2 rfl rfl) h2
  clear hA0 hval0
  refine (walkStreamsHold l0 l1 A2 c2 l2 W u0 u1 u2 ok2).mono fun e W' ⟨he, bel⟩ => ?_
  subst he
  exact ⟨_, rfl, _, _, _, [], _, [], hW', trodAll_mk1 (shut_bool Tryz.underlying4 _), (trodAll_cons_mk (Below.trod laidOut (by kernel_rfl) (of_decide_eq_true (by kernel_rfl)) k0 bel lt0) (trodAll_cons_mk (Below.trod laidOut (by kernel_rfl) (of_decide_eq_true (by kernel_rfl)) k1 bel lt1) (trodAll_cons_mk (Below.trod laidOut (by kernel_rfl) (of_decide_eq_true (by kernel_rfl)) k2 bel lt2) trodAll_mk0))), rfl, bel.frame _, fun h => by cases h⟩

theorem over : Rows.streamsHoldRow.holds Tryz.pinned (OpenSpec.ofChange Rows.streamsHoldSpec) :=
  OpenClaim.holds_of_wide 6 Tryz.f6 rfl rfl rfl rfl rfl rfl rfl ⟨rfl, rfl, rfl, rfl, rfl⟩ rfl rfl rfl rfl rfl (by kernel_rfl) Tryz.func6 (by kernel_rfl)
    (of_decide_eq_true (by kernel_rfl)) (by unfold Func.isWrapper; first | (rw [if_pos (by decide +kernel)]; kernel_rfl) | (rw [if_neg (by decide +kernel)]; exact ⟨rfl, rfl⟩))
    (fun os started H enc _ => lifted os started H enc)

/-- The statement. -/
theorem proved : Rows.StreamsHoldSaid := over
#print axioms proved
end Go.Proofs.YtjdfemfobcjecaaGreat.lawStreamsHold
