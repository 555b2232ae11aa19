/-
  The statement StreamsSums: its walk, and the walk brought to the given statement; no condition.
-/
import Derived.Test.YtjdfemfobcjecaaGreatG1
import Derived.OpenShut
import Derived.ChangeSame
import Derived.Deep.Fields
import Derived.Deep.Slices
import Derived.Deep.WholeRow
import Derived.Deep.MidRow
import Derived.Great.BuildSlice
import Derived.Test.YtjdfemfobcjecaaGreatG5
import Derived.Test.YtjdfemfobcjecaaGreatG8
import Derived.Test.YtjdfemfobcjecaaGreatG11
import Derived.Deep.Cut
import Derived.Test.YtjdfemfobcjecaaGreatRows
import Derived.WalkKit
import Derived.ProofKit
import Derived.ShutString
import Derived.ChangeOld
import Derived.Below

/-
  A slice that came in whose elements are of any type: opened, element by element; structs by their fields, wherever they lie.
-/
namespace Go.Proofs.YtjdfemfobcjecaaGreat
open Go.RowKit
section
open Go.ChangeShapes Go.WideShapes Go.Deep
variable {H : Type} {enc : TypeId × Value → H} {P : Program} {w : World} {base : Nat} {spare : Nat → Bool} {held : Bool}
/-- a struct's fields, each read off its own cells -/
theorem trod_cells {t : TypeId} {fs : Array Field} {fuel : Nat} {cs : List Value} {x : DataW H × List MemPlace} (hs : P.underlying t = some (.struct fs)) (h : DataW.trod enc P w base spare held fuel t cs = some x) :
    cs.length = P.cellsOf t ∧ ∀ (j : Nat) (f : Field), fs[j]? = some f → ∃ (y : DataW H × List MemPlace) (n : Nat), DataW.trod enc P w base spare held n f.type ((cs.drop f.offset).take (P.cellsOf f.type)) = some y := by
  obtain ⟨ys, n', hn', hy, hlen, hyl, hf⟩ := DataW.trod_struct hs h
  refine ⟨hlen, fun j f hj => ?_⟩
  have hjl : j < fs.size := (Array.getElem?_eq_some_iff.1 hj).1
  exact ⟨ys[j]'(by omega), n', (hf j f hj).trans (List.getElem?_eq_getElem (by omega))⟩
theorem drop_take_one {cs : List Value} {j : Nat} (h : j < cs.length) : (cs.drop j).take 1 = [cs[j]] := by
  rw [List.drop_eq_getElem_cons h]; rfl
end
theorem exists_row {α : Type} {n : Nat} {P : Nat → α → Prop} (h : ∀ i, i < n → ∃ x, P i x) : ∃ l : List α, l.length = n ∧ ∀ i x, l[i]? = some x → P i x := by
  induction n with
  | zero => exact ⟨[], rfl, fun i x hx => by simp at hx⟩
  | succ n ih =>
    obtain ⟨l, hl, hp⟩ := ih (fun i hi => h i (by omega))
    obtain ⟨x, hx⟩ := h n (by omega)
    refine ⟨l ++ [x], by simp [hl], fun i y hy => ?_⟩
    by_cases hi : i < n
    · rw [List.getElem?_append_left (by omega)] at hy
      exact hp i y hy
    · have : i = n := by
        have := (List.getElem?_eq_some_iff.1 hy).1
        simp at this
        omega
      subst this
      rw [List.getElem?_append_right (by omega), hl] at hy
      simp at hy
      subst hy
      exact hx
/-- the slice at A reads as the elements l, each of so many cells -/
structure Elems {α : Type} (w : World) (A : Option Addr) (cells : α → List Value) (sz : Nat) (l : List α) : Prop where
  len : l.length ≤ 9223372036854775807
  row : l = [] ∨ ∃ g o, A = some ⟨g, o, none⟩ ∧ g < w.heap.size ∧ ∀ i y, l[i]? = some y → ∀ j u, (cells y)[j]? = some u → w.cell? ⟨g, o + i * sz + j, none⟩ = some u
theorem Elems.new {α : Type} {w w' : World} {A : Option Addr} {cells : α → List Value} {sz : Nat} {l : List α} (h : Elems w A cells sz l) (m : Mod [] w w') : Elems w' A cells sz l := by
  refine ⟨h.len, ?_⟩
  rcases h.row with h0 | ⟨g, o, hA, hg, hc⟩
  · exact .inl h0
  · exact .inr ⟨g, o, hA, Nat.lt_of_lt_of_le hg m.size, fun i v hv j u hu => (m.cell (p := ⟨g, o + i * sz + j, none⟩) hg (by simp)).trans (hc i v hv j u hu)⟩
theorem Elems.at_ {α : Type} {w : World} {A : Option Addr} {cells : α → List Value} {sz : Nat} {l : List α} (h : Elems w A cells sz l) {i : Nat} {y : α} (hy : l[i]? = some y) :
    ∃ g o, A = some ⟨g, o, none⟩ ∧ g < w.heap.size ∧ ∀ j u, (cells y)[j]? = some u → w.cell? ⟨g, o + i * sz + j, none⟩ = some u := by
  rcases h.row with h0 | ⟨g, o, hA, hg, hc⟩
  · rw [h0] at hy; simp at hy
  · exact ⟨g, o, hA, hg, hc i y hy⟩
section
open Go.ChangeShapes Go.WideShapes Go.Deep
variable {H : Type} {enc : TypeId × Value → H} {P : Program} {w : World} {base : Nat} {held : Bool}
/-- the row of a slice that came in -/
theorem trod_elems {α : Type} {t e : TypeId} {sz : Nat} {cells : α → List Value} {ok : α → Prop} {fuel : Nat} {v : Value} {x : DataW H × List MemPlace} (ht : P.underlying t = some (.slice e)) (hC : P.cellsOf e = sz) (hsz : 0 < sz) (hcl : ∀ y, (cells y).length = sz)
    (hel : ∀ (fuel : Nat) (cs : List Value) (x : DataW H × List MemPlace), cs.length = sz → DataW.trod enc P w base (fun _ => true) held fuel e cs = some x → ∃ y : α, cs = cells y ∧ ok y)
    (h : DataW.trod enc P w base (fun _ => true) held fuel t [v] = some x) :
    ∃ (A : Option Addr) (c : Nat) (l : List α), v = .slice A l.length c ∧ Elems w A cells sz l ∧ ∀ y ∈ l, ok y := by
  rcases open_slice ht h with ⟨hcs, _⟩ | ⟨a, len, cap, m, n, D, Pl, hcs, _, hl, hm, hmm, _, hi⟩
  · simp only [List.cons.injEq, and_true] at hcs
    exact ⟨none, 0, [], hcs, ⟨by simp, .inl rfl⟩, by simp⟩
  · simp only [List.cons.injEq, and_true] at hcs
    simp only [if_true] at hmm
    subst hmm
    have hex : ∀ i, i < len → ∃ y : α, (∀ j u, (cells y)[j]? = some u → w.cell? (a.add (i * sz + j)) = some u) ∧ ok y := by
      intro i hil
      obtain ⟨cs', hc, htr⟩ := hi i (by omega)
      rw [hC] at hc
      obtain ⟨_, hcn, hat⟩ := World.cells?_some hc
      obtain ⟨y, rfl, hy⟩ := hel _ _ _ hcn htr
      refine ⟨y, fun j u hu => ?_, hy⟩
      have hj : j < sz := by have := (List.getElem?_eq_some_iff.1 hu).1; rw [hcl] at this; exact this
      rw [← Go.Deep.add_add, hat j hj, hu]
    obtain ⟨L, hL, hP⟩ := exists_row hex
    refine ⟨some a, _, L, by rw [hcs, hL], ⟨by simp only [maxLen] at hm; omega, ?_⟩, fun y hy => ?_⟩
    · rcases Nat.eq_zero_or_pos len with h0 | h0
      · exact .inl (List.eq_nil_of_length_eq_zero (by omega))
      · right
        obtain ⟨b, off, spot⟩ := a
        obtain ⟨y, hy⟩ : ∃ y, L[0]? = some y := ⟨_, List.getElem?_eq_getElem (by omega)⟩
        obtain ⟨u, hu⟩ : ∃ u, (cells y)[0]? = some u := ⟨_, List.getElem?_eq_getElem (by rw [hcl]; exact hsz)⟩
        have hc0 := (hP 0 y hy).1 0 u hu
        have hspot : spot = none := by simpa [Addr.add] using World.cell?_spot hc0
        subst hspot
        refine ⟨b, off, rfl, by have h9 := World.block_lt_of_cell? w _ hc0; rw [Addr.add_lit] at h9; exact h9, fun i z hz j u hu => ?_⟩
        have h1 := (hP i z hz).1 j u hu
        rw [Addr.add_lit, ← Nat.add_assoc] at h1
        exact h1
    · obtain ⟨i, hi2⟩ := List.mem_iff_getElem?.1 hy
      exact (hP i y hi2).2
theorem open_elems {α : Type} {t e : TypeId} {sz : Nat} {cells : α → List Value} {ok : α → Prop} {v : Value} {d : DataW H} {p : List MemPlace} {r : Reach} {b0 : Nat} (ht : P.underlying t = some (.slice e)) (hC : P.cellsOf e = sz) (hsz : 0 < sz) (hcl : ∀ y, (cells y).length = sz)
    (hel : ∀ (fuel : Nat) (cs : List Value) (x : DataW H × List MemPlace), cs.length = sz → DataW.trod enc P w base (fun _ => true) held fuel e cs = some x → ∃ y : α, cs = cells y ∧ ok y)
    (hv : Value.okWide P w r b0 t v) (h : DataW.Trod enc P w base (fun _ => true) held t v d p) :
    ∃ (A : Option Addr) (c : Nat) (l : List α), v = .slice A l.length c ∧ Elems w A cells sz l ∧ ∀ y ∈ l, ok y := by
  obtain ⟨a, len, cap, rfl⟩ := okWide_slice ht hv
  obtain ⟨fuel, hf⟩ := h
  exact trod_elems ht hC hsz hcl hel hf
end
end Go.Proofs.YtjdfemfobcjecaaGreat

/-
  A struct stored into a variable that was just made: whole, and the world behind it opaque; its cells loaded whole.
-/
namespace Go.Proofs.YtjdfemfobcjecaaGreat
open Go.RowKit
section
variable {P : Program}
theorem wpList_store_open {ops : Array Oper} {rest : List Oper} {op : Oper} {a : Act} {w : World} {Q : Exit → Act → World → Prop} (hgd : op.guard = none) (ty : TypeId) (x y : Operand) (ho : op.op = .store ty x y) (hd : op.dst = none)
    (c c' : Array Value) (hx : a.eval x = .pointer (some ⟨w.heap.size, 0, none⟩)) (hy : a.eval y = .agg c') (hi : (P.info? ty).map (·.size) = some c'.size) (hold : c.size = c'.size) (h1 : c'.all (·.oneCell') = true)
    (h : ∀ w6, Mod [] w w6 → Blk w6 w.heap.size ty c' → w6.heap.size = w.heap.size + 1 → wpList P ops Q rest a w6) : wpList P ops Q (op :: rest) a (w.alloc (.cells c ty)) := by
  refine wpList_store_rowTo hgd ty x y ho hd w.heap.size c' hx hy ty c (heap_alloc_new w _) hi hold h1 ?_
  rw [World.setRow_alloc_new]
  exact h _ ((Mod.refl [] w).alloc _) (Blk.new w ty c') (World.size_alloc _ _)
theorem Blk.range {w : World} {g : Nat} {t : TypeId} {cs : Array Value} (h : Blk w g t cs) : w.rangeAt g 0 cs.toList := fun j v hv => by
  have := h.cell j
  rw [Nat.zero_add, this]
  simpa using hv
end
end Go.Proofs.YtjdfemfobcjecaaGreat

/-
  the statements' arguments over streams, opened.
-/
namespace Go.Proofs.YtjdfemfobcjecaaGreat
open Go.RowKit
set_option linter.unusedVariables false
/-- a frame, and where its ranges lie -/
structure FA where
  f : Fr
  A : Option Addr
  c : Nat
def FA.cells (x : FA) : List Value := [.int .u64 (x.f.kind : Nat), .int .u64 (x.f.a : Nat), .int .u64 (x.f.b : Nat), .int .u64 (x.f.c : Nat), .bool x.f.fin, .string x.f.data, .string x.f.more, .slice x.A x.f.list.length x.c]
structure FA.OK (x : FA) : Prop where
  kind : x.f.kind ≤ 18446744073709551615
  a : x.f.a ≤ 18446744073709551615
  b : x.f.b ≤ 18446744073709551615
  c : x.f.c ≤ 18446744073709551615
  data : x.f.data.size ≤ 9223372036854775807
  more : x.f.more.size ≤ 9223372036854775807
  list : x.f.list.length ≤ 9223372036854775807
structure Lm.U (l : Lm) : Prop where
  data : l.data ≤ 18446744073709551615
  bl : l.bl ≤ 18446744073709551615
  br : l.br ≤ 18446744073709551615
  un : l.un ≤ 18446744073709551615
  bidis : l.bidis ≤ 18446744073709551615
  unis : l.unis ≤ 18446744073709551615
structure SAct where
  kind : Int
  n : Int
  id : Nat
  code : Nat
  text : ByteArray
  fin : Bool
  fr : FA
  lim : Lm
def SAct.cells (x : SAct) : List Value := [.int .i64 x.kind, .int .i64 x.n, .int .u64 (x.id : Nat), .int .u64 (x.code : Nat), .string x.text, .bool x.fin, .int .u64 (x.fr.f.kind : Nat), .int .u64 (x.fr.f.a : Nat), .int .u64 (x.fr.f.b : Nat), .int .u64 (x.fr.f.c : Nat), .bool x.fr.f.fin, .string x.fr.f.data, .string x.fr.f.more, .slice x.fr.A x.fr.f.list.length x.fr.c,
  .int .u64 (x.lim.data : Int), .int .u64 (x.lim.bl : Int), .int .u64 (x.lim.br : Int), .int .u64 (x.lim.un : Int), .int .u64 (x.lim.bidis : Int), .int .u64 (x.lim.unis : Int)]
structure SAct.OK (x : SAct) : Prop where
  k1 : -9223372036854775808 ≤ x.kind
  k2 : x.kind ≤ 9223372036854775807
  n1 : -9223372036854775808 ≤ x.n
  n2 : x.n ≤ 9223372036854775807
  id : x.id ≤ 18446744073709551615
  code : x.code ≤ 18446744073709551615
  text : x.text.size ≤ 9223372036854775807
  fr : x.fr.OK
  lim : x.lim.U
section
open Go.ChangeShapes Go.WideShapes Go.Deep
variable {H : Type} {enc : TypeId × Value → H} {w : World} {base : Nat} {held : Bool}
set_option maxRecDepth 100000 in
theorem trod_range (fuel : Nat) (cs : List Value) (x : DataW H × List MemPlace) (hlen : cs.length = 2) (h : DataW.trod enc Tryz.prog w base (fun _ => true) held fuel 92 cs = some x) : ∃ y : Nat × Nat, cs = [.int .u64 (y.1 : Nat), .int .u64 (y.2 : Nat)] ∧ True := by
  obtain ⟨hl, hf⟩ := trod_cells Tryz.underlying92 h
  rw [show Tryz.prog.cellsOf 92 = 2 by kernel_rfl] at hl
  obtain ⟨y0, n0, t0⟩ := hf 0 _ rfl
  obtain ⟨y1, n1, t1⟩ := hf 1 _ rfl
  have q0 : ((cs.drop 0).take (Tryz.prog.cellsOf 22)) = [cs[0]] := by rw [show Tryz.prog.cellsOf 22 = 1 by kernel_rfl]; exact drop_take_one (by omega)
  have t0 : DataW.trod enc Tryz.prog w base (fun _ => true) held n0 22 ((cs.drop 0).take (Tryz.prog.cellsOf 22)) = some y0 := t0
  rw [q0] at t0
  obtain ⟨x0, e0, _, w0⟩ := DataW.trod_int Tryz.underlying22 t0
  have b0 := bounds_u64 w0
  obtain ⟨u0, rfl⟩ := Int.eq_ofNat_of_zero_le b0.1
  have c0 : u0 ≤ 18446744073709551615 := by omega
  simp only [List.cons.injEq, and_true] at e0
  have q1 : ((cs.drop 1).take (Tryz.prog.cellsOf 22)) = [cs[1]] := by rw [show Tryz.prog.cellsOf 22 = 1 by kernel_rfl]; exact drop_take_one (by omega)
  have t1 : DataW.trod enc Tryz.prog w base (fun _ => true) held n1 22 ((cs.drop 1).take (Tryz.prog.cellsOf 22)) = some y1 := t1
  rw [q1] at t1
  obtain ⟨x1, e1, _, w1⟩ := DataW.trod_int Tryz.underlying22 t1
  have b1 := bounds_u64 w1
  obtain ⟨u1, rfl⟩ := Int.eq_ofNat_of_zero_le b1.1
  have c1 : u1 ≤ 18446744073709551615 := by omega
  simp only [List.cons.injEq, and_true] at e1
  refine ⟨(u0, u1), ?_, trivial⟩
  apply List.ext_getElem (by simp [hl])
  intro i h1 h2
  have : i = 0 ∨ i = 1 := by omega
  rcases this with rfl | rfl
  · exact e0
  · exact e1
set_option maxRecDepth 100000 in
set_option maxHeartbeats 4000000 in
theorem trod_frame (fuel : Nat) (cs : List Value) (x : DataW H × List MemPlace) (hlen : cs.length = 8) (h : DataW.trod enc Tryz.prog w base (fun _ => true) held fuel 31 cs = some x) : ∃ y : FA, cs = y.cells ∧ y.OK := by
  obtain ⟨hl, hf⟩ := trod_cells Tryz.underlying31 h
  rw [show Tryz.prog.cellsOf 31 = 8 by kernel_rfl] at hl
  obtain ⟨y0, n0, t0⟩ := hf 0 _ rfl
  obtain ⟨y1, n1, t1⟩ := hf 1 _ rfl
  obtain ⟨y2, n2, t2⟩ := hf 2 _ rfl
  obtain ⟨y3, n3, t3⟩ := hf 3 _ rfl
  obtain ⟨y4, n4, t4⟩ := hf 4 _ rfl
  obtain ⟨y5, n5, t5⟩ := hf 5 _ rfl
  obtain ⟨y6, n6, t6⟩ := hf 6 _ rfl
  obtain ⟨y7, n7, t7⟩ := hf 7 _ rfl
  have q0 : ((cs.drop 0).take (Tryz.prog.cellsOf 22)) = [cs[0]] := by rw [show Tryz.prog.cellsOf 22 = 1 by kernel_rfl]; exact drop_take_one (by omega)
  have t0 : DataW.trod enc Tryz.prog w base (fun _ => true) held n0 22 ((cs.drop 0).take (Tryz.prog.cellsOf 22)) = some y0 := t0
  rw [q0] at t0
  obtain ⟨x0, e0, _, w0⟩ := DataW.trod_int Tryz.underlying22 t0
  have b0 := bounds_u64 w0
  obtain ⟨u0, rfl⟩ := Int.eq_ofNat_of_zero_le b0.1
  have c0 : u0 ≤ 18446744073709551615 := by omega
  simp only [List.cons.injEq, and_true] at e0
  have q1 : ((cs.drop 1).take (Tryz.prog.cellsOf 22)) = [cs[1]] := by rw [show Tryz.prog.cellsOf 22 = 1 by kernel_rfl]; exact drop_take_one (by omega)
  have t1 : DataW.trod enc Tryz.prog w base (fun _ => true) held n1 22 ((cs.drop 1).take (Tryz.prog.cellsOf 22)) = some y1 := t1
  rw [q1] at t1
  obtain ⟨x1, e1, _, w1⟩ := DataW.trod_int Tryz.underlying22 t1
  have b1 := bounds_u64 w1
  obtain ⟨u1, rfl⟩ := Int.eq_ofNat_of_zero_le b1.1
  have c1 : u1 ≤ 18446744073709551615 := by omega
  simp only [List.cons.injEq, and_true] at e1
  have q2 : ((cs.drop 2).take (Tryz.prog.cellsOf 22)) = [cs[2]] := by rw [show Tryz.prog.cellsOf 22 = 1 by kernel_rfl]; exact drop_take_one (by omega)
  have t2 : DataW.trod enc Tryz.prog w base (fun _ => true) held n2 22 ((cs.drop 2).take (Tryz.prog.cellsOf 22)) = some y2 := t2
  rw [q2] at t2
  obtain ⟨x2, e2, _, w2⟩ := DataW.trod_int Tryz.underlying22 t2
  have b2 := bounds_u64 w2
  obtain ⟨u2, rfl⟩ := Int.eq_ofNat_of_zero_le b2.1
  have c2 : u2 ≤ 18446744073709551615 := by omega
  simp only [List.cons.injEq, and_true] at e2
  have q3 : ((cs.drop 3).take (Tryz.prog.cellsOf 22)) = [cs[3]] := by rw [show Tryz.prog.cellsOf 22 = 1 by kernel_rfl]; exact drop_take_one (by omega)
  have t3 : DataW.trod enc Tryz.prog w base (fun _ => true) held n3 22 ((cs.drop 3).take (Tryz.prog.cellsOf 22)) = some y3 := t3
  rw [q3] at t3
  obtain ⟨x3, e3, _, w3⟩ := DataW.trod_int Tryz.underlying22 t3
  have b3 := bounds_u64 w3
  obtain ⟨u3, rfl⟩ := Int.eq_ofNat_of_zero_le b3.1
  have c3 : u3 ≤ 18446744073709551615 := by omega
  simp only [List.cons.injEq, and_true] at e3
  have q4 : ((cs.drop 4).take (Tryz.prog.cellsOf 4)) = [cs[4]] := by rw [show Tryz.prog.cellsOf 4 = 1 by kernel_rfl]; exact drop_take_one (by omega)
  have t4 : DataW.trod enc Tryz.prog w base (fun _ => true) held n4 4 ((cs.drop 4).take (Tryz.prog.cellsOf 4)) = some y4 := t4
  rw [q4] at t4
  obtain ⟨u4, e4, _⟩ := DataW.trod_bool Tryz.underlying4 t4
  simp only [List.cons.injEq, and_true] at e4
  have q5 : ((cs.drop 5).take (Tryz.prog.cellsOf 9)) = [cs[5]] := by rw [show Tryz.prog.cellsOf 9 = 1 by kernel_rfl]; exact drop_take_one (by omega)
  have t5 : DataW.trod enc Tryz.prog w base (fun _ => true) held n5 9 ((cs.drop 5).take (Tryz.prog.cellsOf 9)) = some y5 := t5
  rw [q5] at t5
  obtain ⟨u5, e5, _, w5⟩ := DataW.trod_string Tryz.underlying9 t5
  simp only [List.cons.injEq, and_true] at e5
  have q6 : ((cs.drop 6).take (Tryz.prog.cellsOf 9)) = [cs[6]] := by rw [show Tryz.prog.cellsOf 9 = 1 by kernel_rfl]; exact drop_take_one (by omega)
  have t6 : DataW.trod enc Tryz.prog w base (fun _ => true) held n6 9 ((cs.drop 6).take (Tryz.prog.cellsOf 9)) = some y6 := t6
  rw [q6] at t6
  obtain ⟨u6, e6, _, w6⟩ := DataW.trod_string Tryz.underlying9 t6
  simp only [List.cons.injEq, and_true] at e6
  have q7 : ((cs.drop 7).take (Tryz.prog.cellsOf 29)) = [cs[7]] := by rw [show Tryz.prog.cellsOf 29 = 1 by kernel_rfl]; exact drop_take_one (by omega)
  have t7 : DataW.trod enc Tryz.prog w base (fun _ => true) held n7 29 ((cs.drop 7).take (Tryz.prog.cellsOf 29)) = some y7 := t7
  rw [q7] at t7
  obtain ⟨A7, c7, l7, e7, el7, _⟩ := trod_elems (sz := 2) (cells := fun y : Nat × Nat => [Value.int .u64 (y.1 : Nat), .int .u64 (y.2 : Nat)]) (ok := fun _ => True) Tryz.underlying29 (by kernel_rfl) (by omega) (fun _ => rfl) trod_range t7
  refine ⟨⟨⟨u0, u1, u2, u3, u4, u5, u6, l7⟩, A7, c7⟩, ?_, ⟨c0, c1, c2, c3, w5, w6, el7.len⟩⟩
  apply List.ext_getElem (by rw [hl]; rfl)
  intro i h1 h2
  have : i = 0 ∨ i = 1 ∨ i = 2 ∨ i = 3 ∨ i = 4 ∨ i = 5 ∨ i = 6 ∨ i = 7 := by omega
  rcases this with rfl | rfl | rfl | rfl | rfl | rfl | rfl | rfl
  · exact e0
  · exact e1
  · exact e2
  · exact e3
  · exact e4
  · exact e5
  · exact e6
  · exact e7
set_option maxRecDepth 100000 in
set_option maxHeartbeats 4000000 in
theorem trod_limits (fuel : Nat) (cs : List Value) (x : DataW H × List MemPlace) (hlen : cs.length = 6) (h : DataW.trod enc Tryz.prog w base (fun _ => true) held fuel 24 cs = some x) : ∃ y : Lm, cs = y.vals ∧ y.U := by
  obtain ⟨hl, hf⟩ := trod_cells Tryz.underlying24 h
  rw [show Tryz.prog.cellsOf 24 = 6 by kernel_rfl] at hl
  obtain ⟨y0, n0, t0⟩ := hf 0 _ rfl
  obtain ⟨y1, n1, t1⟩ := hf 1 _ rfl
  obtain ⟨y2, n2, t2⟩ := hf 2 _ rfl
  obtain ⟨y3, n3, t3⟩ := hf 3 _ rfl
  obtain ⟨y4, n4, t4⟩ := hf 4 _ rfl
  obtain ⟨y5, n5, t5⟩ := hf 5 _ rfl
  have q0 : ((cs.drop 0).take (Tryz.prog.cellsOf 22)) = [cs[0]] := by rw [show Tryz.prog.cellsOf 22 = 1 by kernel_rfl]; exact drop_take_one (by omega)
  have t0 : DataW.trod enc Tryz.prog w base (fun _ => true) held n0 22 ((cs.drop 0).take (Tryz.prog.cellsOf 22)) = some y0 := t0
  rw [q0] at t0
  obtain ⟨x0, e0, _, w0⟩ := DataW.trod_int Tryz.underlying22 t0
  have b0 := bounds_u64 w0
  obtain ⟨u0, rfl⟩ := Int.eq_ofNat_of_zero_le b0.1
  have c0 : u0 ≤ 18446744073709551615 := by omega
  simp only [List.cons.injEq, and_true] at e0
  have q1 : ((cs.drop 1).take (Tryz.prog.cellsOf 22)) = [cs[1]] := by rw [show Tryz.prog.cellsOf 22 = 1 by kernel_rfl]; exact drop_take_one (by omega)
  have t1 : DataW.trod enc Tryz.prog w base (fun _ => true) held n1 22 ((cs.drop 1).take (Tryz.prog.cellsOf 22)) = some y1 := t1
  rw [q1] at t1
  obtain ⟨x1, e1, _, w1⟩ := DataW.trod_int Tryz.underlying22 t1
  have b1 := bounds_u64 w1
  obtain ⟨u1, rfl⟩ := Int.eq_ofNat_of_zero_le b1.1
  have c1 : u1 ≤ 18446744073709551615 := by omega
  simp only [List.cons.injEq, and_true] at e1
  have q2 : ((cs.drop 2).take (Tryz.prog.cellsOf 22)) = [cs[2]] := by rw [show Tryz.prog.cellsOf 22 = 1 by kernel_rfl]; exact drop_take_one (by omega)
  have t2 : DataW.trod enc Tryz.prog w base (fun _ => true) held n2 22 ((cs.drop 2).take (Tryz.prog.cellsOf 22)) = some y2 := t2
  rw [q2] at t2
  obtain ⟨x2, e2, _, w2⟩ := DataW.trod_int Tryz.underlying22 t2
  have b2 := bounds_u64 w2
  obtain ⟨u2, rfl⟩ := Int.eq_ofNat_of_zero_le b2.1
  have c2 : u2 ≤ 18446744073709551615 := by omega
  simp only [List.cons.injEq, and_true] at e2
  have q3 : ((cs.drop 3).take (Tryz.prog.cellsOf 22)) = [cs[3]] := by rw [show Tryz.prog.cellsOf 22 = 1 by kernel_rfl]; exact drop_take_one (by omega)
  have t3 : DataW.trod enc Tryz.prog w base (fun _ => true) held n3 22 ((cs.drop 3).take (Tryz.prog.cellsOf 22)) = some y3 := t3
  rw [q3] at t3
  obtain ⟨x3, e3, _, w3⟩ := DataW.trod_int Tryz.underlying22 t3
  have b3 := bounds_u64 w3
  obtain ⟨u3, rfl⟩ := Int.eq_ofNat_of_zero_le b3.1
  have c3 : u3 ≤ 18446744073709551615 := by omega
  simp only [List.cons.injEq, and_true] at e3
  have q4 : ((cs.drop 4).take (Tryz.prog.cellsOf 22)) = [cs[4]] := by rw [show Tryz.prog.cellsOf 22 = 1 by kernel_rfl]; exact drop_take_one (by omega)
  have t4 : DataW.trod enc Tryz.prog w base (fun _ => true) held n4 22 ((cs.drop 4).take (Tryz.prog.cellsOf 22)) = some y4 := t4
  rw [q4] at t4
  obtain ⟨x4, e4, _, w4⟩ := DataW.trod_int Tryz.underlying22 t4
  have b4 := bounds_u64 w4
  obtain ⟨u4, rfl⟩ := Int.eq_ofNat_of_zero_le b4.1
  have c4 : u4 ≤ 18446744073709551615 := by omega
  simp only [List.cons.injEq, and_true] at e4
  have q5 : ((cs.drop 5).take (Tryz.prog.cellsOf 22)) = [cs[5]] := by rw [show Tryz.prog.cellsOf 22 = 1 by kernel_rfl]; exact drop_take_one (by omega)
  have t5 : DataW.trod enc Tryz.prog w base (fun _ => true) held n5 22 ((cs.drop 5).take (Tryz.prog.cellsOf 22)) = some y5 := t5
  rw [q5] at t5
  obtain ⟨x5, e5, _, w5⟩ := DataW.trod_int Tryz.underlying22 t5
  have b5 := bounds_u64 w5
  obtain ⟨u5, rfl⟩ := Int.eq_ofNat_of_zero_le b5.1
  have c5 : u5 ≤ 18446744073709551615 := by omega
  simp only [List.cons.injEq, and_true] at e5
  refine ⟨⟨u0, u1, u2, u3, u4, u5⟩, ?_, ⟨c0, c1, c2, c3, c4, c5⟩⟩
  apply List.ext_getElem (by rw [hl]; rfl)
  intro i h1 h2
  have : i = 0 ∨ i = 1 ∨ i = 2 ∨ i = 3 ∨ i = 4 ∨ i = 5 := by omega
  rcases this with rfl | rfl | rfl | rfl | rfl | rfl
  · exact e0
  · exact e1
  · exact e2
  · exact e3
  · exact e4
  · exact e5
set_option maxRecDepth 100000 in
set_option maxHeartbeats 4000000 in
theorem open_limits {v : Value} {d : DataW H} {p : List MemPlace} {r : Reach} {b0 : Nat} (hv : Value.okWide Tryz.prog w r b0 24 v) (h : DataW.Trod enc Tryz.prog w base (fun _ => true) held 24 v d p) :
    ∃ l : Lm, v = l.val ∧ l.U := by
  obtain ⟨cs, rfl, hsz⟩ := okWide_struct Tryz.underlying24 hv
  obtain ⟨fuel, hf⟩ := h
  obtain ⟨l, hl, hu⟩ := trod_limits _ _ _ ((trod_cells Tryz.underlying24 hf).1.trans (by kernel_rfl)) hf
  refine ⟨l, ?_, hu⟩
  have e : (Value.agg cs).cells.toList = cs.toList := rfl
  rw [e] at hl
  unfold Lm.val
  congr 1
  exact Array.toList_inj.1 hl
set_option maxRecDepth 100000 in
set_option maxHeartbeats 4000000 in
theorem open_flags {v : Value} {d : DataW H} {p : List MemPlace} {r : Reach} {b0 : Nat} (hv : Value.okWide Tryz.prog w r b0 38 v) (h : DataW.Trod enc Tryz.prog w base (fun _ => true) held 38 v d p) :
    ∃ (A : Option Addr) (c : Nat) (l : List Bool), v = .slice A l.length c ∧ Elems w A (fun b => [Value.bool b]) 1 l := by
  obtain ⟨A, c, l, hv, he, _⟩ := open_elems (sz := 1) (cells := fun b : Bool => [Value.bool b]) (ok := fun _ => True) Tryz.underlying38 (by kernel_rfl) (by omega) (fun _ => rfl) (fun fuel cs x hl hx => by
    match cs, hl, hx with
    | [v], _, hx =>
      obtain ⟨b, e, _⟩ := DataW.trod_bool Tryz.underlying4 hx
      exact ⟨b, e, trivial⟩) hv h
  exact ⟨A, c, l, hv, he⟩
set_option maxRecDepth 100000 in
set_option maxHeartbeats 4000000 in
theorem open_framesA {v : Value} {d : DataW H} {p : List MemPlace} {r : Reach} {b0 : Nat} (hv : Value.okWide Tryz.prog w r b0 25 v) (h : DataW.Trod enc Tryz.prog w base (fun _ => true) held 25 v d p) :
    ∃ (A : Option Addr) (c : Nat) (l : List FA), v = .slice A l.length c ∧ Elems w A FA.cells 8 l ∧ ∀ y ∈ l, y.OK :=
  open_elems (sz := 8) Tryz.underlying25 (by kernel_rfl) (by omega) (fun _ => rfl) trod_frame hv h
set_option maxRecDepth 100000 in
set_option maxHeartbeats 4000000 in
theorem trod_act (fuel : Nat) (cs : List Value) (x : DataW H × List MemPlace) (hlen : cs.length = 20) (h : DataW.trod enc Tryz.prog w base (fun _ => true) held fuel 52 cs = some x) : ∃ y : SAct, cs = y.cells ∧ y.OK := by
  obtain ⟨hl, hf⟩ := trod_cells Tryz.underlying52 h
  rw [show Tryz.prog.cellsOf 52 = 20 by kernel_rfl] at hl
  obtain ⟨y0, n0, t0⟩ := hf 0 _ rfl
  obtain ⟨y1, n1, t1⟩ := hf 1 _ rfl
  obtain ⟨y2, n2, t2⟩ := hf 2 _ rfl
  obtain ⟨y3, n3, t3⟩ := hf 3 _ rfl
  obtain ⟨y4, n4, t4⟩ := hf 4 _ rfl
  obtain ⟨y5, n5, t5⟩ := hf 5 _ rfl
  obtain ⟨y6, n6, t6⟩ := hf 6 _ rfl
  obtain ⟨y7, n7, t7⟩ := hf 7 _ rfl
  have q0 : ((cs.drop 0).take (Tryz.prog.cellsOf 3)) = [cs[0]] := by rw [show Tryz.prog.cellsOf 3 = 1 by kernel_rfl]; exact drop_take_one (by omega)
  have t0 : DataW.trod enc Tryz.prog w base (fun _ => true) held n0 3 ((cs.drop 0).take (Tryz.prog.cellsOf 3)) = some y0 := t0
  rw [q0] at t0
  obtain ⟨u0, e0, _, w0⟩ := DataW.trod_int Tryz.underlying3 t0
  have b0 := bounds_i64 w0
  simp only [List.cons.injEq, and_true] at e0
  have q1 : ((cs.drop 1).take (Tryz.prog.cellsOf 3)) = [cs[1]] := by rw [show Tryz.prog.cellsOf 3 = 1 by kernel_rfl]; exact drop_take_one (by omega)
  have t1 : DataW.trod enc Tryz.prog w base (fun _ => true) held n1 3 ((cs.drop 1).take (Tryz.prog.cellsOf 3)) = some y1 := t1
  rw [q1] at t1
  obtain ⟨u1, e1, _, w1⟩ := DataW.trod_int Tryz.underlying3 t1
  have b1 := bounds_i64 w1
  simp only [List.cons.injEq, and_true] at e1
  have q2 : ((cs.drop 2).take (Tryz.prog.cellsOf 22)) = [cs[2]] := by rw [show Tryz.prog.cellsOf 22 = 1 by kernel_rfl]; exact drop_take_one (by omega)
  have t2 : DataW.trod enc Tryz.prog w base (fun _ => true) held n2 22 ((cs.drop 2).take (Tryz.prog.cellsOf 22)) = some y2 := t2
  rw [q2] at t2
  obtain ⟨x2, e2, _, w2⟩ := DataW.trod_int Tryz.underlying22 t2
  have b2 := bounds_u64 w2
  obtain ⟨u2, rfl⟩ := Int.eq_ofNat_of_zero_le b2.1
  have c2 : u2 ≤ 18446744073709551615 := by omega
  simp only [List.cons.injEq, and_true] at e2
  have q3 : ((cs.drop 3).take (Tryz.prog.cellsOf 22)) = [cs[3]] := by rw [show Tryz.prog.cellsOf 22 = 1 by kernel_rfl]; exact drop_take_one (by omega)
  have t3 : DataW.trod enc Tryz.prog w base (fun _ => true) held n3 22 ((cs.drop 3).take (Tryz.prog.cellsOf 22)) = some y3 := t3
  rw [q3] at t3
  obtain ⟨x3, e3, _, w3⟩ := DataW.trod_int Tryz.underlying22 t3
  have b3 := bounds_u64 w3
  obtain ⟨u3, rfl⟩ := Int.eq_ofNat_of_zero_le b3.1
  have c3 : u3 ≤ 18446744073709551615 := by omega
  simp only [List.cons.injEq, and_true] at e3
  have q4 : ((cs.drop 4).take (Tryz.prog.cellsOf 9)) = [cs[4]] := by rw [show Tryz.prog.cellsOf 9 = 1 by kernel_rfl]; exact drop_take_one (by omega)
  have t4 : DataW.trod enc Tryz.prog w base (fun _ => true) held n4 9 ((cs.drop 4).take (Tryz.prog.cellsOf 9)) = some y4 := t4
  rw [q4] at t4
  obtain ⟨u4, e4, _, w4⟩ := DataW.trod_string Tryz.underlying9 t4
  simp only [List.cons.injEq, and_true] at e4
  have q5 : ((cs.drop 5).take (Tryz.prog.cellsOf 4)) = [cs[5]] := by rw [show Tryz.prog.cellsOf 4 = 1 by kernel_rfl]; exact drop_take_one (by omega)
  have t5 : DataW.trod enc Tryz.prog w base (fun _ => true) held n5 4 ((cs.drop 5).take (Tryz.prog.cellsOf 4)) = some y5 := t5
  rw [q5] at t5
  obtain ⟨u5, e5, _⟩ := DataW.trod_bool Tryz.underlying4 t5
  simp only [List.cons.injEq, and_true] at e5
  have t6 : DataW.trod enc Tryz.prog w base (fun _ => true) held n6 31 ((cs.drop 6).take (Tryz.prog.cellsOf 31)) = some y6 := t6
  have t7 : DataW.trod enc Tryz.prog w base (fun _ => true) held n7 24 ((cs.drop 14).take (Tryz.prog.cellsOf 24)) = some y7 := t7
  obtain ⟨fr, e6, ok6⟩ := trod_frame _ _ _ (by rw [show Tryz.prog.cellsOf 31 = 8 by kernel_rfl]; simp; omega) t6
  obtain ⟨lm, e7, ok7⟩ := trod_limits _ _ _ (by rw [show Tryz.prog.cellsOf 24 = 6 by kernel_rfl]; simp; omega) t7
  rw [show Tryz.prog.cellsOf 31 = 8 by kernel_rfl] at e6
  rw [show Tryz.prog.cellsOf 24 = 6 by kernel_rfl] at e7
  refine ⟨⟨u0, u1, u2, u3, u4, u5, fr, lm⟩, ?_, ⟨b0.1, b0.2, b1.1, b1.2, c2, c3, w4, ok6, ok7⟩⟩
  have h6 : cs = cs.take 6 ++ ((cs.drop 6).take 8 ++ (cs.drop 14).take 6) := by
    rw [show cs.drop 14 = (cs.drop 6).drop 8 by rw [List.drop_drop], List.take_of_length_le (l := (cs.drop 6).drop 8) (by simp; omega), List.take_append_drop, List.take_append_drop]
  have h0 : cs.take 6 = [.int .i64 u0, .int .i64 u1, .int .u64 (u2 : Nat), .int .u64 (u3 : Nat), .string u4, .bool u5] := by
    apply List.ext_getElem (by simp; omega)
    intro i h1 h2
    rw [List.getElem_take]
    have : i = 0 ∨ i = 1 ∨ i = 2 ∨ i = 3 ∨ i = 4 ∨ i = 5 := by simp at h2; omega
    rcases this with rfl | rfl | rfl | rfl | rfl | rfl
    · exact e0
    · exact e1
    · exact e2
    · exact e3
    · exact e4
    · exact e5
  rw [h6, h0, e6, e7]
  rfl
set_option maxRecDepth 100000 in
set_option maxHeartbeats 4000000 in
theorem open_sacts {v : Value} {d : DataW H} {p : List MemPlace} {r : Reach} {b0 : Nat} (hv : Value.okWide Tryz.prog w r b0 49 v) (h : DataW.Trod enc Tryz.prog w base (fun _ => true) held 49 v d p) :
    ∃ (A : Option Addr) (c : Nat) (l : List SAct), v = .slice A l.length c ∧ Elems w A SAct.cells 20 l ∧ ∀ y ∈ l, y.OK :=
  open_elems (sz := 20) Tryz.underlying49 (by kernel_rfl) (by omega) (fun _ => rfl) trod_act hv h
end
end Go.Proofs.YtjdfemfobcjecaaGreat

/-
  the statements' own helpers over streams: large, play.
-/
namespace Go.Proofs.YtjdfemfobcjecaaGreat
open Go.RowKit Go.Sort
set_option linter.unusedVariables false
set_option linter.unusedSimpArgs false
def SAct.val (x : SAct) : Value := .agg #[.int .i64 x.kind, .int .i64 x.n, .int .u64 (x.id : Nat), .int .u64 (x.code : Nat), .string x.text, .bool x.fin, .int .u64 (x.fr.f.kind : Nat), .int .u64 (x.fr.f.a : Nat), .int .u64 (x.fr.f.b : Nat), .int .u64 (x.fr.f.c : Nat), .bool x.fr.f.fin, .string x.fr.f.data, .string x.fr.f.more, .slice x.fr.A x.fr.f.list.length x.fr.c, .int .u64 (x.lim.data : Int), .int .u64 (x.lim.bl : Int), .int .u64 (x.lim.br : Int), .int .u64 (x.lim.un : Int), .int .u64 (x.lim.bidis : Int), .int .u64 (x.lim.unis : Int)]
def SAct.large (x : SAct) : Bool := decide (200 < x.text.size) || decide (200 < x.fr.f.data.size) || decide (10 < x.fr.f.list.length) || decide (100 < x.fr.f.more.size)
theorem SAct.large_no {x : SAct} (h : x.large = false) : x.text.size ≤ 200 ∧ x.fr.f.data.size ≤ 200 := by
  unfold SAct.large at h
  simp only [Bool.or_eq_false_iff, decide_eq_false_iff_not] at h
  omega
/-- what an act told -/
structure Said where
  n : Nat
  text : ByteArray
  is_ : Bool
  f : Fr
  e : Int
def Said.cells (o : Said) : Array Value := #[.int .u64 (o.n : Nat), .string o.text, .bool o.is_, .int .u64 (o.f.kind : Nat), .int .u64 (o.f.a : Nat), .int .u64 (o.f.b : Nat), .int .u64 (o.f.c : Nat), .bool o.f.fin, .string o.f.data, .string o.f.more, .slice none 0 0, .int .i64 o.e]
def said0 : Said := ⟨0, ⟨#[]⟩, false, fr0, 0⟩
inductive Ss.Plays (s : Ss) (x : SAct) : Said → Ss → Prop
  | open_ (hk : x.kind = 0) (n c : Nat) (s' : Ss) (h : s.Opens (kindOf s x.fin) n c s') : s.Plays x ⟨n, ⟨#[]⟩, false, fr0, (c : Int)⟩ s'
  | write (hk : x.kind = 1) (c : Int) (s' : Ss) (h : s.Writes x.id x.text.data.toList x.fin c s') : s.Plays x ⟨0, ⟨#[]⟩, false, fr0, c⟩ s'
  | read (hk : x.kind = 2) (t : ByteArray) (d : Bool) (c : Int) (s' : Ss) (h : s.Reads x.id x.n t d c s') : s.Plays x ⟨0, t, d, fr0, c⟩ s'
  | reset (hk : x.kind = 3) (c : Int) (s' : Ss) (h : s.Resets x.id x.code c s') : s.Plays x ⟨0, ⟨#[]⟩, false, fr0, c⟩ s'
  | stop (hk : x.kind = 4) (c : Int) (s' : Ss) (h : s.Stops x.id x.code c s') : s.Plays x ⟨0, ⟨#[]⟩, false, fr0, c⟩ s'
  | got (hk : x.kind = 5) (c : Int) (s' : Ss) (h : s.Gots x.fr.f c s') : s.Plays x ⟨0, ⟨#[]⟩, false, fr0, c⟩ s'
  | next (hk : x.kind = 6) (f : Fr) (is : Bool) (s' : Ss) (h : s.NextOf x.n f is s') : s.Plays x ⟨0, ⟨#[]⟩, is, f, 0⟩ s'
  | acked (hk : x.kind = 7) (s' : Ss) (h : s.Acks x.fr.f s') : s.Plays x said0 s'
  | lost (hk : x.kind = 8) (s' : Ss) (h : s.Loses x.fr.f s') : s.Plays x said0 s'
  | other (hk : x.kind = 9) (s' : Ss) (h : s.Others x.lim s') : s.Plays x said0 s'
  | none (hk : x.kind < 0 ∨ 9 < x.kind) : s.Plays x said0 s
theorem own_key {K K' : Nat} {W0 w W : World} {sb : Nat} {s s' : Ss} (h0 : Own K W0 w sb s) (h9 : SStep w sb s s' W) (hk : s'.OK K') : SStep w sb s s' W ∧ Own K' W0 W sb s' := ⟨h9, h0.step h9 hk⟩
theorem SStep.besideOf {w w1 W : World} {sb g : Nat} {s s' : Ss} {o : Obj} (hg : w.heap.size = g) (h0 : SBox w sb s) (hst : SStep (w.alloc o) sb s s' w1) (m : Mod [g] w1 W) : SStep w sb s s' W := by
  subst hg; exact SStep.beside h0 hst m
theorem put12_blk {w : World} {g t : Nat} {cs : Array Value} (h : Blk w g t cs) (hs : cs.size = 12) (v0 v1 v2 v3 v4 v5 v6 v7 v8 v9 v10 v11 : Value) :
    Blk ((((((((((((w.setCell ⟨g, 0, none⟩ v0).setCell ⟨g, 1, none⟩ v1).setCell ⟨g, 2, none⟩ v2).setCell ⟨g, 3, none⟩ v3).setCell ⟨g, 4, none⟩ v4).setCell ⟨g, 5, none⟩ v5).setCell ⟨g, 6, none⟩ v6).setCell ⟨g, 7, none⟩ v7).setCell ⟨g, 8, none⟩ v8).setCell ⟨g, 9, none⟩ v9).setCell ⟨g, 10, none⟩ v10).setCell ⟨g, 11, none⟩ v11) g t #[v0, v1, v2, v3, v4, v5, v6, v7, v8, v9, v10, v11] := by
  have hb := h.sets (fun i => (#[v0, v1, v2, v3, v4, v5, v6, v7, v8, v9, v10, v11] : Array Value).getD i undef) (List.range 12)
  rw [sets_eq _ _ 12 hs rfl] at hb
  exact hb
theorem setsL_at (vs : Nat → Value) : ∀ (l : List Nat) (cs : Array Value), (l.foldl (fun c i => c.setIfInBounds i (vs i)) cs).size = cs.size ∧ ∀ i, i < cs.size → (l.foldl (fun c i => c.setIfInBounds i (vs i)) cs)[i]? = if i ∈ l then some (vs i) else cs[i]?
  | [], cs => ⟨rfl, fun i hi => by simp⟩
  | j :: l, cs => by
    obtain ⟨h1, h2⟩ := setsL_at vs l (cs.setIfInBounds j (vs j))
    rw [Array.size_setIfInBounds] at h1 h2
    refine ⟨h1, fun i hi => ?_⟩
    rw [List.foldl_cons, h2 i hi]
    by_cases h : i ∈ l
    · rw [if_pos h, if_pos (List.mem_cons_of_mem _ h)]
    · rw [if_neg h]
      by_cases e : i = j
      · subst e
        rw [if_pos (by simp), Array.getElem?_setIfInBounds_self_of_lt hi]
      · rw [if_neg (by simp [e, h]), Array.getElem?_setIfInBounds_ne (Ne.symm e)]
theorem setsL_eq (cs vs : Array Value) (n : Nat) (l : List Nat) (h : cs.size = n) (k : vs.size = n) (hr : ∀ i, i < n → i ∉ l → cs[i]? = vs[i]?) : l.foldl (fun c i => c.setIfInBounds i (vs.getD i undef)) cs = vs := by
  obtain ⟨h1, h2⟩ := setsL_at (fun i => vs.getD i undef) l cs
  apply Array.ext_getElem?
  intro i
  by_cases hi : i < n
  · rw [h2 i (by omega)]
    by_cases hm : i ∈ l
    · rw [if_pos hm, Array.getElem?_eq_getElem (by omega), Array.getD_eq_getD_getElem?, Array.getElem?_eq_getElem (by omega)]
      rfl
    · rw [if_neg hm]; exact hr i hi hm
  · rw [Array.getElem?_eq_none (by omega), Array.getElem?_eq_none (by omega)]
theorem put12_mod {w0 w : World} {F : List Nat} {g : Nat} (h : Mod F w0 w) (hg : g ∈ F ∨ w0.heap.size ≤ g) (v0 v1 v2 v3 v4 v5 v6 v7 v8 v9 v10 v11 : Value) : Mod F w0 ((((((((((((w.setCell ⟨g, 0, none⟩ v0).setCell ⟨g, 1, none⟩ v1).setCell ⟨g, 2, none⟩ v2).setCell ⟨g, 3, none⟩ v3).setCell ⟨g, 4, none⟩ v4).setCell ⟨g, 5, none⟩ v5).setCell ⟨g, 6, none⟩ v6).setCell ⟨g, 7, none⟩ v7).setCell ⟨g, 8, none⟩ v8).setCell ⟨g, 9, none⟩ v9).setCell ⟨g, 10, none⟩ v10).setCell ⟨g, 11, none⟩ v11) := by
  have hb := h.sets hg (fun i => (#[v0, v1, v2, v3, v4, v5, v6, v7, v8, v9, v10, v11] : Array Value).getD i undef) (List.range 12)
  exact hb
set_option maxRecDepth 100000 in
set_option maxHeartbeats 4000000 in
theorem stlarge_any (w : World) (x : SAct) (hok : x.OK) (v : Bool) (hv : x.large = v) : Calls Tryz.prog 17 #[x.val] w fun e w' => e = .returned (.bool v) ∧ Mod [] w w' := by
  subst hv
  have HL : Hid (x.large = (decide (200 < x.text.size) || decide (200 < x.fr.f.data.size) || decide (10 < x.fr.f.list.length) || decide (100 < x.fr.f.more.size))) := hide rfl
  have HM := hide ((Mod.refl [] w).alloc (.cells #[.int .i64 x.kind, .int .i64 x.n, .int .u64 (x.id : Nat), .int .u64 (x.code : Nat), .string x.text, .bool x.fin, .int .u64 (x.fr.f.kind : Nat), .int .u64 (x.fr.f.a : Nat), .int .u64 (x.fr.f.b : Nat), .int .u64 (x.fr.f.c : Nat), .bool x.fr.f.fin, .string x.fr.f.data, .string x.fr.f.more, .slice x.fr.A x.fr.f.list.length x.fr.c, .int .u64 (x.lim.data : Int), .int .u64 (x.lim.bl : Int), .int .u64 (x.lim.br : Int), .int .u64 (x.lim.un : Int), .int .u64 (x.lim.bidis : Int), .int .u64 (x.lim.unis : Int)] 52))
  have hN := Blk.new w 52 #[.int .i64 x.kind, .int .i64 x.n, .int .u64 (x.id : Nat), .int .u64 (x.code : Nat), .string x.text, .bool x.fin, .int .u64 (x.fr.f.kind : Nat), .int .u64 (x.fr.f.a : Nat), .int .u64 (x.fr.f.b : Nat), .int .u64 (x.fr.f.c : Nat), .bool x.fr.f.fin, .string x.fr.f.data, .string x.fr.f.more, .slice x.fr.A x.fr.f.list.length x.fr.c, .int .u64 (x.lim.data : Int), .int .u64 (x.lim.bl : Int), .int .u64 (x.lim.br : Int), .int .u64 (x.lim.un : Int), .int .u64 (x.lim.bidis : Int), .int .u64 (x.lim.unis : Int)]
  obtain ⟨w1, hw1⟩ : ∃ w1, w.alloc (.cells #[.int .i64 x.kind, .int .i64 x.n, .int .u64 (x.id : Nat), .int .u64 (x.code : Nat), .string x.text, .bool x.fin, .int .u64 (x.fr.f.kind : Nat), .int .u64 (x.fr.f.a : Nat), .int .u64 (x.fr.f.b : Nat), .int .u64 (x.fr.f.c : Nat), .bool x.fr.f.fin, .string x.fr.f.data, .string x.fr.f.more, .slice x.fr.A x.fr.f.list.length x.fr.c, .int .u64 (x.lim.data : Int), .int .u64 (x.lim.bl : Int), .int .u64 (x.lim.br : Int), .int .u64 (x.lim.un : Int), .int .u64 (x.lim.bidis : Int), .int .u64 (x.lim.unis : Int)] 52) = w1 := ⟨_, rfl⟩
  rw [hw1] at HM hN
  have c4 : w1.cell? ⟨w.heap.size, 4, none⟩ = some (.string x.text) := hN.cell 4
  have c11 : w1.cell? ⟨w.heap.size, 11, none⟩ = some (.string x.fr.f.data) := hN.cell 11
  have c12 : w1.cell? ⟨w.heap.size, 12, none⟩ = some (.string x.fr.f.more) := hN.cell 12
  have c13 : w1.cell? ⟨w.heap.size, 13, none⟩ = some (.slice x.fr.A x.fr.f.list.length x.fr.c) := hN.cell 13
  clear hN
  unfold SAct.val
  by_cases h1 : 200 < x.text.size
  · have d1 : (x.text.size : Int) > 200 := by omega
    have HV : Hid (x.large = true) := hide (by rw [HL.out, decide_eq_true h1]; simp)
    clear h1
    go_enter Tryz.func17, Tryz.ntmps17
    go_wp2_with fail
    go_ret
    exact ⟨by rw [HV.out]; rfl, HM.out⟩
  have d1 : ¬ ((x.text.size : Int) > 200) := by omega
  by_cases h2 : 200 < x.fr.f.data.size
  · have d2 : (x.fr.f.data.size : Int) > 200 := by omega
    have HV : Hid (x.large = true) := hide (by rw [HL.out, decide_eq_true h2]; simp)
    clear h1 h2
    go_enter Tryz.func17, Tryz.ntmps17
    go_wp2_with fail
    go_ret
    exact ⟨by rw [HV.out]; rfl, HM.out⟩
  have d2 : ¬ ((x.fr.f.data.size : Int) > 200) := by omega
  by_cases h3 : 10 < x.fr.f.list.length
  · have d3 : (x.fr.f.list.length : Int) > 10 := by omega
    have HV : Hid (x.large = true) := hide (by rw [HL.out, decide_eq_true h3]; simp)
    clear h1 h2 h3
    go_enter Tryz.func17, Tryz.ntmps17
    go_wp2_with fail
    go_ret
    exact ⟨by rw [HV.out]; rfl, HM.out⟩
  have d3 : ¬ ((x.fr.f.list.length : Int) > 10) := by omega
  by_cases h4 : 100 < x.fr.f.more.size
  · have d4 : (x.fr.f.more.size : Int) > 100 := by omega
    have HV : Hid (x.large = true) := hide (by rw [HL.out, decide_eq_true h4]; simp)
    clear h1 h2 h3 h4
    go_enter Tryz.func17, Tryz.ntmps17
    go_wp2_with fail
    go_ret
    exact ⟨by rw [HV.out]; rfl, HM.out⟩
  have d4 : ¬ ((x.fr.f.more.size : Int) > 100) := by omega
  have HV : Hid (x.large = false) := hide (by rw [HL.out, decide_eq_false h1, decide_eq_false h2, decide_eq_false h3, decide_eq_false h4]; rfl)
  clear h1 h2 h3 h4
  go_enter Tryz.func17, Tryz.ntmps17
  go_wp2_with fail
  go_ret
  exact ⟨by rw [HV.out]; rfl, HM.out⟩
theorem beside_new' {w : World} {sb : Nat} {s : Ss} (h : SBox w sb s) : w.heap.size ∉ s.foot sb := fun hk => by have := h.foot_lt _ hk; omega
set_option maxRecDepth 100000 in
set_option maxHeartbeats 4000000 in
theorem own_play_open {K : Nat} {W w : World} {sb : Nat} {s : Ss} (h0 : Own K W w sb s) (hK : K ≤ 64000) (x : SAct) (hok : x.OK) (hlg : x.large = false) (hq0 : x.kind = 0) :
    Calls Tryz.prog 18 #[.pointer (some ⟨sb, 0, none⟩), x.val] w fun e w' => ∃ o s', e = .returned (.agg o.cells) ∧ s.Plays x o s' ∧ SStep w sb s s' w' ∧ Own (K + 200) W w' sb s' := by
  have hl := x.large_no hlg
  have hl1' := hl.1
  have hl2' := hl.2
  have hMB : Mod [] w (w.alloc (.cells #[.int .i64 x.kind, .int .i64 x.n, .int .u64 (x.id : Nat), .int .u64 (x.code : Nat), .string x.text, .bool x.fin, .int .u64 (x.fr.f.kind : Nat), .int .u64 (x.fr.f.a : Nat), .int .u64 (x.fr.f.b : Nat), .int .u64 (x.fr.f.c : Nat), .bool x.fr.f.fin, .string x.fr.f.data, .string x.fr.f.more, .slice x.fr.A x.fr.f.list.length x.fr.c, .int .u64 (x.lim.data : Int), .int .u64 (x.lim.bl : Int), .int .u64 (x.lim.br : Int), .int .u64 (x.lim.un : Int), .int .u64 (x.lim.bidis : Int), .int .u64 (x.lim.unis : Int)] 52)) := (Mod.refl [] w).alloc _
  have hNB := Blk.new w 52 #[.int .i64 x.kind, .int .i64 x.n, .int .u64 (x.id : Nat), .int .u64 (x.code : Nat), .string x.text, .bool x.fin, .int .u64 (x.fr.f.kind : Nat), .int .u64 (x.fr.f.a : Nat), .int .u64 (x.fr.f.b : Nat), .int .u64 (x.fr.f.c : Nat), .bool x.fr.f.fin, .string x.fr.f.data, .string x.fr.f.more, .slice x.fr.A x.fr.f.list.length x.fr.c, .int .u64 (x.lim.data : Int), .int .u64 (x.lim.bl : Int), .int .u64 (x.lim.br : Int), .int .u64 (x.lim.un : Int), .int .u64 (x.lim.bidis : Int), .int .u64 (x.lim.unis : Int)]
  obtain ⟨wB, hwB⟩ : ∃ wB, w.alloc (.cells #[.int .i64 x.kind, .int .i64 x.n, .int .u64 (x.id : Nat), .int .u64 (x.code : Nat), .string x.text, .bool x.fin, .int .u64 (x.fr.f.kind : Nat), .int .u64 (x.fr.f.a : Nat), .int .u64 (x.fr.f.b : Nat), .int .u64 (x.fr.f.c : Nat), .bool x.fr.f.fin, .string x.fr.f.data, .string x.fr.f.more, .slice x.fr.A x.fr.f.list.length x.fr.c, .int .u64 (x.lim.data : Int), .int .u64 (x.lim.bl : Int), .int .u64 (x.lim.br : Int), .int .u64 (x.lim.un : Int), .int .u64 (x.lim.bidis : Int), .int .u64 (x.lim.unis : Int)] 52) = wB := ⟨_, rfl⟩
  rw [hwB] at hMB hNB
  have hOB := h0.next hMB
  have HSB : Hid (SStep w sb s s wB) := hide (SStep.refl h0.box hMB)
  have HBB := hide hOB.box
  have hMC : Mod [] wB (wB.alloc (.cells #[.int .u64 0, .string ⟨#[]⟩, .bool false, .int .u64 0, .int .u64 0, .int .u64 0, .int .u64 0, .bool false, .string ⟨#[]⟩, .string ⟨#[]⟩, .slice none 0 0, .int .i64 0] 55)) := (Mod.refl [] wB).alloc _
  have hNC := Blk.new wB 55 #[.int .u64 0, .string ⟨#[]⟩, .bool false, .int .u64 0, .int .u64 0, .int .u64 0, .int .u64 0, .bool false, .string ⟨#[]⟩, .string ⟨#[]⟩, .slice none 0 0, .int .i64 0]
  have hnin := beside_new' hOB.box
  obtain ⟨tb, htb⟩ : ∃ tb, wB.heap.size = tb := ⟨_, rfl⟩
  have hSC := SStep.refl hOB.box hMC
  have hOC := hOB.next hMC
  have hXC := hMC.blk hNB (by simp)
  rw [htb] at hNC hnin
  have HT := hide hNC
  have HNin := hide hnin
  have HO := hide hOC
  have x0 : (wB.alloc (.cells #[.int .u64 0, .string ⟨#[]⟩, .bool false, .int .u64 0, .int .u64 0, .int .u64 0, .int .u64 0, .bool false, .string ⟨#[]⟩, .string ⟨#[]⟩, .slice none 0 0, .int .i64 0] 55)).cell? ⟨w.heap.size, 0, none⟩ = some (.int .i64 x.kind) := hXC.cell 0
  have x1 : (wB.alloc (.cells #[.int .u64 0, .string ⟨#[]⟩, .bool false, .int .u64 0, .int .u64 0, .int .u64 0, .int .u64 0, .bool false, .string ⟨#[]⟩, .string ⟨#[]⟩, .slice none 0 0, .int .i64 0] 55)).cell? ⟨w.heap.size, 1, none⟩ = some (.int .i64 x.n) := hXC.cell 1
  have x2 : (wB.alloc (.cells #[.int .u64 0, .string ⟨#[]⟩, .bool false, .int .u64 0, .int .u64 0, .int .u64 0, .int .u64 0, .bool false, .string ⟨#[]⟩, .string ⟨#[]⟩, .slice none 0 0, .int .i64 0] 55)).cell? ⟨w.heap.size, 2, none⟩ = some (.int .u64 (x.id : Nat)) := hXC.cell 2
  have x3 : (wB.alloc (.cells #[.int .u64 0, .string ⟨#[]⟩, .bool false, .int .u64 0, .int .u64 0, .int .u64 0, .int .u64 0, .bool false, .string ⟨#[]⟩, .string ⟨#[]⟩, .slice none 0 0, .int .i64 0] 55)).cell? ⟨w.heap.size, 3, none⟩ = some (.int .u64 (x.code : Nat)) := hXC.cell 3
  have x4 : (wB.alloc (.cells #[.int .u64 0, .string ⟨#[]⟩, .bool false, .int .u64 0, .int .u64 0, .int .u64 0, .int .u64 0, .bool false, .string ⟨#[]⟩, .string ⟨#[]⟩, .slice none 0 0, .int .i64 0] 55)).cell? ⟨w.heap.size, 4, none⟩ = some (.string x.text) := hXC.cell 4
  have x5 : (wB.alloc (.cells #[.int .u64 0, .string ⟨#[]⟩, .bool false, .int .u64 0, .int .u64 0, .int .u64 0, .int .u64 0, .bool false, .string ⟨#[]⟩, .string ⟨#[]⟩, .slice none 0 0, .int .i64 0] 55)).cell? ⟨w.heap.size, 5, none⟩ = some (.bool x.fin) := hXC.cell 5
  have x6 : (wB.alloc (.cells #[.int .u64 0, .string ⟨#[]⟩, .bool false, .int .u64 0, .int .u64 0, .int .u64 0, .int .u64 0, .bool false, .string ⟨#[]⟩, .string ⟨#[]⟩, .slice none 0 0, .int .i64 0] 55)).cell? ⟨w.heap.size, 6, none⟩ = some (.int .u64 (x.fr.f.kind : Nat)) := hXC.cell 6
  have x7 : (wB.alloc (.cells #[.int .u64 0, .string ⟨#[]⟩, .bool false, .int .u64 0, .int .u64 0, .int .u64 0, .int .u64 0, .bool false, .string ⟨#[]⟩, .string ⟨#[]⟩, .slice none 0 0, .int .i64 0] 55)).cell? ⟨w.heap.size, 7, none⟩ = some (.int .u64 (x.fr.f.a : Nat)) := hXC.cell 7
  have x8 : (wB.alloc (.cells #[.int .u64 0, .string ⟨#[]⟩, .bool false, .int .u64 0, .int .u64 0, .int .u64 0, .int .u64 0, .bool false, .string ⟨#[]⟩, .string ⟨#[]⟩, .slice none 0 0, .int .i64 0] 55)).cell? ⟨w.heap.size, 8, none⟩ = some (.int .u64 (x.fr.f.b : Nat)) := hXC.cell 8
  have x9 : (wB.alloc (.cells #[.int .u64 0, .string ⟨#[]⟩, .bool false, .int .u64 0, .int .u64 0, .int .u64 0, .int .u64 0, .bool false, .string ⟨#[]⟩, .string ⟨#[]⟩, .slice none 0 0, .int .i64 0] 55)).cell? ⟨w.heap.size, 9, none⟩ = some (.int .u64 (x.fr.f.c : Nat)) := hXC.cell 9
  have x10 : (wB.alloc (.cells #[.int .u64 0, .string ⟨#[]⟩, .bool false, .int .u64 0, .int .u64 0, .int .u64 0, .int .u64 0, .bool false, .string ⟨#[]⟩, .string ⟨#[]⟩, .slice none 0 0, .int .i64 0] 55)).cell? ⟨w.heap.size, 10, none⟩ = some (.bool x.fr.f.fin) := hXC.cell 10
  have x11 : (wB.alloc (.cells #[.int .u64 0, .string ⟨#[]⟩, .bool false, .int .u64 0, .int .u64 0, .int .u64 0, .int .u64 0, .bool false, .string ⟨#[]⟩, .string ⟨#[]⟩, .slice none 0 0, .int .i64 0] 55)).cell? ⟨w.heap.size, 11, none⟩ = some (.string x.fr.f.data) := hXC.cell 11
  have x12 : (wB.alloc (.cells #[.int .u64 0, .string ⟨#[]⟩, .bool false, .int .u64 0, .int .u64 0, .int .u64 0, .int .u64 0, .bool false, .string ⟨#[]⟩, .string ⟨#[]⟩, .slice none 0 0, .int .i64 0] 55)).cell? ⟨w.heap.size, 12, none⟩ = some (.string x.fr.f.more) := hXC.cell 12
  have x13 : (wB.alloc (.cells #[.int .u64 0, .string ⟨#[]⟩, .bool false, .int .u64 0, .int .u64 0, .int .u64 0, .int .u64 0, .bool false, .string ⟨#[]⟩, .string ⟨#[]⟩, .slice none 0 0, .int .i64 0] 55)).cell? ⟨w.heap.size, 13, none⟩ = some (.slice x.fr.A x.fr.f.list.length x.fr.c) := hXC.cell 13
  have x14 : (wB.alloc (.cells #[.int .u64 0, .string ⟨#[]⟩, .bool false, .int .u64 0, .int .u64 0, .int .u64 0, .int .u64 0, .bool false, .string ⟨#[]⟩, .string ⟨#[]⟩, .slice none 0 0, .int .i64 0] 55)).cell? ⟨w.heap.size, 14, none⟩ = some (.int .u64 (x.lim.data : Int)) := hXC.cell 14
  have x15 : (wB.alloc (.cells #[.int .u64 0, .string ⟨#[]⟩, .bool false, .int .u64 0, .int .u64 0, .int .u64 0, .int .u64 0, .bool false, .string ⟨#[]⟩, .string ⟨#[]⟩, .slice none 0 0, .int .i64 0] 55)).cell? ⟨w.heap.size, 15, none⟩ = some (.int .u64 (x.lim.bl : Int)) := hXC.cell 15
  have x16 : (wB.alloc (.cells #[.int .u64 0, .string ⟨#[]⟩, .bool false, .int .u64 0, .int .u64 0, .int .u64 0, .int .u64 0, .bool false, .string ⟨#[]⟩, .string ⟨#[]⟩, .slice none 0 0, .int .i64 0] 55)).cell? ⟨w.heap.size, 16, none⟩ = some (.int .u64 (x.lim.br : Int)) := hXC.cell 16
  have x17 : (wB.alloc (.cells #[.int .u64 0, .string ⟨#[]⟩, .bool false, .int .u64 0, .int .u64 0, .int .u64 0, .int .u64 0, .bool false, .string ⟨#[]⟩, .string ⟨#[]⟩, .slice none 0 0, .int .i64 0] 55)).cell? ⟨w.heap.size, 17, none⟩ = some (.int .u64 (x.lim.un : Int)) := hXC.cell 17
  have x18 : (wB.alloc (.cells #[.int .u64 0, .string ⟨#[]⟩, .bool false, .int .u64 0, .int .u64 0, .int .u64 0, .int .u64 0, .bool false, .string ⟨#[]⟩, .string ⟨#[]⟩, .slice none 0 0, .int .i64 0] 55)).cell? ⟨w.heap.size, 18, none⟩ = some (.int .u64 (x.lim.bidis : Int)) := hXC.cell 18
  have x19 : (wB.alloc (.cells #[.int .u64 0, .string ⟨#[]⟩, .bool false, .int .u64 0, .int .u64 0, .int .u64 0, .int .u64 0, .bool false, .string ⟨#[]⟩, .string ⟨#[]⟩, .slice none 0 0, .int .i64 0] 55)).cell? ⟨w.heap.size, 19, none⟩ = some (.int .u64 (x.lim.unis : Int)) := hXC.cell 19
  have hwl := hNB.lt
  clear hl hMB hNB hOB hMC hNC hnin hSC hOC hXC
  unfold SAct.val
  have HK := hide hq0
  have hk0 : (x.kind == 0) = true := by rw [HK.out]; rfl
  have hk1 : (x.kind == 1) = false := by rw [HK.out]; rfl
  have hk2 : (x.kind == 2) = false := by rw [HK.out]; rfl
  have hk3 : (x.kind == 3) = false := by rw [HK.out]; rfl
  have hk4 : (x.kind == 4) = false := by rw [HK.out]; rfl
  have hk5 : (x.kind == 5) = false := by rw [HK.out]; rfl
  have hk6 : (x.kind == 6) = false := by rw [HK.out]; rfl
  have hk7 : (x.kind == 7) = false := by rw [HK.out]; rfl
  have hk8 : (x.kind == 8) = false := by rw [HK.out]; rfl
  have hk9 : (x.kind == 9) = false := by rw [HK.out]; rfl
  have hct := own_open HO.out x.fin
  have HCt := hide hct
  clear hq0 hct
  go_enter Tryz.func18, Tryz.ntmps18
  go_wp2_with fail
  refine HCt.out.mono ?_
  rintro e w1 ⟨n, c, s', rfl, ho, hst, hO⟩
  have hT1 : Blk w1 tb 55 #[.int .u64 0, .string ⟨#[]⟩, .bool false, .int .u64 0, .int .u64 0, .int .u64 0, .int .u64 0, .bool false, .string ⟨#[]⟩, .string ⟨#[]⟩, .slice none 0 0, .int .i64 0] := hst.2.1.blk HT.out HNin.out
  have HHo := hide ho
  have HSt := hide hst
  have HOk := hide hO.ok
  have hT2 := ((hT1.set_ 0 (.int .u64 (n : Nat))).set_ 11 (.int .i64 (c : Nat)))
  have hM2 := (((Mod.refl [tb] w1).setCell (p := ⟨tb, 0, none⟩) (.inl (by simp)) (.int .u64 (n : Nat))).setCell (p := ⟨tb, 11, none⟩) (.inl (by simp)) (.int .i64 (c : Nat)))
  have g0 : w1.frozen? ⟨tb, 0, none⟩ = false := hT1.frozen 0
  have g1 : w1.frozen? ⟨tb, 1, none⟩ = false := hT1.frozen 1
  have g2 : w1.frozen? ⟨tb, 2, none⟩ = false := hT1.frozen 2
  have g3 : w1.frozen? ⟨tb, 3, none⟩ = false := hT1.frozen 3
  have g4 : w1.frozen? ⟨tb, 4, none⟩ = false := hT1.frozen 4
  have g5 : w1.frozen? ⟨tb, 5, none⟩ = false := hT1.frozen 5
  have g6 : w1.frozen? ⟨tb, 6, none⟩ = false := hT1.frozen 6
  have g7 : w1.frozen? ⟨tb, 7, none⟩ = false := hT1.frozen 7
  have g8 : w1.frozen? ⟨tb, 8, none⟩ = false := hT1.frozen 8
  have g9 : w1.frozen? ⟨tb, 9, none⟩ = false := hT1.frozen 9
  have g10 : w1.frozen? ⟨tb, 10, none⟩ = false := hT1.frozen 10
  have g11 : w1.frozen? ⟨tb, 11, none⟩ = false := hT1.frozen 11
  have a0 : w1.cell? ⟨tb, 0, none⟩ = some (.int .u64 0) := hT1.cell 0
  have a1 : w1.cell? ⟨tb, 1, none⟩ = some (.string ⟨#[]⟩) := hT1.cell 1
  have a2 : w1.cell? ⟨tb, 2, none⟩ = some (.bool false) := hT1.cell 2
  have a3 : w1.cell? ⟨tb, 3, none⟩ = some (.int .u64 0) := hT1.cell 3
  have a4 : w1.cell? ⟨tb, 4, none⟩ = some (.int .u64 0) := hT1.cell 4
  have a5 : w1.cell? ⟨tb, 5, none⟩ = some (.int .u64 0) := hT1.cell 5
  have a6 : w1.cell? ⟨tb, 6, none⟩ = some (.int .u64 0) := hT1.cell 6
  have a7 : w1.cell? ⟨tb, 7, none⟩ = some (.bool false) := hT1.cell 7
  have a8 : w1.cell? ⟨tb, 8, none⟩ = some (.string ⟨#[]⟩) := hT1.cell 8
  have a9 : w1.cell? ⟨tb, 9, none⟩ = some (.string ⟨#[]⟩) := hT1.cell 9
  have a10 : w1.cell? ⟨tb, 10, none⟩ = some (.slice none 0 0) := hT1.cell 10
  have a11 : w1.cell? ⟨tb, 11, none⟩ = some (.int .i64 0) := hT1.cell 11
  have hl1 := hT1.lt
  obtain ⟨w2, hw2⟩ : ∃ w2, ((w1.setCell ⟨tb, 0, none⟩ (.int .u64 (n : Nat))).setCell ⟨tb, 11, none⟩ (.int .i64 (c : Nat))) = w2 := ⟨_, rfl⟩
  rw [hw2] at hT2 hM2
  have HT2 : Hid (Blk w2 tb 55 #[.int .u64 (n : Nat), .string ⟨#[]⟩, .bool false, .int .u64 0, .int .u64 0, .int .u64 0, .int .u64 0, .bool false, .string ⟨#[]⟩, .string ⟨#[]⟩, .slice none 0 0, .int .i64 (c : Nat)]) := hide hT2
  have HM2 := hide hM2
  have hT2' := HT2.out
  have b0 : w2.cell? ⟨tb, 0, none⟩ = some (.int .u64 (n : Nat)) := hT2'.cell 0
  have b1 : w2.cell? ⟨tb, 1, none⟩ = some (.string ⟨#[]⟩) := hT2'.cell 1
  have b2 : w2.cell? ⟨tb, 2, none⟩ = some (.bool false) := hT2'.cell 2
  have b3 : w2.cell? ⟨tb, 3, none⟩ = some (.int .u64 0) := hT2'.cell 3
  have b4 : w2.cell? ⟨tb, 4, none⟩ = some (.int .u64 0) := hT2'.cell 4
  have b5 : w2.cell? ⟨tb, 5, none⟩ = some (.int .u64 0) := hT2'.cell 5
  have b6 : w2.cell? ⟨tb, 6, none⟩ = some (.int .u64 0) := hT2'.cell 6
  have b7 : w2.cell? ⟨tb, 7, none⟩ = some (.bool false) := hT2'.cell 7
  have b8 : w2.cell? ⟨tb, 8, none⟩ = some (.string ⟨#[]⟩) := hT2'.cell 8
  have b9 : w2.cell? ⟨tb, 9, none⟩ = some (.string ⟨#[]⟩) := hT2'.cell 9
  have b10 : w2.cell? ⟨tb, 10, none⟩ = some (.slice none 0 0) := hT2'.cell 10
  have b11 : w2.cell? ⟨tb, 11, none⟩ = some (.int .i64 (c : Nat)) := hT2'.cell 11
  have k0 : w2.frozen? ⟨tb, 0, none⟩ = false := hT2'.frozen 0
  have k1 : w2.frozen? ⟨tb, 1, none⟩ = false := hT2'.frozen 1
  have k2 : w2.frozen? ⟨tb, 2, none⟩ = false := hT2'.frozen 2
  have k3 : w2.frozen? ⟨tb, 3, none⟩ = false := hT2'.frozen 3
  have k4 : w2.frozen? ⟨tb, 4, none⟩ = false := hT2'.frozen 4
  have k5 : w2.frozen? ⟨tb, 5, none⟩ = false := hT2'.frozen 5
  have k6 : w2.frozen? ⟨tb, 6, none⟩ = false := hT2'.frozen 6
  have k7 : w2.frozen? ⟨tb, 7, none⟩ = false := hT2'.frozen 7
  have k8 : w2.frozen? ⟨tb, 8, none⟩ = false := hT2'.frozen 8
  have k9 : w2.frozen? ⟨tb, 9, none⟩ = false := hT2'.frozen 9
  have k10 : w2.frozen? ⟨tb, 10, none⟩ = false := hT2'.frozen 10
  have k11 : w2.frozen? ⟨tb, 11, none⟩ = false := hT2'.frozen 11
  have hl2 := hT2'.lt
  clear ho hst hO hT1 hT2 hT2' hM2
  go_wp2_with fail
  refine bodyPost_ret (results_cell_row rfl _ _ tb 55 (⟨n, ⟨#[]⟩, false, fr0, (c : Int)⟩ : Said).cells (0, 0) _ rfl ?_ Tryz.underlying55 rfl (by kernel_rfl)) rfl ?_
  · exact put12_blk HT2.out rfl _ _ _ _ _ _ _ _ _ _ _ _
  · refine ⟨⟨n, ⟨#[]⟩, false, fr0, (c : Int)⟩, _, rfl, .open_ HK.out n c s' HHo.out, ?_⟩
    exact own_key h0 (HSB.out.trans (SStep.besideOf htb HBB.out HSt.out (put12_mod (g := tb) HM2.out (.inl (List.mem_singleton.2 rfl)) _ _ _ _ _ _ _ _ _ _ _ _))) (HOk.out.mono (by omega))
set_option maxRecDepth 100000 in
set_option maxHeartbeats 4000000 in
theorem own_play_write {K : Nat} {W w : World} {sb : Nat} {s : Ss} (h0 : Own K W w sb s) (hK : K ≤ 64000) (x : SAct) (hok : x.OK) (hlg : x.large = false) (hq1 : x.kind = 1) :
    Calls Tryz.prog 18 #[.pointer (some ⟨sb, 0, none⟩), x.val] w fun e w' => ∃ o s', e = .returned (.agg o.cells) ∧ s.Plays x o s' ∧ SStep w sb s s' w' ∧ Own (K + 200) W w' sb s' := by
  have hl := x.large_no hlg
  have hl1' := hl.1
  have hl2' := hl.2
  have hMB : Mod [] w (w.alloc (.cells #[.int .i64 x.kind, .int .i64 x.n, .int .u64 (x.id : Nat), .int .u64 (x.code : Nat), .string x.text, .bool x.fin, .int .u64 (x.fr.f.kind : Nat), .int .u64 (x.fr.f.a : Nat), .int .u64 (x.fr.f.b : Nat), .int .u64 (x.fr.f.c : Nat), .bool x.fr.f.fin, .string x.fr.f.data, .string x.fr.f.more, .slice x.fr.A x.fr.f.list.length x.fr.c, .int .u64 (x.lim.data : Int), .int .u64 (x.lim.bl : Int), .int .u64 (x.lim.br : Int), .int .u64 (x.lim.un : Int), .int .u64 (x.lim.bidis : Int), .int .u64 (x.lim.unis : Int)] 52)) := (Mod.refl [] w).alloc _
  have hNB := Blk.new w 52 #[.int .i64 x.kind, .int .i64 x.n, .int .u64 (x.id : Nat), .int .u64 (x.code : Nat), .string x.text, .bool x.fin, .int .u64 (x.fr.f.kind : Nat), .int .u64 (x.fr.f.a : Nat), .int .u64 (x.fr.f.b : Nat), .int .u64 (x.fr.f.c : Nat), .bool x.fr.f.fin, .string x.fr.f.data, .string x.fr.f.more, .slice x.fr.A x.fr.f.list.length x.fr.c, .int .u64 (x.lim.data : Int), .int .u64 (x.lim.bl : Int), .int .u64 (x.lim.br : Int), .int .u64 (x.lim.un : Int), .int .u64 (x.lim.bidis : Int), .int .u64 (x.lim.unis : Int)]
  obtain ⟨wB, hwB⟩ : ∃ wB, w.alloc (.cells #[.int .i64 x.kind, .int .i64 x.n, .int .u64 (x.id : Nat), .int .u64 (x.code : Nat), .string x.text, .bool x.fin, .int .u64 (x.fr.f.kind : Nat), .int .u64 (x.fr.f.a : Nat), .int .u64 (x.fr.f.b : Nat), .int .u64 (x.fr.f.c : Nat), .bool x.fr.f.fin, .string x.fr.f.data, .string x.fr.f.more, .slice x.fr.A x.fr.f.list.length x.fr.c, .int .u64 (x.lim.data : Int), .int .u64 (x.lim.bl : Int), .int .u64 (x.lim.br : Int), .int .u64 (x.lim.un : Int), .int .u64 (x.lim.bidis : Int), .int .u64 (x.lim.unis : Int)] 52) = wB := ⟨_, rfl⟩
  rw [hwB] at hMB hNB
  have hOB := h0.next hMB
  have HSB : Hid (SStep w sb s s wB) := hide (SStep.refl h0.box hMB)
  have HBB := hide hOB.box
  have hMC : Mod [] wB (wB.alloc (.cells #[.int .u64 0, .string ⟨#[]⟩, .bool false, .int .u64 0, .int .u64 0, .int .u64 0, .int .u64 0, .bool false, .string ⟨#[]⟩, .string ⟨#[]⟩, .slice none 0 0, .int .i64 0] 55)) := (Mod.refl [] wB).alloc _
  have hNC := Blk.new wB 55 #[.int .u64 0, .string ⟨#[]⟩, .bool false, .int .u64 0, .int .u64 0, .int .u64 0, .int .u64 0, .bool false, .string ⟨#[]⟩, .string ⟨#[]⟩, .slice none 0 0, .int .i64 0]
  have hnin := beside_new' hOB.box
  obtain ⟨tb, htb⟩ : ∃ tb, wB.heap.size = tb := ⟨_, rfl⟩
  have hSC := SStep.refl hOB.box hMC
  have hOC := hOB.next hMC
  have hXC := hMC.blk hNB (by simp)
  rw [htb] at hNC hnin
  have HT := hide hNC
  have HNin := hide hnin
  have HO := hide hOC
  have x0 : (wB.alloc (.cells #[.int .u64 0, .string ⟨#[]⟩, .bool false, .int .u64 0, .int .u64 0, .int .u64 0, .int .u64 0, .bool false, .string ⟨#[]⟩, .string ⟨#[]⟩, .slice none 0 0, .int .i64 0] 55)).cell? ⟨w.heap.size, 0, none⟩ = some (.int .i64 x.kind) := hXC.cell 0
  have x1 : (wB.alloc (.cells #[.int .u64 0, .string ⟨#[]⟩, .bool false, .int .u64 0, .int .u64 0, .int .u64 0, .int .u64 0, .bool false, .string ⟨#[]⟩, .string ⟨#[]⟩, .slice none 0 0, .int .i64 0] 55)).cell? ⟨w.heap.size, 1, none⟩ = some (.int .i64 x.n) := hXC.cell 1
  have x2 : (wB.alloc (.cells #[.int .u64 0, .string ⟨#[]⟩, .bool false, .int .u64 0, .int .u64 0, .int .u64 0, .int .u64 0, .bool false, .string ⟨#[]⟩, .string ⟨#[]⟩, .slice none 0 0, .int .i64 0] 55)).cell? ⟨w.heap.size, 2, none⟩ = some (.int .u64 (x.id : Nat)) := hXC.cell 2
  have x3 : (wB.alloc (.cells #[.int .u64 0, .string ⟨#[]⟩, .bool false, .int .u64 0, .int .u64 0, .int .u64 0, .int .u64 0, .bool false, .string ⟨#[]⟩, .string ⟨#[]⟩, .slice none 0 0, .int .i64 0] 55)).cell? ⟨w.heap.size, 3, none⟩ = some (.int .u64 (x.code : Nat)) := hXC.cell 3
  have x4 : (wB.alloc (.cells #[.int .u64 0, .string ⟨#[]⟩, .bool false, .int .u64 0, .int .u64 0, .int .u64 0, .int .u64 0, .bool false, .string ⟨#[]⟩, .string ⟨#[]⟩, .slice none 0 0, .int .i64 0] 55)).cell? ⟨w.heap.size, 4, none⟩ = some (.string x.text) := hXC.cell 4
  have x5 : (wB.alloc (.cells #[.int .u64 0, .string ⟨#[]⟩, .bool false, .int .u64 0, .int .u64 0, .int .u64 0, .int .u64 0, .bool false, .string ⟨#[]⟩, .string ⟨#[]⟩, .slice none 0 0, .int .i64 0] 55)).cell? ⟨w.heap.size, 5, none⟩ = some (.bool x.fin) := hXC.cell 5
  have x6 : (wB.alloc (.cells #[.int .u64 0, .string ⟨#[]⟩, .bool false, .int .u64 0, .int .u64 0, .int .u64 0, .int .u64 0, .bool false, .string ⟨#[]⟩, .string ⟨#[]⟩, .slice none 0 0, .int .i64 0] 55)).cell? ⟨w.heap.size, 6, none⟩ = some (.int .u64 (x.fr.f.kind : Nat)) := hXC.cell 6
  have x7 : (wB.alloc (.cells #[.int .u64 0, .string ⟨#[]⟩, .bool false, .int .u64 0, .int .u64 0, .int .u64 0, .int .u64 0, .bool false, .string ⟨#[]⟩, .string ⟨#[]⟩, .slice none 0 0, .int .i64 0] 55)).cell? ⟨w.heap.size, 7, none⟩ = some (.int .u64 (x.fr.f.a : Nat)) := hXC.cell 7
  have x8 : (wB.alloc (.cells #[.int .u64 0, .string ⟨#[]⟩, .bool false, .int .u64 0, .int .u64 0, .int .u64 0, .int .u64 0, .bool false, .string ⟨#[]⟩, .string ⟨#[]⟩, .slice none 0 0, .int .i64 0] 55)).cell? ⟨w.heap.size, 8, none⟩ = some (.int .u64 (x.fr.f.b : Nat)) := hXC.cell 8
  have x9 : (wB.alloc (.cells #[.int .u64 0, .string ⟨#[]⟩, .bool false, .int .u64 0, .int .u64 0, .int .u64 0, .int .u64 0, .bool false, .string ⟨#[]⟩, .string ⟨#[]⟩, .slice none 0 0, .int .i64 0] 55)).cell? ⟨w.heap.size, 9, none⟩ = some (.int .u64 (x.fr.f.c : Nat)) := hXC.cell 9
  have x10 : (wB.alloc (.cells #[.int .u64 0, .string ⟨#[]⟩, .bool false, .int .u64 0, .int .u64 0, .int .u64 0, .int .u64 0, .bool false, .string ⟨#[]⟩, .string ⟨#[]⟩, .slice none 0 0, .int .i64 0] 55)).cell? ⟨w.heap.size, 10, none⟩ = some (.bool x.fr.f.fin) := hXC.cell 10
  have x11 : (wB.alloc (.cells #[.int .u64 0, .string ⟨#[]⟩, .bool false, .int .u64 0, .int .u64 0, .int .u64 0, .int .u64 0, .bool false, .string ⟨#[]⟩, .string ⟨#[]⟩, .slice none 0 0, .int .i64 0] 55)).cell? ⟨w.heap.size, 11, none⟩ = some (.string x.fr.f.data) := hXC.cell 11
  have x12 : (wB.alloc (.cells #[.int .u64 0, .string ⟨#[]⟩, .bool false, .int .u64 0, .int .u64 0, .int .u64 0, .int .u64 0, .bool false, .string ⟨#[]⟩, .string ⟨#[]⟩, .slice none 0 0, .int .i64 0] 55)).cell? ⟨w.heap.size, 12, none⟩ = some (.string x.fr.f.more) := hXC.cell 12
  have x13 : (wB.alloc (.cells #[.int .u64 0, .string ⟨#[]⟩, .bool false, .int .u64 0, .int .u64 0, .int .u64 0, .int .u64 0, .bool false, .string ⟨#[]⟩, .string ⟨#[]⟩, .slice none 0 0, .int .i64 0] 55)).cell? ⟨w.heap.size, 13, none⟩ = some (.slice x.fr.A x.fr.f.list.length x.fr.c) := hXC.cell 13
  have x14 : (wB.alloc (.cells #[.int .u64 0, .string ⟨#[]⟩, .bool false, .int .u64 0, .int .u64 0, .int .u64 0, .int .u64 0, .bool false, .string ⟨#[]⟩, .string ⟨#[]⟩, .slice none 0 0, .int .i64 0] 55)).cell? ⟨w.heap.size, 14, none⟩ = some (.int .u64 (x.lim.data : Int)) := hXC.cell 14
  have x15 : (wB.alloc (.cells #[.int .u64 0, .string ⟨#[]⟩, .bool false, .int .u64 0, .int .u64 0, .int .u64 0, .int .u64 0, .bool false, .string ⟨#[]⟩, .string ⟨#[]⟩, .slice none 0 0, .int .i64 0] 55)).cell? ⟨w.heap.size, 15, none⟩ = some (.int .u64 (x.lim.bl : Int)) := hXC.cell 15
  have x16 : (wB.alloc (.cells #[.int .u64 0, .string ⟨#[]⟩, .bool false, .int .u64 0, .int .u64 0, .int .u64 0, .int .u64 0, .bool false, .string ⟨#[]⟩, .string ⟨#[]⟩, .slice none 0 0, .int .i64 0] 55)).cell? ⟨w.heap.size, 16, none⟩ = some (.int .u64 (x.lim.br : Int)) := hXC.cell 16
  have x17 : (wB.alloc (.cells #[.int .u64 0, .string ⟨#[]⟩, .bool false, .int .u64 0, .int .u64 0, .int .u64 0, .int .u64 0, .bool false, .string ⟨#[]⟩, .string ⟨#[]⟩, .slice none 0 0, .int .i64 0] 55)).cell? ⟨w.heap.size, 17, none⟩ = some (.int .u64 (x.lim.un : Int)) := hXC.cell 17
  have x18 : (wB.alloc (.cells #[.int .u64 0, .string ⟨#[]⟩, .bool false, .int .u64 0, .int .u64 0, .int .u64 0, .int .u64 0, .bool false, .string ⟨#[]⟩, .string ⟨#[]⟩, .slice none 0 0, .int .i64 0] 55)).cell? ⟨w.heap.size, 18, none⟩ = some (.int .u64 (x.lim.bidis : Int)) := hXC.cell 18
  have x19 : (wB.alloc (.cells #[.int .u64 0, .string ⟨#[]⟩, .bool false, .int .u64 0, .int .u64 0, .int .u64 0, .int .u64 0, .bool false, .string ⟨#[]⟩, .string ⟨#[]⟩, .slice none 0 0, .int .i64 0] 55)).cell? ⟨w.heap.size, 19, none⟩ = some (.int .u64 (x.lim.unis : Int)) := hXC.cell 19
  have hwl := hNB.lt
  clear hl hMB hNB hOB hMC hNC hnin hSC hOC hXC
  unfold SAct.val
  have HK := hide hq1
  have hk0 : (x.kind == 0) = false := by rw [HK.out]; rfl
  have hk1 : (x.kind == 1) = true := by rw [HK.out]; rfl
  have hk2 : (x.kind == 2) = false := by rw [HK.out]; rfl
  have hk3 : (x.kind == 3) = false := by rw [HK.out]; rfl
  have hk4 : (x.kind == 4) = false := by rw [HK.out]; rfl
  have hk5 : (x.kind == 5) = false := by rw [HK.out]; rfl
  have hk6 : (x.kind == 6) = false := by rw [HK.out]; rfl
  have hk7 : (x.kind == 7) = false := by rw [HK.out]; rfl
  have hk8 : (x.kind == 8) = false := by rw [HK.out]; rfl
  have hk9 : (x.kind == 9) = false := by rw [HK.out]; rfl
  have hct := own_write HO.out x.id x.text (by omega) x.fin
  have HCt := hide hct
  clear hq1 hct
  go_enter Tryz.func18, Tryz.ntmps18
  go_wp2_with fail
  refine HCt.out.mono ?_
  rintro e w1 ⟨c, s', rfl, ho, hst, hO⟩
  have hT1 : Blk w1 tb 55 #[.int .u64 0, .string ⟨#[]⟩, .bool false, .int .u64 0, .int .u64 0, .int .u64 0, .int .u64 0, .bool false, .string ⟨#[]⟩, .string ⟨#[]⟩, .slice none 0 0, .int .i64 0] := hst.2.1.blk HT.out HNin.out
  have HHo := hide ho
  have HSt := hide hst
  have HOk := hide hO.ok
  have hT2 := (hT1.set_ 11 (.int .i64 c))
  have hM2 := ((Mod.refl [tb] w1).setCell (p := ⟨tb, 11, none⟩) (.inl (by simp)) (.int .i64 c))
  have g0 : w1.frozen? ⟨tb, 0, none⟩ = false := hT1.frozen 0
  have g1 : w1.frozen? ⟨tb, 1, none⟩ = false := hT1.frozen 1
  have g2 : w1.frozen? ⟨tb, 2, none⟩ = false := hT1.frozen 2
  have g3 : w1.frozen? ⟨tb, 3, none⟩ = false := hT1.frozen 3
  have g4 : w1.frozen? ⟨tb, 4, none⟩ = false := hT1.frozen 4
  have g5 : w1.frozen? ⟨tb, 5, none⟩ = false := hT1.frozen 5
  have g6 : w1.frozen? ⟨tb, 6, none⟩ = false := hT1.frozen 6
  have g7 : w1.frozen? ⟨tb, 7, none⟩ = false := hT1.frozen 7
  have g8 : w1.frozen? ⟨tb, 8, none⟩ = false := hT1.frozen 8
  have g9 : w1.frozen? ⟨tb, 9, none⟩ = false := hT1.frozen 9
  have g10 : w1.frozen? ⟨tb, 10, none⟩ = false := hT1.frozen 10
  have g11 : w1.frozen? ⟨tb, 11, none⟩ = false := hT1.frozen 11
  have a0 : w1.cell? ⟨tb, 0, none⟩ = some (.int .u64 0) := hT1.cell 0
  have a1 : w1.cell? ⟨tb, 1, none⟩ = some (.string ⟨#[]⟩) := hT1.cell 1
  have a2 : w1.cell? ⟨tb, 2, none⟩ = some (.bool false) := hT1.cell 2
  have a3 : w1.cell? ⟨tb, 3, none⟩ = some (.int .u64 0) := hT1.cell 3
  have a4 : w1.cell? ⟨tb, 4, none⟩ = some (.int .u64 0) := hT1.cell 4
  have a5 : w1.cell? ⟨tb, 5, none⟩ = some (.int .u64 0) := hT1.cell 5
  have a6 : w1.cell? ⟨tb, 6, none⟩ = some (.int .u64 0) := hT1.cell 6
  have a7 : w1.cell? ⟨tb, 7, none⟩ = some (.bool false) := hT1.cell 7
  have a8 : w1.cell? ⟨tb, 8, none⟩ = some (.string ⟨#[]⟩) := hT1.cell 8
  have a9 : w1.cell? ⟨tb, 9, none⟩ = some (.string ⟨#[]⟩) := hT1.cell 9
  have a10 : w1.cell? ⟨tb, 10, none⟩ = some (.slice none 0 0) := hT1.cell 10
  have a11 : w1.cell? ⟨tb, 11, none⟩ = some (.int .i64 0) := hT1.cell 11
  have hl1 := hT1.lt
  obtain ⟨w2, hw2⟩ : ∃ w2, (w1.setCell ⟨tb, 11, none⟩ (.int .i64 c)) = w2 := ⟨_, rfl⟩
  rw [hw2] at hT2 hM2
  have HT2 : Hid (Blk w2 tb 55 #[.int .u64 0, .string ⟨#[]⟩, .bool false, .int .u64 0, .int .u64 0, .int .u64 0, .int .u64 0, .bool false, .string ⟨#[]⟩, .string ⟨#[]⟩, .slice none 0 0, .int .i64 c]) := hide hT2
  have HM2 := hide hM2
  have hT2' := HT2.out
  have b0 : w2.cell? ⟨tb, 0, none⟩ = some (.int .u64 0) := hT2'.cell 0
  have b1 : w2.cell? ⟨tb, 1, none⟩ = some (.string ⟨#[]⟩) := hT2'.cell 1
  have b2 : w2.cell? ⟨tb, 2, none⟩ = some (.bool false) := hT2'.cell 2
  have b3 : w2.cell? ⟨tb, 3, none⟩ = some (.int .u64 0) := hT2'.cell 3
  have b4 : w2.cell? ⟨tb, 4, none⟩ = some (.int .u64 0) := hT2'.cell 4
  have b5 : w2.cell? ⟨tb, 5, none⟩ = some (.int .u64 0) := hT2'.cell 5
  have b6 : w2.cell? ⟨tb, 6, none⟩ = some (.int .u64 0) := hT2'.cell 6
  have b7 : w2.cell? ⟨tb, 7, none⟩ = some (.bool false) := hT2'.cell 7
  have b8 : w2.cell? ⟨tb, 8, none⟩ = some (.string ⟨#[]⟩) := hT2'.cell 8
  have b9 : w2.cell? ⟨tb, 9, none⟩ = some (.string ⟨#[]⟩) := hT2'.cell 9
  have b10 : w2.cell? ⟨tb, 10, none⟩ = some (.slice none 0 0) := hT2'.cell 10
  have b11 : w2.cell? ⟨tb, 11, none⟩ = some (.int .i64 c) := hT2'.cell 11
  have k0 : w2.frozen? ⟨tb, 0, none⟩ = false := hT2'.frozen 0
  have k1 : w2.frozen? ⟨tb, 1, none⟩ = false := hT2'.frozen 1
  have k2 : w2.frozen? ⟨tb, 2, none⟩ = false := hT2'.frozen 2
  have k3 : w2.frozen? ⟨tb, 3, none⟩ = false := hT2'.frozen 3
  have k4 : w2.frozen? ⟨tb, 4, none⟩ = false := hT2'.frozen 4
  have k5 : w2.frozen? ⟨tb, 5, none⟩ = false := hT2'.frozen 5
  have k6 : w2.frozen? ⟨tb, 6, none⟩ = false := hT2'.frozen 6
  have k7 : w2.frozen? ⟨tb, 7, none⟩ = false := hT2'.frozen 7
  have k8 : w2.frozen? ⟨tb, 8, none⟩ = false := hT2'.frozen 8
  have k9 : w2.frozen? ⟨tb, 9, none⟩ = false := hT2'.frozen 9
  have k10 : w2.frozen? ⟨tb, 10, none⟩ = false := hT2'.frozen 10
  have k11 : w2.frozen? ⟨tb, 11, none⟩ = false := hT2'.frozen 11
  have hl2 := hT2'.lt
  clear ho hst hO hT1 hT2 hT2' hM2
  go_wp2_with fail
  refine bodyPost_ret (results_cell_row rfl _ _ tb 55 (⟨0, ⟨#[]⟩, false, fr0, c⟩ : Said).cells (0, 0) _ rfl ?_ Tryz.underlying55 rfl (by kernel_rfl)) rfl ?_
  · exact put12_blk HT2.out rfl _ _ _ _ _ _ _ _ _ _ _ _
  · refine ⟨⟨0, ⟨#[]⟩, false, fr0, c⟩, _, rfl, .write HK.out c s' HHo.out, ?_⟩
    exact own_key h0 (HSB.out.trans (SStep.besideOf htb HBB.out HSt.out (put12_mod (g := tb) HM2.out (.inl (List.mem_singleton.2 rfl)) _ _ _ _ _ _ _ _ _ _ _ _))) (HOk.out.mono (by omega))
set_option maxRecDepth 100000 in
set_option maxHeartbeats 4000000 in
theorem own_play_read {K : Nat} {W w : World} {sb : Nat} {s : Ss} (h0 : Own K W w sb s) (hK : K ≤ 64000) (x : SAct) (hok : x.OK) (hlg : x.large = false) (hq2 : x.kind = 2) :
    Calls Tryz.prog 18 #[.pointer (some ⟨sb, 0, none⟩), x.val] w fun e w' => ∃ o s', e = .returned (.agg o.cells) ∧ s.Plays x o s' ∧ SStep w sb s s' w' ∧ Own (K + 200) W w' sb s' := by
  have hl := x.large_no hlg
  have hl1' := hl.1
  have hl2' := hl.2
  have hMB : Mod [] w (w.alloc (.cells #[.int .i64 x.kind, .int .i64 x.n, .int .u64 (x.id : Nat), .int .u64 (x.code : Nat), .string x.text, .bool x.fin, .int .u64 (x.fr.f.kind : Nat), .int .u64 (x.fr.f.a : Nat), .int .u64 (x.fr.f.b : Nat), .int .u64 (x.fr.f.c : Nat), .bool x.fr.f.fin, .string x.fr.f.data, .string x.fr.f.more, .slice x.fr.A x.fr.f.list.length x.fr.c, .int .u64 (x.lim.data : Int), .int .u64 (x.lim.bl : Int), .int .u64 (x.lim.br : Int), .int .u64 (x.lim.un : Int), .int .u64 (x.lim.bidis : Int), .int .u64 (x.lim.unis : Int)] 52)) := (Mod.refl [] w).alloc _
  have hNB := Blk.new w 52 #[.int .i64 x.kind, .int .i64 x.n, .int .u64 (x.id : Nat), .int .u64 (x.code : Nat), .string x.text, .bool x.fin, .int .u64 (x.fr.f.kind : Nat), .int .u64 (x.fr.f.a : Nat), .int .u64 (x.fr.f.b : Nat), .int .u64 (x.fr.f.c : Nat), .bool x.fr.f.fin, .string x.fr.f.data, .string x.fr.f.more, .slice x.fr.A x.fr.f.list.length x.fr.c, .int .u64 (x.lim.data : Int), .int .u64 (x.lim.bl : Int), .int .u64 (x.lim.br : Int), .int .u64 (x.lim.un : Int), .int .u64 (x.lim.bidis : Int), .int .u64 (x.lim.unis : Int)]
  obtain ⟨wB, hwB⟩ : ∃ wB, w.alloc (.cells #[.int .i64 x.kind, .int .i64 x.n, .int .u64 (x.id : Nat), .int .u64 (x.code : Nat), .string x.text, .bool x.fin, .int .u64 (x.fr.f.kind : Nat), .int .u64 (x.fr.f.a : Nat), .int .u64 (x.fr.f.b : Nat), .int .u64 (x.fr.f.c : Nat), .bool x.fr.f.fin, .string x.fr.f.data, .string x.fr.f.more, .slice x.fr.A x.fr.f.list.length x.fr.c, .int .u64 (x.lim.data : Int), .int .u64 (x.lim.bl : Int), .int .u64 (x.lim.br : Int), .int .u64 (x.lim.un : Int), .int .u64 (x.lim.bidis : Int), .int .u64 (x.lim.unis : Int)] 52) = wB := ⟨_, rfl⟩
  rw [hwB] at hMB hNB
  have hOB := h0.next hMB
  have HSB : Hid (SStep w sb s s wB) := hide (SStep.refl h0.box hMB)
  have HBB := hide hOB.box
  have hMC : Mod [] wB (wB.alloc (.cells #[.int .u64 0, .string ⟨#[]⟩, .bool false, .int .u64 0, .int .u64 0, .int .u64 0, .int .u64 0, .bool false, .string ⟨#[]⟩, .string ⟨#[]⟩, .slice none 0 0, .int .i64 0] 55)) := (Mod.refl [] wB).alloc _
  have hNC := Blk.new wB 55 #[.int .u64 0, .string ⟨#[]⟩, .bool false, .int .u64 0, .int .u64 0, .int .u64 0, .int .u64 0, .bool false, .string ⟨#[]⟩, .string ⟨#[]⟩, .slice none 0 0, .int .i64 0]
  have hnin := beside_new' hOB.box
  obtain ⟨tb, htb⟩ : ∃ tb, wB.heap.size = tb := ⟨_, rfl⟩
  have hSC := SStep.refl hOB.box hMC
  have hOC := hOB.next hMC
  have hXC := hMC.blk hNB (by simp)
  rw [htb] at hNC hnin
  have HT := hide hNC
  have HNin := hide hnin
  have HO := hide hOC
  have x0 : (wB.alloc (.cells #[.int .u64 0, .string ⟨#[]⟩, .bool false, .int .u64 0, .int .u64 0, .int .u64 0, .int .u64 0, .bool false, .string ⟨#[]⟩, .string ⟨#[]⟩, .slice none 0 0, .int .i64 0] 55)).cell? ⟨w.heap.size, 0, none⟩ = some (.int .i64 x.kind) := hXC.cell 0
  have x1 : (wB.alloc (.cells #[.int .u64 0, .string ⟨#[]⟩, .bool false, .int .u64 0, .int .u64 0, .int .u64 0, .int .u64 0, .bool false, .string ⟨#[]⟩, .string ⟨#[]⟩, .slice none 0 0, .int .i64 0] 55)).cell? ⟨w.heap.size, 1, none⟩ = some (.int .i64 x.n) := hXC.cell 1
  have x2 : (wB.alloc (.cells #[.int .u64 0, .string ⟨#[]⟩, .bool false, .int .u64 0, .int .u64 0, .int .u64 0, .int .u64 0, .bool false, .string ⟨#[]⟩, .string ⟨#[]⟩, .slice none 0 0, .int .i64 0] 55)).cell? ⟨w.heap.size, 2, none⟩ = some (.int .u64 (x.id : Nat)) := hXC.cell 2
  have x3 : (wB.alloc (.cells #[.int .u64 0, .string ⟨#[]⟩, .bool false, .int .u64 0, .int .u64 0, .int .u64 0, .int .u64 0, .bool false, .string ⟨#[]⟩, .string ⟨#[]⟩, .slice none 0 0, .int .i64 0] 55)).cell? ⟨w.heap.size, 3, none⟩ = some (.int .u64 (x.code : Nat)) := hXC.cell 3
  have x4 : (wB.alloc (.cells #[.int .u64 0, .string ⟨#[]⟩, .bool false, .int .u64 0, .int .u64 0, .int .u64 0, .int .u64 0, .bool false, .string ⟨#[]⟩, .string ⟨#[]⟩, .slice none 0 0, .int .i64 0] 55)).cell? ⟨w.heap.size, 4, none⟩ = some (.string x.text) := hXC.cell 4
  have x5 : (wB.alloc (.cells #[.int .u64 0, .string ⟨#[]⟩, .bool false, .int .u64 0, .int .u64 0, .int .u64 0, .int .u64 0, .bool false, .string ⟨#[]⟩, .string ⟨#[]⟩, .slice none 0 0, .int .i64 0] 55)).cell? ⟨w.heap.size, 5, none⟩ = some (.bool x.fin) := hXC.cell 5
  have x6 : (wB.alloc (.cells #[.int .u64 0, .string ⟨#[]⟩, .bool false, .int .u64 0, .int .u64 0, .int .u64 0, .int .u64 0, .bool false, .string ⟨#[]⟩, .string ⟨#[]⟩, .slice none 0 0, .int .i64 0] 55)).cell? ⟨w.heap.size, 6, none⟩ = some (.int .u64 (x.fr.f.kind : Nat)) := hXC.cell 6
  have x7 : (wB.alloc (.cells #[.int .u64 0, .string ⟨#[]⟩, .bool false, .int .u64 0, .int .u64 0, .int .u64 0, .int .u64 0, .bool false, .string ⟨#[]⟩, .string ⟨#[]⟩, .slice none 0 0, .int .i64 0] 55)).cell? ⟨w.heap.size, 7, none⟩ = some (.int .u64 (x.fr.f.a : Nat)) := hXC.cell 7
  have x8 : (wB.alloc (.cells #[.int .u64 0, .string ⟨#[]⟩, .bool false, .int .u64 0, .int .u64 0, .int .u64 0, .int .u64 0, .bool false, .string ⟨#[]⟩, .string ⟨#[]⟩, .slice none 0 0, .int .i64 0] 55)).cell? ⟨w.heap.size, 8, none⟩ = some (.int .u64 (x.fr.f.b : Nat)) := hXC.cell 8
  have x9 : (wB.alloc (.cells #[.int .u64 0, .string ⟨#[]⟩, .bool false, .int .u64 0, .int .u64 0, .int .u64 0, .int .u64 0, .bool false, .string ⟨#[]⟩, .string ⟨#[]⟩, .slice none 0 0, .int .i64 0] 55)).cell? ⟨w.heap.size, 9, none⟩ = some (.int .u64 (x.fr.f.c : Nat)) := hXC.cell 9
  have x10 : (wB.alloc (.cells #[.int .u64 0, .string ⟨#[]⟩, .bool false, .int .u64 0, .int .u64 0, .int .u64 0, .int .u64 0, .bool false, .string ⟨#[]⟩, .string ⟨#[]⟩, .slice none 0 0, .int .i64 0] 55)).cell? ⟨w.heap.size, 10, none⟩ = some (.bool x.fr.f.fin) := hXC.cell 10
  have x11 : (wB.alloc (.cells #[.int .u64 0, .string ⟨#[]⟩, .bool false, .int .u64 0, .int .u64 0, .int .u64 0, .int .u64 0, .bool false, .string ⟨#[]⟩, .string ⟨#[]⟩, .slice none 0 0, .int .i64 0] 55)).cell? ⟨w.heap.size, 11, none⟩ = some (.string x.fr.f.data) := hXC.cell 11
  have x12 : (wB.alloc (.cells #[.int .u64 0, .string ⟨#[]⟩, .bool false, .int .u64 0, .int .u64 0, .int .u64 0, .int .u64 0, .bool false, .string ⟨#[]⟩, .string ⟨#[]⟩, .slice none 0 0, .int .i64 0] 55)).cell? ⟨w.heap.size, 12, none⟩ = some (.string x.fr.f.more) := hXC.cell 12
  have x13 : (wB.alloc (.cells #[.int .u64 0, .string ⟨#[]⟩, .bool false, .int .u64 0, .int .u64 0, .int .u64 0, .int .u64 0, .bool false, .string ⟨#[]⟩, .string ⟨#[]⟩, .slice none 0 0, .int .i64 0] 55)).cell? ⟨w.heap.size, 13, none⟩ = some (.slice x.fr.A x.fr.f.list.length x.fr.c) := hXC.cell 13
  have x14 : (wB.alloc (.cells #[.int .u64 0, .string ⟨#[]⟩, .bool false, .int .u64 0, .int .u64 0, .int .u64 0, .int .u64 0, .bool false, .string ⟨#[]⟩, .string ⟨#[]⟩, .slice none 0 0, .int .i64 0] 55)).cell? ⟨w.heap.size, 14, none⟩ = some (.int .u64 (x.lim.data : Int)) := hXC.cell 14
  have x15 : (wB.alloc (.cells #[.int .u64 0, .string ⟨#[]⟩, .bool false, .int .u64 0, .int .u64 0, .int .u64 0, .int .u64 0, .bool false, .string ⟨#[]⟩, .string ⟨#[]⟩, .slice none 0 0, .int .i64 0] 55)).cell? ⟨w.heap.size, 15, none⟩ = some (.int .u64 (x.lim.bl : Int)) := hXC.cell 15
  have x16 : (wB.alloc (.cells #[.int .u64 0, .string ⟨#[]⟩, .bool false, .int .u64 0, .int .u64 0, .int .u64 0, .int .u64 0, .bool false, .string ⟨#[]⟩, .string ⟨#[]⟩, .slice none 0 0, .int .i64 0] 55)).cell? ⟨w.heap.size, 16, none⟩ = some (.int .u64 (x.lim.br : Int)) := hXC.cell 16
  have x17 : (wB.alloc (.cells #[.int .u64 0, .string ⟨#[]⟩, .bool false, .int .u64 0, .int .u64 0, .int .u64 0, .int .u64 0, .bool false, .string ⟨#[]⟩, .string ⟨#[]⟩, .slice none 0 0, .int .i64 0] 55)).cell? ⟨w.heap.size, 17, none⟩ = some (.int .u64 (x.lim.un : Int)) := hXC.cell 17
  have x18 : (wB.alloc (.cells #[.int .u64 0, .string ⟨#[]⟩, .bool false, .int .u64 0, .int .u64 0, .int .u64 0, .int .u64 0, .bool false, .string ⟨#[]⟩, .string ⟨#[]⟩, .slice none 0 0, .int .i64 0] 55)).cell? ⟨w.heap.size, 18, none⟩ = some (.int .u64 (x.lim.bidis : Int)) := hXC.cell 18
  have x19 : (wB.alloc (.cells #[.int .u64 0, .string ⟨#[]⟩, .bool false, .int .u64 0, .int .u64 0, .int .u64 0, .int .u64 0, .bool false, .string ⟨#[]⟩, .string ⟨#[]⟩, .slice none 0 0, .int .i64 0] 55)).cell? ⟨w.heap.size, 19, none⟩ = some (.int .u64 (x.lim.unis : Int)) := hXC.cell 19
  have hwl := hNB.lt
  clear hl hMB hNB hOB hMC hNC hnin hSC hOC hXC
  unfold SAct.val
  have HK := hide hq2
  have hk0 : (x.kind == 0) = false := by rw [HK.out]; rfl
  have hk1 : (x.kind == 1) = false := by rw [HK.out]; rfl
  have hk2 : (x.kind == 2) = true := by rw [HK.out]; rfl
  have hk3 : (x.kind == 3) = false := by rw [HK.out]; rfl
  have hk4 : (x.kind == 4) = false := by rw [HK.out]; rfl
  have hk5 : (x.kind == 5) = false := by rw [HK.out]; rfl
  have hk6 : (x.kind == 6) = false := by rw [HK.out]; rfl
  have hk7 : (x.kind == 7) = false := by rw [HK.out]; rfl
  have hk8 : (x.kind == 8) = false := by rw [HK.out]; rfl
  have hk9 : (x.kind == 9) = false := by rw [HK.out]; rfl
  have hct := own_read HO.out (by omega) x.id x.n
  have HCt := hide hct
  clear hq2 hct
  go_enter Tryz.func18, Tryz.ntmps18
  go_wp2_with fail
  refine HCt.out.mono ?_
  rintro e w1 ⟨tt, d, c, s', rfl, ho, hst, hO⟩
  have hT1 : Blk w1 tb 55 #[.int .u64 0, .string ⟨#[]⟩, .bool false, .int .u64 0, .int .u64 0, .int .u64 0, .int .u64 0, .bool false, .string ⟨#[]⟩, .string ⟨#[]⟩, .slice none 0 0, .int .i64 0] := hst.2.1.blk HT.out HNin.out
  have HHo := hide ho
  have HSt := hide hst
  have HOk := hide hO.ok
  have hT2 := (((hT1.set_ 1 (.string tt)).set_ 2 (.bool d)).set_ 11 (.int .i64 c))
  have hM2 := ((((Mod.refl [tb] w1).setCell (p := ⟨tb, 1, none⟩) (.inl (by simp)) (.string tt)).setCell (p := ⟨tb, 2, none⟩) (.inl (by simp)) (.bool d)).setCell (p := ⟨tb, 11, none⟩) (.inl (by simp)) (.int .i64 c))
  have g0 : w1.frozen? ⟨tb, 0, none⟩ = false := hT1.frozen 0
  have g1 : w1.frozen? ⟨tb, 1, none⟩ = false := hT1.frozen 1
  have g2 : w1.frozen? ⟨tb, 2, none⟩ = false := hT1.frozen 2
  have g3 : w1.frozen? ⟨tb, 3, none⟩ = false := hT1.frozen 3
  have g4 : w1.frozen? ⟨tb, 4, none⟩ = false := hT1.frozen 4
  have g5 : w1.frozen? ⟨tb, 5, none⟩ = false := hT1.frozen 5
  have g6 : w1.frozen? ⟨tb, 6, none⟩ = false := hT1.frozen 6
  have g7 : w1.frozen? ⟨tb, 7, none⟩ = false := hT1.frozen 7
  have g8 : w1.frozen? ⟨tb, 8, none⟩ = false := hT1.frozen 8
  have g9 : w1.frozen? ⟨tb, 9, none⟩ = false := hT1.frozen 9
  have g10 : w1.frozen? ⟨tb, 10, none⟩ = false := hT1.frozen 10
  have g11 : w1.frozen? ⟨tb, 11, none⟩ = false := hT1.frozen 11
  have a0 : w1.cell? ⟨tb, 0, none⟩ = some (.int .u64 0) := hT1.cell 0
  have a1 : w1.cell? ⟨tb, 1, none⟩ = some (.string ⟨#[]⟩) := hT1.cell 1
  have a2 : w1.cell? ⟨tb, 2, none⟩ = some (.bool false) := hT1.cell 2
  have a3 : w1.cell? ⟨tb, 3, none⟩ = some (.int .u64 0) := hT1.cell 3
  have a4 : w1.cell? ⟨tb, 4, none⟩ = some (.int .u64 0) := hT1.cell 4
  have a5 : w1.cell? ⟨tb, 5, none⟩ = some (.int .u64 0) := hT1.cell 5
  have a6 : w1.cell? ⟨tb, 6, none⟩ = some (.int .u64 0) := hT1.cell 6
  have a7 : w1.cell? ⟨tb, 7, none⟩ = some (.bool false) := hT1.cell 7
  have a8 : w1.cell? ⟨tb, 8, none⟩ = some (.string ⟨#[]⟩) := hT1.cell 8
  have a9 : w1.cell? ⟨tb, 9, none⟩ = some (.string ⟨#[]⟩) := hT1.cell 9
  have a10 : w1.cell? ⟨tb, 10, none⟩ = some (.slice none 0 0) := hT1.cell 10
  have a11 : w1.cell? ⟨tb, 11, none⟩ = some (.int .i64 0) := hT1.cell 11
  have hl1 := hT1.lt
  obtain ⟨w2, hw2⟩ : ∃ w2, (((w1.setCell ⟨tb, 1, none⟩ (.string tt)).setCell ⟨tb, 2, none⟩ (.bool d)).setCell ⟨tb, 11, none⟩ (.int .i64 c)) = w2 := ⟨_, rfl⟩
  rw [hw2] at hT2 hM2
  have HT2 : Hid (Blk w2 tb 55 #[.int .u64 0, .string tt, .bool d, .int .u64 0, .int .u64 0, .int .u64 0, .int .u64 0, .bool false, .string ⟨#[]⟩, .string ⟨#[]⟩, .slice none 0 0, .int .i64 c]) := hide hT2
  have HM2 := hide hM2
  have hT2' := HT2.out
  have b0 : w2.cell? ⟨tb, 0, none⟩ = some (.int .u64 0) := hT2'.cell 0
  have b1 : w2.cell? ⟨tb, 1, none⟩ = some (.string tt) := hT2'.cell 1
  have b2 : w2.cell? ⟨tb, 2, none⟩ = some (.bool d) := hT2'.cell 2
  have b3 : w2.cell? ⟨tb, 3, none⟩ = some (.int .u64 0) := hT2'.cell 3
  have b4 : w2.cell? ⟨tb, 4, none⟩ = some (.int .u64 0) := hT2'.cell 4
  have b5 : w2.cell? ⟨tb, 5, none⟩ = some (.int .u64 0) := hT2'.cell 5
  have b6 : w2.cell? ⟨tb, 6, none⟩ = some (.int .u64 0) := hT2'.cell 6
  have b7 : w2.cell? ⟨tb, 7, none⟩ = some (.bool false) := hT2'.cell 7
  have b8 : w2.cell? ⟨tb, 8, none⟩ = some (.string ⟨#[]⟩) := hT2'.cell 8
  have b9 : w2.cell? ⟨tb, 9, none⟩ = some (.string ⟨#[]⟩) := hT2'.cell 9
  have b10 : w2.cell? ⟨tb, 10, none⟩ = some (.slice none 0 0) := hT2'.cell 10
  have b11 : w2.cell? ⟨tb, 11, none⟩ = some (.int .i64 c) := hT2'.cell 11
  have k0 : w2.frozen? ⟨tb, 0, none⟩ = false := hT2'.frozen 0
  have k1 : w2.frozen? ⟨tb, 1, none⟩ = false := hT2'.frozen 1
  have k2 : w2.frozen? ⟨tb, 2, none⟩ = false := hT2'.frozen 2
  have k3 : w2.frozen? ⟨tb, 3, none⟩ = false := hT2'.frozen 3
  have k4 : w2.frozen? ⟨tb, 4, none⟩ = false := hT2'.frozen 4
  have k5 : w2.frozen? ⟨tb, 5, none⟩ = false := hT2'.frozen 5
  have k6 : w2.frozen? ⟨tb, 6, none⟩ = false := hT2'.frozen 6
  have k7 : w2.frozen? ⟨tb, 7, none⟩ = false := hT2'.frozen 7
  have k8 : w2.frozen? ⟨tb, 8, none⟩ = false := hT2'.frozen 8
  have k9 : w2.frozen? ⟨tb, 9, none⟩ = false := hT2'.frozen 9
  have k10 : w2.frozen? ⟨tb, 10, none⟩ = false := hT2'.frozen 10
  have k11 : w2.frozen? ⟨tb, 11, none⟩ = false := hT2'.frozen 11
  have hl2 := hT2'.lt
  clear ho hst hO hT1 hT2 hT2' hM2
  go_wp2_with fail
  refine bodyPost_ret (results_cell_row rfl _ _ tb 55 (⟨0, tt, d, fr0, c⟩ : Said).cells (0, 0) _ rfl ?_ Tryz.underlying55 rfl (by kernel_rfl)) rfl ?_
  · exact put12_blk HT2.out rfl _ _ _ _ _ _ _ _ _ _ _ _
  · refine ⟨⟨0, tt, d, fr0, c⟩, _, rfl, .read HK.out tt d c s' HHo.out, ?_⟩
    exact own_key h0 (HSB.out.trans (SStep.besideOf htb HBB.out HSt.out (put12_mod (g := tb) HM2.out (.inl (List.mem_singleton.2 rfl)) _ _ _ _ _ _ _ _ _ _ _ _))) (HOk.out.mono (by omega))
set_option maxRecDepth 100000 in
set_option maxHeartbeats 4000000 in
theorem own_play_reset {K : Nat} {W w : World} {sb : Nat} {s : Ss} (h0 : Own K W w sb s) (hK : K ≤ 64000) (x : SAct) (hok : x.OK) (hlg : x.large = false) (hq3 : x.kind = 3) :
    Calls Tryz.prog 18 #[.pointer (some ⟨sb, 0, none⟩), x.val] w fun e w' => ∃ o s', e = .returned (.agg o.cells) ∧ s.Plays x o s' ∧ SStep w sb s s' w' ∧ Own (K + 200) W w' sb s' := by
  have hl := x.large_no hlg
  have hl1' := hl.1
  have hl2' := hl.2
  have hMB : Mod [] w (w.alloc (.cells #[.int .i64 x.kind, .int .i64 x.n, .int .u64 (x.id : Nat), .int .u64 (x.code : Nat), .string x.text, .bool x.fin, .int .u64 (x.fr.f.kind : Nat), .int .u64 (x.fr.f.a : Nat), .int .u64 (x.fr.f.b : Nat), .int .u64 (x.fr.f.c : Nat), .bool x.fr.f.fin, .string x.fr.f.data, .string x.fr.f.more, .slice x.fr.A x.fr.f.list.length x.fr.c, .int .u64 (x.lim.data : Int), .int .u64 (x.lim.bl : Int), .int .u64 (x.lim.br : Int), .int .u64 (x.lim.un : Int), .int .u64 (x.lim.bidis : Int), .int .u64 (x.lim.unis : Int)] 52)) := (Mod.refl [] w).alloc _
  have hNB := Blk.new w 52 #[.int .i64 x.kind, .int .i64 x.n, .int .u64 (x.id : Nat), .int .u64 (x.code : Nat), .string x.text, .bool x.fin, .int .u64 (x.fr.f.kind : Nat), .int .u64 (x.fr.f.a : Nat), .int .u64 (x.fr.f.b : Nat), .int .u64 (x.fr.f.c : Nat), .bool x.fr.f.fin, .string x.fr.f.data, .string x.fr.f.more, .slice x.fr.A x.fr.f.list.length x.fr.c, .int .u64 (x.lim.data : Int), .int .u64 (x.lim.bl : Int), .int .u64 (x.lim.br : Int), .int .u64 (x.lim.un : Int), .int .u64 (x.lim.bidis : Int), .int .u64 (x.lim.unis : Int)]
  obtain ⟨wB, hwB⟩ : ∃ wB, w.alloc (.cells #[.int .i64 x.kind, .int .i64 x.n, .int .u64 (x.id : Nat), .int .u64 (x.code : Nat), .string x.text, .bool x.fin, .int .u64 (x.fr.f.kind : Nat), .int .u64 (x.fr.f.a : Nat), .int .u64 (x.fr.f.b : Nat), .int .u64 (x.fr.f.c : Nat), .bool x.fr.f.fin, .string x.fr.f.data, .string x.fr.f.more, .slice x.fr.A x.fr.f.list.length x.fr.c, .int .u64 (x.lim.data : Int), .int .u64 (x.lim.bl : Int), .int .u64 (x.lim.br : Int), .int .u64 (x.lim.un : Int), .int .u64 (x.lim.bidis : Int), .int .u64 (x.lim.unis : Int)] 52) = wB := ⟨_, rfl⟩
  rw [hwB] at hMB hNB
  have hOB := h0.next hMB
  have HSB : Hid (SStep w sb s s wB) := hide (SStep.refl h0.box hMB)
  have HBB := hide hOB.box
  have hMC : Mod [] wB (wB.alloc (.cells #[.int .u64 0, .string ⟨#[]⟩, .bool false, .int .u64 0, .int .u64 0, .int .u64 0, .int .u64 0, .bool false, .string ⟨#[]⟩, .string ⟨#[]⟩, .slice none 0 0, .int .i64 0] 55)) := (Mod.refl [] wB).alloc _
  have hNC := Blk.new wB 55 #[.int .u64 0, .string ⟨#[]⟩, .bool false, .int .u64 0, .int .u64 0, .int .u64 0, .int .u64 0, .bool false, .string ⟨#[]⟩, .string ⟨#[]⟩, .slice none 0 0, .int .i64 0]
  have hnin := beside_new' hOB.box
  obtain ⟨tb, htb⟩ : ∃ tb, wB.heap.size = tb := ⟨_, rfl⟩
  have hSC := SStep.refl hOB.box hMC
  have hOC := hOB.next hMC
  have hXC := hMC.blk hNB (by simp)
  rw [htb] at hNC hnin
  have HT := hide hNC
  have HNin := hide hnin
  have HO := hide hOC
  have x0 : (wB.alloc (.cells #[.int .u64 0, .string ⟨#[]⟩, .bool false, .int .u64 0, .int .u64 0, .int .u64 0, .int .u64 0, .bool false, .string ⟨#[]⟩, .string ⟨#[]⟩, .slice none 0 0, .int .i64 0] 55)).cell? ⟨w.heap.size, 0, none⟩ = some (.int .i64 x.kind) := hXC.cell 0
  have x1 : (wB.alloc (.cells #[.int .u64 0, .string ⟨#[]⟩, .bool false, .int .u64 0, .int .u64 0, .int .u64 0, .int .u64 0, .bool false, .string ⟨#[]⟩, .string ⟨#[]⟩, .slice none 0 0, .int .i64 0] 55)).cell? ⟨w.heap.size, 1, none⟩ = some (.int .i64 x.n) := hXC.cell 1
  have x2 : (wB.alloc (.cells #[.int .u64 0, .string ⟨#[]⟩, .bool false, .int .u64 0, .int .u64 0, .int .u64 0, .int .u64 0, .bool false, .string ⟨#[]⟩, .string ⟨#[]⟩, .slice none 0 0, .int .i64 0] 55)).cell? ⟨w.heap.size, 2, none⟩ = some (.int .u64 (x.id : Nat)) := hXC.cell 2
  have x3 : (wB.alloc (.cells #[.int .u64 0, .string ⟨#[]⟩, .bool false, .int .u64 0, .int .u64 0, .int .u64 0, .int .u64 0, .bool false, .string ⟨#[]⟩, .string ⟨#[]⟩, .slice none 0 0, .int .i64 0] 55)).cell? ⟨w.heap.size, 3, none⟩ = some (.int .u64 (x.code : Nat)) := hXC.cell 3
  have x4 : (wB.alloc (.cells #[.int .u64 0, .string ⟨#[]⟩, .bool false, .int .u64 0, .int .u64 0, .int .u64 0, .int .u64 0, .bool false, .string ⟨#[]⟩, .string ⟨#[]⟩, .slice none 0 0, .int .i64 0] 55)).cell? ⟨w.heap.size, 4, none⟩ = some (.string x.text) := hXC.cell 4
  have x5 : (wB.alloc (.cells #[.int .u64 0, .string ⟨#[]⟩, .bool false, .int .u64 0, .int .u64 0, .int .u64 0, .int .u64 0, .bool false, .string ⟨#[]⟩, .string ⟨#[]⟩, .slice none 0 0, .int .i64 0] 55)).cell? ⟨w.heap.size, 5, none⟩ = some (.bool x.fin) := hXC.cell 5
  have x6 : (wB.alloc (.cells #[.int .u64 0, .string ⟨#[]⟩, .bool false, .int .u64 0, .int .u64 0, .int .u64 0, .int .u64 0, .bool false, .string ⟨#[]⟩, .string ⟨#[]⟩, .slice none 0 0, .int .i64 0] 55)).cell? ⟨w.heap.size, 6, none⟩ = some (.int .u64 (x.fr.f.kind : Nat)) := hXC.cell 6
  have x7 : (wB.alloc (.cells #[.int .u64 0, .string ⟨#[]⟩, .bool false, .int .u64 0, .int .u64 0, .int .u64 0, .int .u64 0, .bool false, .string ⟨#[]⟩, .string ⟨#[]⟩, .slice none 0 0, .int .i64 0] 55)).cell? ⟨w.heap.size, 7, none⟩ = some (.int .u64 (x.fr.f.a : Nat)) := hXC.cell 7
  have x8 : (wB.alloc (.cells #[.int .u64 0, .string ⟨#[]⟩, .bool false, .int .u64 0, .int .u64 0, .int .u64 0, .int .u64 0, .bool false, .string ⟨#[]⟩, .string ⟨#[]⟩, .slice none 0 0, .int .i64 0] 55)).cell? ⟨w.heap.size, 8, none⟩ = some (.int .u64 (x.fr.f.b : Nat)) := hXC.cell 8
  have x9 : (wB.alloc (.cells #[.int .u64 0, .string ⟨#[]⟩, .bool false, .int .u64 0, .int .u64 0, .int .u64 0, .int .u64 0, .bool false, .string ⟨#[]⟩, .string ⟨#[]⟩, .slice none 0 0, .int .i64 0] 55)).cell? ⟨w.heap.size, 9, none⟩ = some (.int .u64 (x.fr.f.c : Nat)) := hXC.cell 9
  have x10 : (wB.alloc (.cells #[.int .u64 0, .string ⟨#[]⟩, .bool false, .int .u64 0, .int .u64 0, .int .u64 0, .int .u64 0, .bool false, .string ⟨#[]⟩, .string ⟨#[]⟩, .slice none 0 0, .int .i64 0] 55)).cell? ⟨w.heap.size, 10, none⟩ = some (.bool x.fr.f.fin) := hXC.cell 10
  have x11 : (wB.alloc (.cells #[.int .u64 0, .string ⟨#[]⟩, .bool false, .int .u64 0, .int .u64 0, .int .u64 0, .int .u64 0, .bool false, .string ⟨#[]⟩, .string ⟨#[]⟩, .slice none 0 0, .int .i64 0] 55)).cell? ⟨w.heap.size, 11, none⟩ = some (.string x.fr.f.data) := hXC.cell 11
  have x12 : (wB.alloc (.cells #[.int .u64 0, .string ⟨#[]⟩, .bool false, .int .u64 0, .int .u64 0, .int .u64 0, .int .u64 0, .bool false, .string ⟨#[]⟩, .string ⟨#[]⟩, .slice none 0 0, .int .i64 0] 55)).cell? ⟨w.heap.size, 12, none⟩ = some (.string x.fr.f.more) := hXC.cell 12
  have x13 : (wB.alloc (.cells #[.int .u64 0, .string ⟨#[]⟩, .bool false, .int .u64 0, .int .u64 0, .int .u64 0, .int .u64 0, .bool false, .string ⟨#[]⟩, .string ⟨#[]⟩, .slice none 0 0, .int .i64 0] 55)).cell? ⟨w.heap.size, 13, none⟩ = some (.slice x.fr.A x.fr.f.list.length x.fr.c) := hXC.cell 13
  have x14 : (wB.alloc (.cells #[.int .u64 0, .string ⟨#[]⟩, .bool false, .int .u64 0, .int .u64 0, .int .u64 0, .int .u64 0, .bool false, .string ⟨#[]⟩, .string ⟨#[]⟩, .slice none 0 0, .int .i64 0] 55)).cell? ⟨w.heap.size, 14, none⟩ = some (.int .u64 (x.lim.data : Int)) := hXC.cell 14
  have x15 : (wB.alloc (.cells #[.int .u64 0, .string ⟨#[]⟩, .bool false, .int .u64 0, .int .u64 0, .int .u64 0, .int .u64 0, .bool false, .string ⟨#[]⟩, .string ⟨#[]⟩, .slice none 0 0, .int .i64 0] 55)).cell? ⟨w.heap.size, 15, none⟩ = some (.int .u64 (x.lim.bl : Int)) := hXC.cell 15
  have x16 : (wB.alloc (.cells #[.int .u64 0, .string ⟨#[]⟩, .bool false, .int .u64 0, .int .u64 0, .int .u64 0, .int .u64 0, .bool false, .string ⟨#[]⟩, .string ⟨#[]⟩, .slice none 0 0, .int .i64 0] 55)).cell? ⟨w.heap.size, 16, none⟩ = some (.int .u64 (x.lim.br : Int)) := hXC.cell 16
  have x17 : (wB.alloc (.cells #[.int .u64 0, .string ⟨#[]⟩, .bool false, .int .u64 0, .int .u64 0, .int .u64 0, .int .u64 0, .bool false, .string ⟨#[]⟩, .string ⟨#[]⟩, .slice none 0 0, .int .i64 0] 55)).cell? ⟨w.heap.size, 17, none⟩ = some (.int .u64 (x.lim.un : Int)) := hXC.cell 17
  have x18 : (wB.alloc (.cells #[.int .u64 0, .string ⟨#[]⟩, .bool false, .int .u64 0, .int .u64 0, .int .u64 0, .int .u64 0, .bool false, .string ⟨#[]⟩, .string ⟨#[]⟩, .slice none 0 0, .int .i64 0] 55)).cell? ⟨w.heap.size, 18, none⟩ = some (.int .u64 (x.lim.bidis : Int)) := hXC.cell 18
  have x19 : (wB.alloc (.cells #[.int .u64 0, .string ⟨#[]⟩, .bool false, .int .u64 0, .int .u64 0, .int .u64 0, .int .u64 0, .bool false, .string ⟨#[]⟩, .string ⟨#[]⟩, .slice none 0 0, .int .i64 0] 55)).cell? ⟨w.heap.size, 19, none⟩ = some (.int .u64 (x.lim.unis : Int)) := hXC.cell 19
  have hwl := hNB.lt
  clear hl hMB hNB hOB hMC hNC hnin hSC hOC hXC
  unfold SAct.val
  have HK := hide hq3
  have hk0 : (x.kind == 0) = false := by rw [HK.out]; rfl
  have hk1 : (x.kind == 1) = false := by rw [HK.out]; rfl
  have hk2 : (x.kind == 2) = false := by rw [HK.out]; rfl
  have hk3 : (x.kind == 3) = true := by rw [HK.out]; rfl
  have hk4 : (x.kind == 4) = false := by rw [HK.out]; rfl
  have hk5 : (x.kind == 5) = false := by rw [HK.out]; rfl
  have hk6 : (x.kind == 6) = false := by rw [HK.out]; rfl
  have hk7 : (x.kind == 7) = false := by rw [HK.out]; rfl
  have hk8 : (x.kind == 8) = false := by rw [HK.out]; rfl
  have hk9 : (x.kind == 9) = false := by rw [HK.out]; rfl
  have hct := own_reset HO.out x.id x.code
  have HCt := hide hct
  clear hq3 hct
  go_enter Tryz.func18, Tryz.ntmps18
  go_wp2_with fail
  refine HCt.out.mono ?_
  rintro e w1 ⟨c, s', rfl, ho, hst, hO⟩
  have hT1 : Blk w1 tb 55 #[.int .u64 0, .string ⟨#[]⟩, .bool false, .int .u64 0, .int .u64 0, .int .u64 0, .int .u64 0, .bool false, .string ⟨#[]⟩, .string ⟨#[]⟩, .slice none 0 0, .int .i64 0] := hst.2.1.blk HT.out HNin.out
  have HHo := hide ho
  have HSt := hide hst
  have HOk := hide hO.ok
  have hT2 := (hT1.set_ 11 (.int .i64 c))
  have hM2 := ((Mod.refl [tb] w1).setCell (p := ⟨tb, 11, none⟩) (.inl (by simp)) (.int .i64 c))
  have g0 : w1.frozen? ⟨tb, 0, none⟩ = false := hT1.frozen 0
  have g1 : w1.frozen? ⟨tb, 1, none⟩ = false := hT1.frozen 1
  have g2 : w1.frozen? ⟨tb, 2, none⟩ = false := hT1.frozen 2
  have g3 : w1.frozen? ⟨tb, 3, none⟩ = false := hT1.frozen 3
  have g4 : w1.frozen? ⟨tb, 4, none⟩ = false := hT1.frozen 4
  have g5 : w1.frozen? ⟨tb, 5, none⟩ = false := hT1.frozen 5
  have g6 : w1.frozen? ⟨tb, 6, none⟩ = false := hT1.frozen 6
  have g7 : w1.frozen? ⟨tb, 7, none⟩ = false := hT1.frozen 7
  have g8 : w1.frozen? ⟨tb, 8, none⟩ = false := hT1.frozen 8
  have g9 : w1.frozen? ⟨tb, 9, none⟩ = false := hT1.frozen 9
  have g10 : w1.frozen? ⟨tb, 10, none⟩ = false := hT1.frozen 10
  have g11 : w1.frozen? ⟨tb, 11, none⟩ = false := hT1.frozen 11
  have a0 : w1.cell? ⟨tb, 0, none⟩ = some (.int .u64 0) := hT1.cell 0
  have a1 : w1.cell? ⟨tb, 1, none⟩ = some (.string ⟨#[]⟩) := hT1.cell 1
  have a2 : w1.cell? ⟨tb, 2, none⟩ = some (.bool false) := hT1.cell 2
  have a3 : w1.cell? ⟨tb, 3, none⟩ = some (.int .u64 0) := hT1.cell 3
  have a4 : w1.cell? ⟨tb, 4, none⟩ = some (.int .u64 0) := hT1.cell 4
  have a5 : w1.cell? ⟨tb, 5, none⟩ = some (.int .u64 0) := hT1.cell 5
  have a6 : w1.cell? ⟨tb, 6, none⟩ = some (.int .u64 0) := hT1.cell 6
  have a7 : w1.cell? ⟨tb, 7, none⟩ = some (.bool false) := hT1.cell 7
  have a8 : w1.cell? ⟨tb, 8, none⟩ = some (.string ⟨#[]⟩) := hT1.cell 8
  have a9 : w1.cell? ⟨tb, 9, none⟩ = some (.string ⟨#[]⟩) := hT1.cell 9
  have a10 : w1.cell? ⟨tb, 10, none⟩ = some (.slice none 0 0) := hT1.cell 10
  have a11 : w1.cell? ⟨tb, 11, none⟩ = some (.int .i64 0) := hT1.cell 11
  have hl1 := hT1.lt
  obtain ⟨w2, hw2⟩ : ∃ w2, (w1.setCell ⟨tb, 11, none⟩ (.int .i64 c)) = w2 := ⟨_, rfl⟩
  rw [hw2] at hT2 hM2
  have HT2 : Hid (Blk w2 tb 55 #[.int .u64 0, .string ⟨#[]⟩, .bool false, .int .u64 0, .int .u64 0, .int .u64 0, .int .u64 0, .bool false, .string ⟨#[]⟩, .string ⟨#[]⟩, .slice none 0 0, .int .i64 c]) := hide hT2
  have HM2 := hide hM2
  have hT2' := HT2.out
  have b0 : w2.cell? ⟨tb, 0, none⟩ = some (.int .u64 0) := hT2'.cell 0
  have b1 : w2.cell? ⟨tb, 1, none⟩ = some (.string ⟨#[]⟩) := hT2'.cell 1
  have b2 : w2.cell? ⟨tb, 2, none⟩ = some (.bool false) := hT2'.cell 2
  have b3 : w2.cell? ⟨tb, 3, none⟩ = some (.int .u64 0) := hT2'.cell 3
  have b4 : w2.cell? ⟨tb, 4, none⟩ = some (.int .u64 0) := hT2'.cell 4
  have b5 : w2.cell? ⟨tb, 5, none⟩ = some (.int .u64 0) := hT2'.cell 5
  have b6 : w2.cell? ⟨tb, 6, none⟩ = some (.int .u64 0) := hT2'.cell 6
  have b7 : w2.cell? ⟨tb, 7, none⟩ = some (.bool false) := hT2'.cell 7
  have b8 : w2.cell? ⟨tb, 8, none⟩ = some (.string ⟨#[]⟩) := hT2'.cell 8
  have b9 : w2.cell? ⟨tb, 9, none⟩ = some (.string ⟨#[]⟩) := hT2'.cell 9
  have b10 : w2.cell? ⟨tb, 10, none⟩ = some (.slice none 0 0) := hT2'.cell 10
  have b11 : w2.cell? ⟨tb, 11, none⟩ = some (.int .i64 c) := hT2'.cell 11
  have k0 : w2.frozen? ⟨tb, 0, none⟩ = false := hT2'.frozen 0
  have k1 : w2.frozen? ⟨tb, 1, none⟩ = false := hT2'.frozen 1
  have k2 : w2.frozen? ⟨tb, 2, none⟩ = false := hT2'.frozen 2
  have k3 : w2.frozen? ⟨tb, 3, none⟩ = false := hT2'.frozen 3
  have k4 : w2.frozen? ⟨tb, 4, none⟩ = false := hT2'.frozen 4
  have k5 : w2.frozen? ⟨tb, 5, none⟩ = false := hT2'.frozen 5
  have k6 : w2.frozen? ⟨tb, 6, none⟩ = false := hT2'.frozen 6
  have k7 : w2.frozen? ⟨tb, 7, none⟩ = false := hT2'.frozen 7
  have k8 : w2.frozen? ⟨tb, 8, none⟩ = false := hT2'.frozen 8
  have k9 : w2.frozen? ⟨tb, 9, none⟩ = false := hT2'.frozen 9
  have k10 : w2.frozen? ⟨tb, 10, none⟩ = false := hT2'.frozen 10
  have k11 : w2.frozen? ⟨tb, 11, none⟩ = false := hT2'.frozen 11
  have hl2 := hT2'.lt
  clear ho hst hO hT1 hT2 hT2' hM2
  go_wp2_with fail
  refine bodyPost_ret (results_cell_row rfl _ _ tb 55 (⟨0, ⟨#[]⟩, false, fr0, c⟩ : Said).cells (0, 0) _ rfl ?_ Tryz.underlying55 rfl (by kernel_rfl)) rfl ?_
  · exact put12_blk HT2.out rfl _ _ _ _ _ _ _ _ _ _ _ _
  · refine ⟨⟨0, ⟨#[]⟩, false, fr0, c⟩, _, rfl, .reset HK.out c s' HHo.out, ?_⟩
    exact own_key h0 (HSB.out.trans (SStep.besideOf htb HBB.out HSt.out (put12_mod (g := tb) HM2.out (.inl (List.mem_singleton.2 rfl)) _ _ _ _ _ _ _ _ _ _ _ _))) (HOk.out.mono (by omega))
set_option maxRecDepth 100000 in
set_option maxHeartbeats 4000000 in
theorem own_play_stop {K : Nat} {W w : World} {sb : Nat} {s : Ss} (h0 : Own K W w sb s) (hK : K ≤ 64000) (x : SAct) (hok : x.OK) (hlg : x.large = false) (hq4 : x.kind = 4) :
    Calls Tryz.prog 18 #[.pointer (some ⟨sb, 0, none⟩), x.val] w fun e w' => ∃ o s', e = .returned (.agg o.cells) ∧ s.Plays x o s' ∧ SStep w sb s s' w' ∧ Own (K + 200) W w' sb s' := by
  have hl := x.large_no hlg
  have hl1' := hl.1
  have hl2' := hl.2
  have hMB : Mod [] w (w.alloc (.cells #[.int .i64 x.kind, .int .i64 x.n, .int .u64 (x.id : Nat), .int .u64 (x.code : Nat), .string x.text, .bool x.fin, .int .u64 (x.fr.f.kind : Nat), .int .u64 (x.fr.f.a : Nat), .int .u64 (x.fr.f.b : Nat), .int .u64 (x.fr.f.c : Nat), .bool x.fr.f.fin, .string x.fr.f.data, .string x.fr.f.more, .slice x.fr.A x.fr.f.list.length x.fr.c, .int .u64 (x.lim.data : Int), .int .u64 (x.lim.bl : Int), .int .u64 (x.lim.br : Int), .int .u64 (x.lim.un : Int), .int .u64 (x.lim.bidis : Int), .int .u64 (x.lim.unis : Int)] 52)) := (Mod.refl [] w).alloc _
  have hNB := Blk.new w 52 #[.int .i64 x.kind, .int .i64 x.n, .int .u64 (x.id : Nat), .int .u64 (x.code : Nat), .string x.text, .bool x.fin, .int .u64 (x.fr.f.kind : Nat), .int .u64 (x.fr.f.a : Nat), .int .u64 (x.fr.f.b : Nat), .int .u64 (x.fr.f.c : Nat), .bool x.fr.f.fin, .string x.fr.f.data, .string x.fr.f.more, .slice x.fr.A x.fr.f.list.length x.fr.c, .int .u64 (x.lim.data : Int), .int .u64 (x.lim.bl : Int), .int .u64 (x.lim.br : Int), .int .u64 (x.lim.un : Int), .int .u64 (x.lim.bidis : Int), .int .u64 (x.lim.unis : Int)]
  obtain ⟨wB, hwB⟩ : ∃ wB, w.alloc (.cells #[.int .i64 x.kind, .int .i64 x.n, .int .u64 (x.id : Nat), .int .u64 (x.code : Nat), .string x.text, .bool x.fin, .int .u64 (x.fr.f.kind : Nat), .int .u64 (x.fr.f.a : Nat), .int .u64 (x.fr.f.b : Nat), .int .u64 (x.fr.f.c : Nat), .bool x.fr.f.fin, .string x.fr.f.data, .string x.fr.f.more, .slice x.fr.A x.fr.f.list.length x.fr.c, .int .u64 (x.lim.data : Int), .int .u64 (x.lim.bl : Int), .int .u64 (x.lim.br : Int), .int .u64 (x.lim.un : Int), .int .u64 (x.lim.bidis : Int), .int .u64 (x.lim.unis : Int)] 52) = wB := ⟨_, rfl⟩
  rw [hwB] at hMB hNB
  have hOB := h0.next hMB
  have HSB : Hid (SStep w sb s s wB) := hide (SStep.refl h0.box hMB)
  have HBB := hide hOB.box
  have hMC : Mod [] wB (wB.alloc (.cells #[.int .u64 0, .string ⟨#[]⟩, .bool false, .int .u64 0, .int .u64 0, .int .u64 0, .int .u64 0, .bool false, .string ⟨#[]⟩, .string ⟨#[]⟩, .slice none 0 0, .int .i64 0] 55)) := (Mod.refl [] wB).alloc _
  have hNC := Blk.new wB 55 #[.int .u64 0, .string ⟨#[]⟩, .bool false, .int .u64 0, .int .u64 0, .int .u64 0, .int .u64 0, .bool false, .string ⟨#[]⟩, .string ⟨#[]⟩, .slice none 0 0, .int .i64 0]
  have hnin := beside_new' hOB.box
  obtain ⟨tb, htb⟩ : ∃ tb, wB.heap.size = tb := ⟨_, rfl⟩
  have hSC := SStep.refl hOB.box hMC
  have hOC := hOB.next hMC
  have hXC := hMC.blk hNB (by simp)
  rw [htb] at hNC hnin
  have HT := hide hNC
  have HNin := hide hnin
  have HO := hide hOC
  have x0 : (wB.alloc (.cells #[.int .u64 0, .string ⟨#[]⟩, .bool false, .int .u64 0, .int .u64 0, .int .u64 0, .int .u64 0, .bool false, .string ⟨#[]⟩, .string ⟨#[]⟩, .slice none 0 0, .int .i64 0] 55)).cell? ⟨w.heap.size, 0, none⟩ = some (.int .i64 x.kind) := hXC.cell 0
  have x1 : (wB.alloc (.cells #[.int .u64 0, .string ⟨#[]⟩, .bool false, .int .u64 0, .int .u64 0, .int .u64 0, .int .u64 0, .bool false, .string ⟨#[]⟩, .string ⟨#[]⟩, .slice none 0 0, .int .i64 0] 55)).cell? ⟨w.heap.size, 1, none⟩ = some (.int .i64 x.n) := hXC.cell 1
  have x2 : (wB.alloc (.cells #[.int .u64 0, .string ⟨#[]⟩, .bool false, .int .u64 0, .int .u64 0, .int .u64 0, .int .u64 0, .bool false, .string ⟨#[]⟩, .string ⟨#[]⟩, .slice none 0 0, .int .i64 0] 55)).cell? ⟨w.heap.size, 2, none⟩ = some (.int .u64 (x.id : Nat)) := hXC.cell 2
  have x3 : (wB.alloc (.cells #[.int .u64 0, .string ⟨#[]⟩, .bool false, .int .u64 0, .int .u64 0, .int .u64 0, .int .u64 0, .bool false, .string ⟨#[]⟩, .string ⟨#[]⟩, .slice none 0 0, .int .i64 0] 55)).cell? ⟨w.heap.size, 3, none⟩ = some (.int .u64 (x.code : Nat)) := hXC.cell 3
  have x4 : (wB.alloc (.cells #[.int .u64 0, .string ⟨#[]⟩, .bool false, .int .u64 0, .int .u64 0, .int .u64 0, .int .u64 0, .bool false, .string ⟨#[]⟩, .string ⟨#[]⟩, .slice none 0 0, .int .i64 0] 55)).cell? ⟨w.heap.size, 4, none⟩ = some (.string x.text) := hXC.cell 4
  have x5 : (wB.alloc (.cells #[.int .u64 0, .string ⟨#[]⟩, .bool false, .int .u64 0, .int .u64 0, .int .u64 0, .int .u64 0, .bool false, .string ⟨#[]⟩, .string ⟨#[]⟩, .slice none 0 0, .int .i64 0] 55)).cell? ⟨w.heap.size, 5, none⟩ = some (.bool x.fin) := hXC.cell 5
  have x6 : (wB.alloc (.cells #[.int .u64 0, .string ⟨#[]⟩, .bool false, .int .u64 0, .int .u64 0, .int .u64 0, .int .u64 0, .bool false, .string ⟨#[]⟩, .string ⟨#[]⟩, .slice none 0 0, .int .i64 0] 55)).cell? ⟨w.heap.size, 6, none⟩ = some (.int .u64 (x.fr.f.kind : Nat)) := hXC.cell 6
  have x7 : (wB.alloc (.cells #[.int .u64 0, .string ⟨#[]⟩, .bool false, .int .u64 0, .int .u64 0, .int .u64 0, .int .u64 0, .bool false, .string ⟨#[]⟩, .string ⟨#[]⟩, .slice none 0 0, .int .i64 0] 55)).cell? ⟨w.heap.size, 7, none⟩ = some (.int .u64 (x.fr.f.a : Nat)) := hXC.cell 7
  have x8 : (wB.alloc (.cells #[.int .u64 0, .string ⟨#[]⟩, .bool false, .int .u64 0, .int .u64 0, .int .u64 0, .int .u64 0, .bool false, .string ⟨#[]⟩, .string ⟨#[]⟩, .slice none 0 0, .int .i64 0] 55)).cell? ⟨w.heap.size, 8, none⟩ = some (.int .u64 (x.fr.f.b : Nat)) := hXC.cell 8
  have x9 : (wB.alloc (.cells #[.int .u64 0, .string ⟨#[]⟩, .bool false, .int .u64 0, .int .u64 0, .int .u64 0, .int .u64 0, .bool false, .string ⟨#[]⟩, .string ⟨#[]⟩, .slice none 0 0, .int .i64 0] 55)).cell? ⟨w.heap.size, 9, none⟩ = some (.int .u64 (x.fr.f.c : Nat)) := hXC.cell 9
  have x10 : (wB.alloc (.cells #[.int .u64 0, .string ⟨#[]⟩, .bool false, .int .u64 0, .int .u64 0, .int .u64 0, .int .u64 0, .bool false, .string ⟨#[]⟩, .string ⟨#[]⟩, .slice none 0 0, .int .i64 0] 55)).cell? ⟨w.heap.size, 10, none⟩ = some (.bool x.fr.f.fin) := hXC.cell 10
  have x11 : (wB.alloc (.cells #[.int .u64 0, .string ⟨#[]⟩, .bool false, .int .u64 0, .int .u64 0, .int .u64 0, .int .u64 0, .bool false, .string ⟨#[]⟩, .string ⟨#[]⟩, .slice none 0 0, .int .i64 0] 55)).cell? ⟨w.heap.size, 11, none⟩ = some (.string x.fr.f.data) := hXC.cell 11
  have x12 : (wB.alloc (.cells #[.int .u64 0, .string ⟨#[]⟩, .bool false, .int .u64 0, .int .u64 0, .int .u64 0, .int .u64 0, .bool false, .string ⟨#[]⟩, .string ⟨#[]⟩, .slice none 0 0, .int .i64 0] 55)).cell? ⟨w.heap.size, 12, none⟩ = some (.string x.fr.f.more) := hXC.cell 12
  have x13 : (wB.alloc (.cells #[.int .u64 0, .string ⟨#[]⟩, .bool false, .int .u64 0, .int .u64 0, .int .u64 0, .int .u64 0, .bool false, .string ⟨#[]⟩, .string ⟨#[]⟩, .slice none 0 0, .int .i64 0] 55)).cell? ⟨w.heap.size, 13, none⟩ = some (.slice x.fr.A x.fr.f.list.length x.fr.c) := hXC.cell 13
  have x14 : (wB.alloc (.cells #[.int .u64 0, .string ⟨#[]⟩, .bool false, .int .u64 0, .int .u64 0, .int .u64 0, .int .u64 0, .bool false, .string ⟨#[]⟩, .string ⟨#[]⟩, .slice none 0 0, .int .i64 0] 55)).cell? ⟨w.heap.size, 14, none⟩ = some (.int .u64 (x.lim.data : Int)) := hXC.cell 14
  have x15 : (wB.alloc (.cells #[.int .u64 0, .string ⟨#[]⟩, .bool false, .int .u64 0, .int .u64 0, .int .u64 0, .int .u64 0, .bool false, .string ⟨#[]⟩, .string ⟨#[]⟩, .slice none 0 0, .int .i64 0] 55)).cell? ⟨w.heap.size, 15, none⟩ = some (.int .u64 (x.lim.bl : Int)) := hXC.cell 15
  have x16 : (wB.alloc (.cells #[.int .u64 0, .string ⟨#[]⟩, .bool false, .int .u64 0, .int .u64 0, .int .u64 0, .int .u64 0, .bool false, .string ⟨#[]⟩, .string ⟨#[]⟩, .slice none 0 0, .int .i64 0] 55)).cell? ⟨w.heap.size, 16, none⟩ = some (.int .u64 (x.lim.br : Int)) := hXC.cell 16
  have x17 : (wB.alloc (.cells #[.int .u64 0, .string ⟨#[]⟩, .bool false, .int .u64 0, .int .u64 0, .int .u64 0, .int .u64 0, .bool false, .string ⟨#[]⟩, .string ⟨#[]⟩, .slice none 0 0, .int .i64 0] 55)).cell? ⟨w.heap.size, 17, none⟩ = some (.int .u64 (x.lim.un : Int)) := hXC.cell 17
  have x18 : (wB.alloc (.cells #[.int .u64 0, .string ⟨#[]⟩, .bool false, .int .u64 0, .int .u64 0, .int .u64 0, .int .u64 0, .bool false, .string ⟨#[]⟩, .string ⟨#[]⟩, .slice none 0 0, .int .i64 0] 55)).cell? ⟨w.heap.size, 18, none⟩ = some (.int .u64 (x.lim.bidis : Int)) := hXC.cell 18
  have x19 : (wB.alloc (.cells #[.int .u64 0, .string ⟨#[]⟩, .bool false, .int .u64 0, .int .u64 0, .int .u64 0, .int .u64 0, .bool false, .string ⟨#[]⟩, .string ⟨#[]⟩, .slice none 0 0, .int .i64 0] 55)).cell? ⟨w.heap.size, 19, none⟩ = some (.int .u64 (x.lim.unis : Int)) := hXC.cell 19
  have hwl := hNB.lt
  clear hl hMB hNB hOB hMC hNC hnin hSC hOC hXC
  unfold SAct.val
  have HK := hide hq4
  have hk0 : (x.kind == 0) = false := by rw [HK.out]; rfl
  have hk1 : (x.kind == 1) = false := by rw [HK.out]; rfl
  have hk2 : (x.kind == 2) = false := by rw [HK.out]; rfl
  have hk3 : (x.kind == 3) = false := by rw [HK.out]; rfl
  have hk4 : (x.kind == 4) = true := by rw [HK.out]; rfl
  have hk5 : (x.kind == 5) = false := by rw [HK.out]; rfl
  have hk6 : (x.kind == 6) = false := by rw [HK.out]; rfl
  have hk7 : (x.kind == 7) = false := by rw [HK.out]; rfl
  have hk8 : (x.kind == 8) = false := by rw [HK.out]; rfl
  have hk9 : (x.kind == 9) = false := by rw [HK.out]; rfl
  have hct := own_stop HO.out x.id x.code
  have HCt := hide hct
  clear hq4 hct
  go_enter Tryz.func18, Tryz.ntmps18
  go_wp2_with fail
  refine HCt.out.mono ?_
  rintro e w1 ⟨c, s', rfl, ho, hst, hO⟩
  have hT1 : Blk w1 tb 55 #[.int .u64 0, .string ⟨#[]⟩, .bool false, .int .u64 0, .int .u64 0, .int .u64 0, .int .u64 0, .bool false, .string ⟨#[]⟩, .string ⟨#[]⟩, .slice none 0 0, .int .i64 0] := hst.2.1.blk HT.out HNin.out
  have HHo := hide ho
  have HSt := hide hst
  have HOk := hide hO.ok
  have hT2 := (hT1.set_ 11 (.int .i64 c))
  have hM2 := ((Mod.refl [tb] w1).setCell (p := ⟨tb, 11, none⟩) (.inl (by simp)) (.int .i64 c))
  have g0 : w1.frozen? ⟨tb, 0, none⟩ = false := hT1.frozen 0
  have g1 : w1.frozen? ⟨tb, 1, none⟩ = false := hT1.frozen 1
  have g2 : w1.frozen? ⟨tb, 2, none⟩ = false := hT1.frozen 2
  have g3 : w1.frozen? ⟨tb, 3, none⟩ = false := hT1.frozen 3
  have g4 : w1.frozen? ⟨tb, 4, none⟩ = false := hT1.frozen 4
  have g5 : w1.frozen? ⟨tb, 5, none⟩ = false := hT1.frozen 5
  have g6 : w1.frozen? ⟨tb, 6, none⟩ = false := hT1.frozen 6
  have g7 : w1.frozen? ⟨tb, 7, none⟩ = false := hT1.frozen 7
  have g8 : w1.frozen? ⟨tb, 8, none⟩ = false := hT1.frozen 8
  have g9 : w1.frozen? ⟨tb, 9, none⟩ = false := hT1.frozen 9
  have g10 : w1.frozen? ⟨tb, 10, none⟩ = false := hT1.frozen 10
  have g11 : w1.frozen? ⟨tb, 11, none⟩ = false := hT1.frozen 11
  have a0 : w1.cell? ⟨tb, 0, none⟩ = some (.int .u64 0) := hT1.cell 0
  have a1 : w1.cell? ⟨tb, 1, none⟩ = some (.string ⟨#[]⟩) := hT1.cell 1
  have a2 : w1.cell? ⟨tb, 2, none⟩ = some (.bool false) := hT1.cell 2
  have a3 : w1.cell? ⟨tb, 3, none⟩ = some (.int .u64 0) := hT1.cell 3
  have a4 : w1.cell? ⟨tb, 4, none⟩ = some (.int .u64 0) := hT1.cell 4
  have a5 : w1.cell? ⟨tb, 5, none⟩ = some (.int .u64 0) := hT1.cell 5
  have a6 : w1.cell? ⟨tb, 6, none⟩ = some (.int .u64 0) := hT1.cell 6
  have a7 : w1.cell? ⟨tb, 7, none⟩ = some (.bool false) := hT1.cell 7
  have a8 : w1.cell? ⟨tb, 8, none⟩ = some (.string ⟨#[]⟩) := hT1.cell 8
  have a9 : w1.cell? ⟨tb, 9, none⟩ = some (.string ⟨#[]⟩) := hT1.cell 9
  have a10 : w1.cell? ⟨tb, 10, none⟩ = some (.slice none 0 0) := hT1.cell 10
  have a11 : w1.cell? ⟨tb, 11, none⟩ = some (.int .i64 0) := hT1.cell 11
  have hl1 := hT1.lt
  obtain ⟨w2, hw2⟩ : ∃ w2, (w1.setCell ⟨tb, 11, none⟩ (.int .i64 c)) = w2 := ⟨_, rfl⟩
  rw [hw2] at hT2 hM2
  have HT2 : Hid (Blk w2 tb 55 #[.int .u64 0, .string ⟨#[]⟩, .bool false, .int .u64 0, .int .u64 0, .int .u64 0, .int .u64 0, .bool false, .string ⟨#[]⟩, .string ⟨#[]⟩, .slice none 0 0, .int .i64 c]) := hide hT2
  have HM2 := hide hM2
  have hT2' := HT2.out
  have b0 : w2.cell? ⟨tb, 0, none⟩ = some (.int .u64 0) := hT2'.cell 0
  have b1 : w2.cell? ⟨tb, 1, none⟩ = some (.string ⟨#[]⟩) := hT2'.cell 1
  have b2 : w2.cell? ⟨tb, 2, none⟩ = some (.bool false) := hT2'.cell 2
  have b3 : w2.cell? ⟨tb, 3, none⟩ = some (.int .u64 0) := hT2'.cell 3
  have b4 : w2.cell? ⟨tb, 4, none⟩ = some (.int .u64 0) := hT2'.cell 4
  have b5 : w2.cell? ⟨tb, 5, none⟩ = some (.int .u64 0) := hT2'.cell 5
  have b6 : w2.cell? ⟨tb, 6, none⟩ = some (.int .u64 0) := hT2'.cell 6
  have b7 : w2.cell? ⟨tb, 7, none⟩ = some (.bool false) := hT2'.cell 7
  have b8 : w2.cell? ⟨tb, 8, none⟩ = some (.string ⟨#[]⟩) := hT2'.cell 8
  have b9 : w2.cell? ⟨tb, 9, none⟩ = some (.string ⟨#[]⟩) := hT2'.cell 9
  have b10 : w2.cell? ⟨tb, 10, none⟩ = some (.slice none 0 0) := hT2'.cell 10
  have b11 : w2.cell? ⟨tb, 11, none⟩ = some (.int .i64 c) := hT2'.cell 11
  have k0 : w2.frozen? ⟨tb, 0, none⟩ = false := hT2'.frozen 0
  have k1 : w2.frozen? ⟨tb, 1, none⟩ = false := hT2'.frozen 1
  have k2 : w2.frozen? ⟨tb, 2, none⟩ = false := hT2'.frozen 2
  have k3 : w2.frozen? ⟨tb, 3, none⟩ = false := hT2'.frozen 3
  have k4 : w2.frozen? ⟨tb, 4, none⟩ = false := hT2'.frozen 4
  have k5 : w2.frozen? ⟨tb, 5, none⟩ = false := hT2'.frozen 5
  have k6 : w2.frozen? ⟨tb, 6, none⟩ = false := hT2'.frozen 6
  have k7 : w2.frozen? ⟨tb, 7, none⟩ = false := hT2'.frozen 7
  have k8 : w2.frozen? ⟨tb, 8, none⟩ = false := hT2'.frozen 8
  have k9 : w2.frozen? ⟨tb, 9, none⟩ = false := hT2'.frozen 9
  have k10 : w2.frozen? ⟨tb, 10, none⟩ = false := hT2'.frozen 10
  have k11 : w2.frozen? ⟨tb, 11, none⟩ = false := hT2'.frozen 11
  have hl2 := hT2'.lt
  clear ho hst hO hT1 hT2 hT2' hM2
  go_wp2_with fail
  refine bodyPost_ret (results_cell_row rfl _ _ tb 55 (⟨0, ⟨#[]⟩, false, fr0, c⟩ : Said).cells (0, 0) _ rfl ?_ Tryz.underlying55 rfl (by kernel_rfl)) rfl ?_
  · exact put12_blk HT2.out rfl _ _ _ _ _ _ _ _ _ _ _ _
  · refine ⟨⟨0, ⟨#[]⟩, false, fr0, c⟩, _, rfl, .stop HK.out c s' HHo.out, ?_⟩
    exact own_key h0 (HSB.out.trans (SStep.besideOf htb HBB.out HSt.out (put12_mod (g := tb) HM2.out (.inl (List.mem_singleton.2 rfl)) _ _ _ _ _ _ _ _ _ _ _ _))) (HOk.out.mono (by omega))
set_option maxRecDepth 100000 in
set_option maxHeartbeats 4000000 in
theorem own_play_got {K : Nat} {W w : World} {sb : Nat} {s : Ss} (h0 : Own K W w sb s) (hK : K ≤ 64000) (x : SAct) (hok : x.OK) (hlg : x.large = false) (hq5 : x.kind = 5) :
    Calls Tryz.prog 18 #[.pointer (some ⟨sb, 0, none⟩), x.val] w fun e w' => ∃ o s', e = .returned (.agg o.cells) ∧ s.Plays x o s' ∧ SStep w sb s s' w' ∧ Own (K + 200) W w' sb s' := by
  have hl := x.large_no hlg
  have hl1' := hl.1
  have hl2' := hl.2
  have hMB : Mod [] w (w.alloc (.cells #[.int .i64 x.kind, .int .i64 x.n, .int .u64 (x.id : Nat), .int .u64 (x.code : Nat), .string x.text, .bool x.fin, .int .u64 (x.fr.f.kind : Nat), .int .u64 (x.fr.f.a : Nat), .int .u64 (x.fr.f.b : Nat), .int .u64 (x.fr.f.c : Nat), .bool x.fr.f.fin, .string x.fr.f.data, .string x.fr.f.more, .slice x.fr.A x.fr.f.list.length x.fr.c, .int .u64 (x.lim.data : Int), .int .u64 (x.lim.bl : Int), .int .u64 (x.lim.br : Int), .int .u64 (x.lim.un : Int), .int .u64 (x.lim.bidis : Int), .int .u64 (x.lim.unis : Int)] 52)) := (Mod.refl [] w).alloc _
  have hNB := Blk.new w 52 #[.int .i64 x.kind, .int .i64 x.n, .int .u64 (x.id : Nat), .int .u64 (x.code : Nat), .string x.text, .bool x.fin, .int .u64 (x.fr.f.kind : Nat), .int .u64 (x.fr.f.a : Nat), .int .u64 (x.fr.f.b : Nat), .int .u64 (x.fr.f.c : Nat), .bool x.fr.f.fin, .string x.fr.f.data, .string x.fr.f.more, .slice x.fr.A x.fr.f.list.length x.fr.c, .int .u64 (x.lim.data : Int), .int .u64 (x.lim.bl : Int), .int .u64 (x.lim.br : Int), .int .u64 (x.lim.un : Int), .int .u64 (x.lim.bidis : Int), .int .u64 (x.lim.unis : Int)]
  obtain ⟨wB, hwB⟩ : ∃ wB, w.alloc (.cells #[.int .i64 x.kind, .int .i64 x.n, .int .u64 (x.id : Nat), .int .u64 (x.code : Nat), .string x.text, .bool x.fin, .int .u64 (x.fr.f.kind : Nat), .int .u64 (x.fr.f.a : Nat), .int .u64 (x.fr.f.b : Nat), .int .u64 (x.fr.f.c : Nat), .bool x.fr.f.fin, .string x.fr.f.data, .string x.fr.f.more, .slice x.fr.A x.fr.f.list.length x.fr.c, .int .u64 (x.lim.data : Int), .int .u64 (x.lim.bl : Int), .int .u64 (x.lim.br : Int), .int .u64 (x.lim.un : Int), .int .u64 (x.lim.bidis : Int), .int .u64 (x.lim.unis : Int)] 52) = wB := ⟨_, rfl⟩
  rw [hwB] at hMB hNB
  have hOB := h0.next hMB
  have HSB : Hid (SStep w sb s s wB) := hide (SStep.refl h0.box hMB)
  have HBB := hide hOB.box
  have hMC : Mod [] wB (wB.alloc (.cells #[.int .u64 0, .string ⟨#[]⟩, .bool false, .int .u64 0, .int .u64 0, .int .u64 0, .int .u64 0, .bool false, .string ⟨#[]⟩, .string ⟨#[]⟩, .slice none 0 0, .int .i64 0] 55)) := (Mod.refl [] wB).alloc _
  have hNC := Blk.new wB 55 #[.int .u64 0, .string ⟨#[]⟩, .bool false, .int .u64 0, .int .u64 0, .int .u64 0, .int .u64 0, .bool false, .string ⟨#[]⟩, .string ⟨#[]⟩, .slice none 0 0, .int .i64 0]
  have hnin := beside_new' hOB.box
  obtain ⟨tb, htb⟩ : ∃ tb, wB.heap.size = tb := ⟨_, rfl⟩
  have hSC := SStep.refl hOB.box hMC
  have hOC := hOB.next hMC
  have hXC := hMC.blk hNB (by simp)
  rw [htb] at hNC hnin
  have HT := hide hNC
  have HNin := hide hnin
  have HO := hide hOC
  have x0 : (wB.alloc (.cells #[.int .u64 0, .string ⟨#[]⟩, .bool false, .int .u64 0, .int .u64 0, .int .u64 0, .int .u64 0, .bool false, .string ⟨#[]⟩, .string ⟨#[]⟩, .slice none 0 0, .int .i64 0] 55)).cell? ⟨w.heap.size, 0, none⟩ = some (.int .i64 x.kind) := hXC.cell 0
  have x1 : (wB.alloc (.cells #[.int .u64 0, .string ⟨#[]⟩, .bool false, .int .u64 0, .int .u64 0, .int .u64 0, .int .u64 0, .bool false, .string ⟨#[]⟩, .string ⟨#[]⟩, .slice none 0 0, .int .i64 0] 55)).cell? ⟨w.heap.size, 1, none⟩ = some (.int .i64 x.n) := hXC.cell 1
  have x2 : (wB.alloc (.cells #[.int .u64 0, .string ⟨#[]⟩, .bool false, .int .u64 0, .int .u64 0, .int .u64 0, .int .u64 0, .bool false, .string ⟨#[]⟩, .string ⟨#[]⟩, .slice none 0 0, .int .i64 0] 55)).cell? ⟨w.heap.size, 2, none⟩ = some (.int .u64 (x.id : Nat)) := hXC.cell 2
  have x3 : (wB.alloc (.cells #[.int .u64 0, .string ⟨#[]⟩, .bool false, .int .u64 0, .int .u64 0, .int .u64 0, .int .u64 0, .bool false, .string ⟨#[]⟩, .string ⟨#[]⟩, .slice none 0 0, .int .i64 0] 55)).cell? ⟨w.heap.size, 3, none⟩ = some (.int .u64 (x.code : Nat)) := hXC.cell 3
  have x4 : (wB.alloc (.cells #[.int .u64 0, .string ⟨#[]⟩, .bool false, .int .u64 0, .int .u64 0, .int .u64 0, .int .u64 0, .bool false, .string ⟨#[]⟩, .string ⟨#[]⟩, .slice none 0 0, .int .i64 0] 55)).cell? ⟨w.heap.size, 4, none⟩ = some (.string x.text) := hXC.cell 4
  have x5 : (wB.alloc (.cells #[.int .u64 0, .string ⟨#[]⟩, .bool false, .int .u64 0, .int .u64 0, .int .u64 0, .int .u64 0, .bool false, .string ⟨#[]⟩, .string ⟨#[]⟩, .slice none 0 0, .int .i64 0] 55)).cell? ⟨w.heap.size, 5, none⟩ = some (.bool x.fin) := hXC.cell 5
  have x6 : (wB.alloc (.cells #[.int .u64 0, .string ⟨#[]⟩, .bool false, .int .u64 0, .int .u64 0, .int .u64 0, .int .u64 0, .bool false, .string ⟨#[]⟩, .string ⟨#[]⟩, .slice none 0 0, .int .i64 0] 55)).cell? ⟨w.heap.size, 6, none⟩ = some (.int .u64 (x.fr.f.kind : Nat)) := hXC.cell 6
  have x7 : (wB.alloc (.cells #[.int .u64 0, .string ⟨#[]⟩, .bool false, .int .u64 0, .int .u64 0, .int .u64 0, .int .u64 0, .bool false, .string ⟨#[]⟩, .string ⟨#[]⟩, .slice none 0 0, .int .i64 0] 55)).cell? ⟨w.heap.size, 7, none⟩ = some (.int .u64 (x.fr.f.a : Nat)) := hXC.cell 7
  have x8 : (wB.alloc (.cells #[.int .u64 0, .string ⟨#[]⟩, .bool false, .int .u64 0, .int .u64 0, .int .u64 0, .int .u64 0, .bool false, .string ⟨#[]⟩, .string ⟨#[]⟩, .slice none 0 0, .int .i64 0] 55)).cell? ⟨w.heap.size, 8, none⟩ = some (.int .u64 (x.fr.f.b : Nat)) := hXC.cell 8
  have x9 : (wB.alloc (.cells #[.int .u64 0, .string ⟨#[]⟩, .bool false, .int .u64 0, .int .u64 0, .int .u64 0, .int .u64 0, .bool false, .string ⟨#[]⟩, .string ⟨#[]⟩, .slice none 0 0, .int .i64 0] 55)).cell? ⟨w.heap.size, 9, none⟩ = some (.int .u64 (x.fr.f.c : Nat)) := hXC.cell 9
  have x10 : (wB.alloc (.cells #[.int .u64 0, .string ⟨#[]⟩, .bool false, .int .u64 0, .int .u64 0, .int .u64 0, .int .u64 0, .bool false, .string ⟨#[]⟩, .string ⟨#[]⟩, .slice none 0 0, .int .i64 0] 55)).cell? ⟨w.heap.size, 10, none⟩ = some (.bool x.fr.f.fin) := hXC.cell 10
  have x11 : (wB.alloc (.cells #[.int .u64 0, .string ⟨#[]⟩, .bool false, .int .u64 0, .int .u64 0, .int .u64 0, .int .u64 0, .bool false, .string ⟨#[]⟩, .string ⟨#[]⟩, .slice none 0 0, .int .i64 0] 55)).cell? ⟨w.heap.size, 11, none⟩ = some (.string x.fr.f.data) := hXC.cell 11
  have x12 : (wB.alloc (.cells #[.int .u64 0, .string ⟨#[]⟩, .bool false, .int .u64 0, .int .u64 0, .int .u64 0, .int .u64 0, .bool false, .string ⟨#[]⟩, .string ⟨#[]⟩, .slice none 0 0, .int .i64 0] 55)).cell? ⟨w.heap.size, 12, none⟩ = some (.string x.fr.f.more) := hXC.cell 12
  have x13 : (wB.alloc (.cells #[.int .u64 0, .string ⟨#[]⟩, .bool false, .int .u64 0, .int .u64 0, .int .u64 0, .int .u64 0, .bool false, .string ⟨#[]⟩, .string ⟨#[]⟩, .slice none 0 0, .int .i64 0] 55)).cell? ⟨w.heap.size, 13, none⟩ = some (.slice x.fr.A x.fr.f.list.length x.fr.c) := hXC.cell 13
  have x14 : (wB.alloc (.cells #[.int .u64 0, .string ⟨#[]⟩, .bool false, .int .u64 0, .int .u64 0, .int .u64 0, .int .u64 0, .bool false, .string ⟨#[]⟩, .string ⟨#[]⟩, .slice none 0 0, .int .i64 0] 55)).cell? ⟨w.heap.size, 14, none⟩ = some (.int .u64 (x.lim.data : Int)) := hXC.cell 14
  have x15 : (wB.alloc (.cells #[.int .u64 0, .string ⟨#[]⟩, .bool false, .int .u64 0, .int .u64 0, .int .u64 0, .int .u64 0, .bool false, .string ⟨#[]⟩, .string ⟨#[]⟩, .slice none 0 0, .int .i64 0] 55)).cell? ⟨w.heap.size, 15, none⟩ = some (.int .u64 (x.lim.bl : Int)) := hXC.cell 15
  have x16 : (wB.alloc (.cells #[.int .u64 0, .string ⟨#[]⟩, .bool false, .int .u64 0, .int .u64 0, .int .u64 0, .int .u64 0, .bool false, .string ⟨#[]⟩, .string ⟨#[]⟩, .slice none 0 0, .int .i64 0] 55)).cell? ⟨w.heap.size, 16, none⟩ = some (.int .u64 (x.lim.br : Int)) := hXC.cell 16
  have x17 : (wB.alloc (.cells #[.int .u64 0, .string ⟨#[]⟩, .bool false, .int .u64 0, .int .u64 0, .int .u64 0, .int .u64 0, .bool false, .string ⟨#[]⟩, .string ⟨#[]⟩, .slice none 0 0, .int .i64 0] 55)).cell? ⟨w.heap.size, 17, none⟩ = some (.int .u64 (x.lim.un : Int)) := hXC.cell 17
  have x18 : (wB.alloc (.cells #[.int .u64 0, .string ⟨#[]⟩, .bool false, .int .u64 0, .int .u64 0, .int .u64 0, .int .u64 0, .bool false, .string ⟨#[]⟩, .string ⟨#[]⟩, .slice none 0 0, .int .i64 0] 55)).cell? ⟨w.heap.size, 18, none⟩ = some (.int .u64 (x.lim.bidis : Int)) := hXC.cell 18
  have x19 : (wB.alloc (.cells #[.int .u64 0, .string ⟨#[]⟩, .bool false, .int .u64 0, .int .u64 0, .int .u64 0, .int .u64 0, .bool false, .string ⟨#[]⟩, .string ⟨#[]⟩, .slice none 0 0, .int .i64 0] 55)).cell? ⟨w.heap.size, 19, none⟩ = some (.int .u64 (x.lim.unis : Int)) := hXC.cell 19
  have hwl := hNB.lt
  clear hl hMB hNB hOB hMC hNC hnin hSC hOC hXC
  unfold SAct.val
  have HK := hide hq5
  have hk0 : (x.kind == 0) = false := by rw [HK.out]; rfl
  have hk1 : (x.kind == 1) = false := by rw [HK.out]; rfl
  have hk2 : (x.kind == 2) = false := by rw [HK.out]; rfl
  have hk3 : (x.kind == 3) = false := by rw [HK.out]; rfl
  have hk4 : (x.kind == 4) = false := by rw [HK.out]; rfl
  have hk5 : (x.kind == 5) = true := by rw [HK.out]; rfl
  have hk6 : (x.kind == 6) = false := by rw [HK.out]; rfl
  have hk7 : (x.kind == 7) = false := by rw [HK.out]; rfl
  have hk8 : (x.kind == 8) = false := by rw [HK.out]; rfl
  have hk9 : (x.kind == 9) = false := by rw [HK.out]; rfl
  have hct := own_got HO.out (by omega) x.fr.A x.fr.f.list.length x.fr.c x.fr.f hok.fr.kind hok.fr.a hok.fr.b hok.fr.c (by omega)
  unfold fval fcs at hct
  have HCt := hide hct
  clear hq5 hct
  go_enter Tryz.func18, Tryz.ntmps18
  go_wp2_with fail
  refine HCt.out.mono ?_
  rintro e w1 ⟨c, s', rfl, ho, hst, hO⟩
  have hT1 : Blk w1 tb 55 #[.int .u64 0, .string ⟨#[]⟩, .bool false, .int .u64 0, .int .u64 0, .int .u64 0, .int .u64 0, .bool false, .string ⟨#[]⟩, .string ⟨#[]⟩, .slice none 0 0, .int .i64 0] := hst.2.1.blk HT.out HNin.out
  have HHo := hide ho
  have HSt := hide hst
  have HOk := hide hO.ok
  have hT2 := (hT1.set_ 11 (.int .i64 c))
  have hM2 := ((Mod.refl [tb] w1).setCell (p := ⟨tb, 11, none⟩) (.inl (by simp)) (.int .i64 c))
  have g0 : w1.frozen? ⟨tb, 0, none⟩ = false := hT1.frozen 0
  have g1 : w1.frozen? ⟨tb, 1, none⟩ = false := hT1.frozen 1
  have g2 : w1.frozen? ⟨tb, 2, none⟩ = false := hT1.frozen 2
  have g3 : w1.frozen? ⟨tb, 3, none⟩ = false := hT1.frozen 3
  have g4 : w1.frozen? ⟨tb, 4, none⟩ = false := hT1.frozen 4
  have g5 : w1.frozen? ⟨tb, 5, none⟩ = false := hT1.frozen 5
  have g6 : w1.frozen? ⟨tb, 6, none⟩ = false := hT1.frozen 6
  have g7 : w1.frozen? ⟨tb, 7, none⟩ = false := hT1.frozen 7
  have g8 : w1.frozen? ⟨tb, 8, none⟩ = false := hT1.frozen 8
  have g9 : w1.frozen? ⟨tb, 9, none⟩ = false := hT1.frozen 9
  have g10 : w1.frozen? ⟨tb, 10, none⟩ = false := hT1.frozen 10
  have g11 : w1.frozen? ⟨tb, 11, none⟩ = false := hT1.frozen 11
  have a0 : w1.cell? ⟨tb, 0, none⟩ = some (.int .u64 0) := hT1.cell 0
  have a1 : w1.cell? ⟨tb, 1, none⟩ = some (.string ⟨#[]⟩) := hT1.cell 1
  have a2 : w1.cell? ⟨tb, 2, none⟩ = some (.bool false) := hT1.cell 2
  have a3 : w1.cell? ⟨tb, 3, none⟩ = some (.int .u64 0) := hT1.cell 3
  have a4 : w1.cell? ⟨tb, 4, none⟩ = some (.int .u64 0) := hT1.cell 4
  have a5 : w1.cell? ⟨tb, 5, none⟩ = some (.int .u64 0) := hT1.cell 5
  have a6 : w1.cell? ⟨tb, 6, none⟩ = some (.int .u64 0) := hT1.cell 6
  have a7 : w1.cell? ⟨tb, 7, none⟩ = some (.bool false) := hT1.cell 7
  have a8 : w1.cell? ⟨tb, 8, none⟩ = some (.string ⟨#[]⟩) := hT1.cell 8
  have a9 : w1.cell? ⟨tb, 9, none⟩ = some (.string ⟨#[]⟩) := hT1.cell 9
  have a10 : w1.cell? ⟨tb, 10, none⟩ = some (.slice none 0 0) := hT1.cell 10
  have a11 : w1.cell? ⟨tb, 11, none⟩ = some (.int .i64 0) := hT1.cell 11
  have hl1 := hT1.lt
  obtain ⟨w2, hw2⟩ : ∃ w2, (w1.setCell ⟨tb, 11, none⟩ (.int .i64 c)) = w2 := ⟨_, rfl⟩
  rw [hw2] at hT2 hM2
  have HT2 : Hid (Blk w2 tb 55 #[.int .u64 0, .string ⟨#[]⟩, .bool false, .int .u64 0, .int .u64 0, .int .u64 0, .int .u64 0, .bool false, .string ⟨#[]⟩, .string ⟨#[]⟩, .slice none 0 0, .int .i64 c]) := hide hT2
  have HM2 := hide hM2
  have hT2' := HT2.out
  have b0 : w2.cell? ⟨tb, 0, none⟩ = some (.int .u64 0) := hT2'.cell 0
  have b1 : w2.cell? ⟨tb, 1, none⟩ = some (.string ⟨#[]⟩) := hT2'.cell 1
  have b2 : w2.cell? ⟨tb, 2, none⟩ = some (.bool false) := hT2'.cell 2
  have b3 : w2.cell? ⟨tb, 3, none⟩ = some (.int .u64 0) := hT2'.cell 3
  have b4 : w2.cell? ⟨tb, 4, none⟩ = some (.int .u64 0) := hT2'.cell 4
  have b5 : w2.cell? ⟨tb, 5, none⟩ = some (.int .u64 0) := hT2'.cell 5
  have b6 : w2.cell? ⟨tb, 6, none⟩ = some (.int .u64 0) := hT2'.cell 6
  have b7 : w2.cell? ⟨tb, 7, none⟩ = some (.bool false) := hT2'.cell 7
  have b8 : w2.cell? ⟨tb, 8, none⟩ = some (.string ⟨#[]⟩) := hT2'.cell 8
  have b9 : w2.cell? ⟨tb, 9, none⟩ = some (.string ⟨#[]⟩) := hT2'.cell 9
  have b10 : w2.cell? ⟨tb, 10, none⟩ = some (.slice none 0 0) := hT2'.cell 10
  have b11 : w2.cell? ⟨tb, 11, none⟩ = some (.int .i64 c) := hT2'.cell 11
  have k0 : w2.frozen? ⟨tb, 0, none⟩ = false := hT2'.frozen 0
  have k1 : w2.frozen? ⟨tb, 1, none⟩ = false := hT2'.frozen 1
  have k2 : w2.frozen? ⟨tb, 2, none⟩ = false := hT2'.frozen 2
  have k3 : w2.frozen? ⟨tb, 3, none⟩ = false := hT2'.frozen 3
  have k4 : w2.frozen? ⟨tb, 4, none⟩ = false := hT2'.frozen 4
  have k5 : w2.frozen? ⟨tb, 5, none⟩ = false := hT2'.frozen 5
  have k6 : w2.frozen? ⟨tb, 6, none⟩ = false := hT2'.frozen 6
  have k7 : w2.frozen? ⟨tb, 7, none⟩ = false := hT2'.frozen 7
  have k8 : w2.frozen? ⟨tb, 8, none⟩ = false := hT2'.frozen 8
  have k9 : w2.frozen? ⟨tb, 9, none⟩ = false := hT2'.frozen 9
  have k10 : w2.frozen? ⟨tb, 10, none⟩ = false := hT2'.frozen 10
  have k11 : w2.frozen? ⟨tb, 11, none⟩ = false := hT2'.frozen 11
  have hl2 := hT2'.lt
  clear ho hst hO hT1 hT2 hT2' hM2
  go_wp2_with fail
  refine bodyPost_ret (results_cell_row rfl _ _ tb 55 (⟨0, ⟨#[]⟩, false, fr0, c⟩ : Said).cells (0, 0) _ rfl ?_ Tryz.underlying55 rfl (by kernel_rfl)) rfl ?_
  · exact put12_blk HT2.out rfl _ _ _ _ _ _ _ _ _ _ _ _
  · refine ⟨⟨0, ⟨#[]⟩, false, fr0, c⟩, _, rfl, .got HK.out c s' HHo.out, ?_⟩
    exact own_key h0 (HSB.out.trans (SStep.besideOf htb HBB.out HSt.out (put12_mod (g := tb) HM2.out (.inl (List.mem_singleton.2 rfl)) _ _ _ _ _ _ _ _ _ _ _ _))) (HOk.out.mono (by omega))
set_option maxRecDepth 100000 in
set_option maxHeartbeats 4000000 in
theorem own_play_next {K : Nat} {W w : World} {sb : Nat} {s : Ss} (h0 : Own K W w sb s) (hK : K ≤ 64000) (x : SAct) (hok : x.OK) (hlg : x.large = false) (hq6 : x.kind = 6) :
    Calls Tryz.prog 18 #[.pointer (some ⟨sb, 0, none⟩), x.val] w fun e w' => ∃ o s', e = .returned (.agg o.cells) ∧ s.Plays x o s' ∧ SStep w sb s s' w' ∧ Own (K + 200) W w' sb s' := by
  have hl := x.large_no hlg
  have hl1' := hl.1
  have hl2' := hl.2
  have hMB : Mod [] w (w.alloc (.cells #[.int .i64 x.kind, .int .i64 x.n, .int .u64 (x.id : Nat), .int .u64 (x.code : Nat), .string x.text, .bool x.fin, .int .u64 (x.fr.f.kind : Nat), .int .u64 (x.fr.f.a : Nat), .int .u64 (x.fr.f.b : Nat), .int .u64 (x.fr.f.c : Nat), .bool x.fr.f.fin, .string x.fr.f.data, .string x.fr.f.more, .slice x.fr.A x.fr.f.list.length x.fr.c, .int .u64 (x.lim.data : Int), .int .u64 (x.lim.bl : Int), .int .u64 (x.lim.br : Int), .int .u64 (x.lim.un : Int), .int .u64 (x.lim.bidis : Int), .int .u64 (x.lim.unis : Int)] 52)) := (Mod.refl [] w).alloc _
  have hNB := Blk.new w 52 #[.int .i64 x.kind, .int .i64 x.n, .int .u64 (x.id : Nat), .int .u64 (x.code : Nat), .string x.text, .bool x.fin, .int .u64 (x.fr.f.kind : Nat), .int .u64 (x.fr.f.a : Nat), .int .u64 (x.fr.f.b : Nat), .int .u64 (x.fr.f.c : Nat), .bool x.fr.f.fin, .string x.fr.f.data, .string x.fr.f.more, .slice x.fr.A x.fr.f.list.length x.fr.c, .int .u64 (x.lim.data : Int), .int .u64 (x.lim.bl : Int), .int .u64 (x.lim.br : Int), .int .u64 (x.lim.un : Int), .int .u64 (x.lim.bidis : Int), .int .u64 (x.lim.unis : Int)]
  obtain ⟨wB, hwB⟩ : ∃ wB, w.alloc (.cells #[.int .i64 x.kind, .int .i64 x.n, .int .u64 (x.id : Nat), .int .u64 (x.code : Nat), .string x.text, .bool x.fin, .int .u64 (x.fr.f.kind : Nat), .int .u64 (x.fr.f.a : Nat), .int .u64 (x.fr.f.b : Nat), .int .u64 (x.fr.f.c : Nat), .bool x.fr.f.fin, .string x.fr.f.data, .string x.fr.f.more, .slice x.fr.A x.fr.f.list.length x.fr.c, .int .u64 (x.lim.data : Int), .int .u64 (x.lim.bl : Int), .int .u64 (x.lim.br : Int), .int .u64 (x.lim.un : Int), .int .u64 (x.lim.bidis : Int), .int .u64 (x.lim.unis : Int)] 52) = wB := ⟨_, rfl⟩
  rw [hwB] at hMB hNB
  have hOB := h0.next hMB
  have HSB : Hid (SStep w sb s s wB) := hide (SStep.refl h0.box hMB)
  have HBB := hide hOB.box
  have hMC : Mod [] wB (wB.alloc (.cells #[.int .u64 0, .string ⟨#[]⟩, .bool false, .int .u64 0, .int .u64 0, .int .u64 0, .int .u64 0, .bool false, .string ⟨#[]⟩, .string ⟨#[]⟩, .slice none 0 0, .int .i64 0] 55)) := (Mod.refl [] wB).alloc _
  have hNC := Blk.new wB 55 #[.int .u64 0, .string ⟨#[]⟩, .bool false, .int .u64 0, .int .u64 0, .int .u64 0, .int .u64 0, .bool false, .string ⟨#[]⟩, .string ⟨#[]⟩, .slice none 0 0, .int .i64 0]
  have hnin := beside_new' hOB.box
  obtain ⟨tb, htb⟩ : ∃ tb, wB.heap.size = tb := ⟨_, rfl⟩
  have hSC := SStep.refl hOB.box hMC
  have hOC := hOB.next hMC
  have hXC := hMC.blk hNB (by simp)
  rw [htb] at hNC hnin
  have HT := hide hNC
  have HNin := hide hnin
  have HO := hide hOC
  have x0 : (wB.alloc (.cells #[.int .u64 0, .string ⟨#[]⟩, .bool false, .int .u64 0, .int .u64 0, .int .u64 0, .int .u64 0, .bool false, .string ⟨#[]⟩, .string ⟨#[]⟩, .slice none 0 0, .int .i64 0] 55)).cell? ⟨w.heap.size, 0, none⟩ = some (.int .i64 x.kind) := hXC.cell 0
  have x1 : (wB.alloc (.cells #[.int .u64 0, .string ⟨#[]⟩, .bool false, .int .u64 0, .int .u64 0, .int .u64 0, .int .u64 0, .bool false, .string ⟨#[]⟩, .string ⟨#[]⟩, .slice none 0 0, .int .i64 0] 55)).cell? ⟨w.heap.size, 1, none⟩ = some (.int .i64 x.n) := hXC.cell 1
  have x2 : (wB.alloc (.cells #[.int .u64 0, .string ⟨#[]⟩, .bool false, .int .u64 0, .int .u64 0, .int .u64 0, .int .u64 0, .bool false, .string ⟨#[]⟩, .string ⟨#[]⟩, .slice none 0 0, .int .i64 0] 55)).cell? ⟨w.heap.size, 2, none⟩ = some (.int .u64 (x.id : Nat)) := hXC.cell 2
  have x3 : (wB.alloc (.cells #[.int .u64 0, .string ⟨#[]⟩, .bool false, .int .u64 0, .int .u64 0, .int .u64 0, .int .u64 0, .bool false, .string ⟨#[]⟩, .string ⟨#[]⟩, .slice none 0 0, .int .i64 0] 55)).cell? ⟨w.heap.size, 3, none⟩ = some (.int .u64 (x.code : Nat)) := hXC.cell 3
  have x4 : (wB.alloc (.cells #[.int .u64 0, .string ⟨#[]⟩, .bool false, .int .u64 0, .int .u64 0, .int .u64 0, .int .u64 0, .bool false, .string ⟨#[]⟩, .string ⟨#[]⟩, .slice none 0 0, .int .i64 0] 55)).cell? ⟨w.heap.size, 4, none⟩ = some (.string x.text) := hXC.cell 4
  have x5 : (wB.alloc (.cells #[.int .u64 0, .string ⟨#[]⟩, .bool false, .int .u64 0, .int .u64 0, .int .u64 0, .int .u64 0, .bool false, .string ⟨#[]⟩, .string ⟨#[]⟩, .slice none 0 0, .int .i64 0] 55)).cell? ⟨w.heap.size, 5, none⟩ = some (.bool x.fin) := hXC.cell 5
  have x6 : (wB.alloc (.cells #[.int .u64 0, .string ⟨#[]⟩, .bool false, .int .u64 0, .int .u64 0, .int .u64 0, .int .u64 0, .bool false, .string ⟨#[]⟩, .string ⟨#[]⟩, .slice none 0 0, .int .i64 0] 55)).cell? ⟨w.heap.size, 6, none⟩ = some (.int .u64 (x.fr.f.kind : Nat)) := hXC.cell 6
  have x7 : (wB.alloc (.cells #[.int .u64 0, .string ⟨#[]⟩, .bool false, .int .u64 0, .int .u64 0, .int .u64 0, .int .u64 0, .bool false, .string ⟨#[]⟩, .string ⟨#[]⟩, .slice none 0 0, .int .i64 0] 55)).cell? ⟨w.heap.size, 7, none⟩ = some (.int .u64 (x.fr.f.a : Nat)) := hXC.cell 7
  have x8 : (wB.alloc (.cells #[.int .u64 0, .string ⟨#[]⟩, .bool false, .int .u64 0, .int .u64 0, .int .u64 0, .int .u64 0, .bool false, .string ⟨#[]⟩, .string ⟨#[]⟩, .slice none 0 0, .int .i64 0] 55)).cell? ⟨w.heap.size, 8, none⟩ = some (.int .u64 (x.fr.f.b : Nat)) := hXC.cell 8
  have x9 : (wB.alloc (.cells #[.int .u64 0, .string ⟨#[]⟩, .bool false, .int .u64 0, .int .u64 0, .int .u64 0, .int .u64 0, .bool false, .string ⟨#[]⟩, .string ⟨#[]⟩, .slice none 0 0, .int .i64 0] 55)).cell? ⟨w.heap.size, 9, none⟩ = some (.int .u64 (x.fr.f.c : Nat)) := hXC.cell 9
  have x10 : (wB.alloc (.cells #[.int .u64 0, .string ⟨#[]⟩, .bool false, .int .u64 0, .int .u64 0, .int .u64 0, .int .u64 0, .bool false, .string ⟨#[]⟩, .string ⟨#[]⟩, .slice none 0 0, .int .i64 0] 55)).cell? ⟨w.heap.size, 10, none⟩ = some (.bool x.fr.f.fin) := hXC.cell 10
  have x11 : (wB.alloc (.cells #[.int .u64 0, .string ⟨#[]⟩, .bool false, .int .u64 0, .int .u64 0, .int .u64 0, .int .u64 0, .bool false, .string ⟨#[]⟩, .string ⟨#[]⟩, .slice none 0 0, .int .i64 0] 55)).cell? ⟨w.heap.size, 11, none⟩ = some (.string x.fr.f.data) := hXC.cell 11
  have x12 : (wB.alloc (.cells #[.int .u64 0, .string ⟨#[]⟩, .bool false, .int .u64 0, .int .u64 0, .int .u64 0, .int .u64 0, .bool false, .string ⟨#[]⟩, .string ⟨#[]⟩, .slice none 0 0, .int .i64 0] 55)).cell? ⟨w.heap.size, 12, none⟩ = some (.string x.fr.f.more) := hXC.cell 12
  have x13 : (wB.alloc (.cells #[.int .u64 0, .string ⟨#[]⟩, .bool false, .int .u64 0, .int .u64 0, .int .u64 0, .int .u64 0, .bool false, .string ⟨#[]⟩, .string ⟨#[]⟩, .slice none 0 0, .int .i64 0] 55)).cell? ⟨w.heap.size, 13, none⟩ = some (.slice x.fr.A x.fr.f.list.length x.fr.c) := hXC.cell 13
  have x14 : (wB.alloc (.cells #[.int .u64 0, .string ⟨#[]⟩, .bool false, .int .u64 0, .int .u64 0, .int .u64 0, .int .u64 0, .bool false, .string ⟨#[]⟩, .string ⟨#[]⟩, .slice none 0 0, .int .i64 0] 55)).cell? ⟨w.heap.size, 14, none⟩ = some (.int .u64 (x.lim.data : Int)) := hXC.cell 14
  have x15 : (wB.alloc (.cells #[.int .u64 0, .string ⟨#[]⟩, .bool false, .int .u64 0, .int .u64 0, .int .u64 0, .int .u64 0, .bool false, .string ⟨#[]⟩, .string ⟨#[]⟩, .slice none 0 0, .int .i64 0] 55)).cell? ⟨w.heap.size, 15, none⟩ = some (.int .u64 (x.lim.bl : Int)) := hXC.cell 15
  have x16 : (wB.alloc (.cells #[.int .u64 0, .string ⟨#[]⟩, .bool false, .int .u64 0, .int .u64 0, .int .u64 0, .int .u64 0, .bool false, .string ⟨#[]⟩, .string ⟨#[]⟩, .slice none 0 0, .int .i64 0] 55)).cell? ⟨w.heap.size, 16, none⟩ = some (.int .u64 (x.lim.br : Int)) := hXC.cell 16
  have x17 : (wB.alloc (.cells #[.int .u64 0, .string ⟨#[]⟩, .bool false, .int .u64 0, .int .u64 0, .int .u64 0, .int .u64 0, .bool false, .string ⟨#[]⟩, .string ⟨#[]⟩, .slice none 0 0, .int .i64 0] 55)).cell? ⟨w.heap.size, 17, none⟩ = some (.int .u64 (x.lim.un : Int)) := hXC.cell 17
  have x18 : (wB.alloc (.cells #[.int .u64 0, .string ⟨#[]⟩, .bool false, .int .u64 0, .int .u64 0, .int .u64 0, .int .u64 0, .bool false, .string ⟨#[]⟩, .string ⟨#[]⟩, .slice none 0 0, .int .i64 0] 55)).cell? ⟨w.heap.size, 18, none⟩ = some (.int .u64 (x.lim.bidis : Int)) := hXC.cell 18
  have x19 : (wB.alloc (.cells #[.int .u64 0, .string ⟨#[]⟩, .bool false, .int .u64 0, .int .u64 0, .int .u64 0, .int .u64 0, .bool false, .string ⟨#[]⟩, .string ⟨#[]⟩, .slice none 0 0, .int .i64 0] 55)).cell? ⟨w.heap.size, 19, none⟩ = some (.int .u64 (x.lim.unis : Int)) := hXC.cell 19
  have hwl := hNB.lt
  clear hl hMB hNB hOB hMC hNC hnin hSC hOC hXC
  unfold SAct.val
  have HK := hide hq6
  have hk0 : (x.kind == 0) = false := by rw [HK.out]; rfl
  have hk1 : (x.kind == 1) = false := by rw [HK.out]; rfl
  have hk2 : (x.kind == 2) = false := by rw [HK.out]; rfl
  have hk3 : (x.kind == 3) = false := by rw [HK.out]; rfl
  have hk4 : (x.kind == 4) = false := by rw [HK.out]; rfl
  have hk5 : (x.kind == 5) = false := by rw [HK.out]; rfl
  have hk6 : (x.kind == 6) = true := by rw [HK.out]; rfl
  have hk7 : (x.kind == 7) = false := by rw [HK.out]; rfl
  have hk8 : (x.kind == 8) = false := by rw [HK.out]; rfl
  have hk9 : (x.kind == 9) = false := by rw [HK.out]; rfl
  have hct := own_next HO.out x.n hok.n1 hok.n2
  unfold fval fcs at hct
  have HCt := hide hct
  clear hq6 hct
  go_enter Tryz.func18, Tryz.ntmps18
  go_wp2_with fail
  refine HCt.out.mono ?_
  rintro e w1 ⟨ff, is, s', rfl, ho, hst, hO⟩
  have hT1 : Blk w1 tb 55 #[.int .u64 0, .string ⟨#[]⟩, .bool false, .int .u64 0, .int .u64 0, .int .u64 0, .int .u64 0, .bool false, .string ⟨#[]⟩, .string ⟨#[]⟩, .slice none 0 0, .int .i64 0] := hst.2.1.blk HT.out HNin.out
  have HHo := hide ho
  have HSt := hide hst
  have HOk := hide hO.ok
  have g0 : w1.frozen? ⟨tb, 0, none⟩ = false := hT1.frozen 0
  have g1 : w1.frozen? ⟨tb, 1, none⟩ = false := hT1.frozen 1
  have g2 : w1.frozen? ⟨tb, 2, none⟩ = false := hT1.frozen 2
  have g3 : w1.frozen? ⟨tb, 3, none⟩ = false := hT1.frozen 3
  have g4 : w1.frozen? ⟨tb, 4, none⟩ = false := hT1.frozen 4
  have g5 : w1.frozen? ⟨tb, 5, none⟩ = false := hT1.frozen 5
  have g6 : w1.frozen? ⟨tb, 6, none⟩ = false := hT1.frozen 6
  have g7 : w1.frozen? ⟨tb, 7, none⟩ = false := hT1.frozen 7
  have g8 : w1.frozen? ⟨tb, 8, none⟩ = false := hT1.frozen 8
  have g9 : w1.frozen? ⟨tb, 9, none⟩ = false := hT1.frozen 9
  have g10 : w1.frozen? ⟨tb, 10, none⟩ = false := hT1.frozen 10
  have g11 : w1.frozen? ⟨tb, 11, none⟩ = false := hT1.frozen 11
  have a0 : w1.cell? ⟨tb, 0, none⟩ = some (.int .u64 0) := hT1.cell 0
  have a1 : w1.cell? ⟨tb, 1, none⟩ = some (.string ⟨#[]⟩) := hT1.cell 1
  have a2 : w1.cell? ⟨tb, 2, none⟩ = some (.bool false) := hT1.cell 2
  have a3 : w1.cell? ⟨tb, 3, none⟩ = some (.int .u64 0) := hT1.cell 3
  have a4 : w1.cell? ⟨tb, 4, none⟩ = some (.int .u64 0) := hT1.cell 4
  have a5 : w1.cell? ⟨tb, 5, none⟩ = some (.int .u64 0) := hT1.cell 5
  have a6 : w1.cell? ⟨tb, 6, none⟩ = some (.int .u64 0) := hT1.cell 6
  have a7 : w1.cell? ⟨tb, 7, none⟩ = some (.bool false) := hT1.cell 7
  have a8 : w1.cell? ⟨tb, 8, none⟩ = some (.string ⟨#[]⟩) := hT1.cell 8
  have a9 : w1.cell? ⟨tb, 9, none⟩ = some (.string ⟨#[]⟩) := hT1.cell 9
  have a10 : w1.cell? ⟨tb, 10, none⟩ = some (.slice none 0 0) := hT1.cell 10
  have a11 : w1.cell? ⟨tb, 11, none⟩ = some (.int .i64 0) := hT1.cell 11
  have hl1 := hT1.lt
  have HT2 : Hid (Blk ((((((((((w1.setCell ⟨tb, 3, none⟩ (.int .u64 (ff.kind : Nat))).setCell ⟨tb, 4, none⟩ (.int .u64 (ff.a : Nat))).setCell ⟨tb, 5, none⟩ (.int .u64 (ff.b : Nat))).setCell ⟨tb, 6, none⟩ (.int .u64 (ff.c : Nat))).setCell ⟨tb, 7, none⟩ (.bool ff.fin)).setCell ⟨tb, 8, none⟩ (.string ff.data)).setCell ⟨tb, 9, none⟩ (.string ff.more)).setCell ⟨tb, 10, none⟩ (.slice none 0 0)).setCell ⟨tb, 2, none⟩ (.bool is))) tb 55 #[.int .u64 0, .string ⟨#[]⟩, .bool is, .int .u64 (ff.kind : Nat), .int .u64 (ff.a : Nat), .int .u64 (ff.b : Nat), .int .u64 (ff.c : Nat), .bool ff.fin, .string ff.data, .string ff.more, .slice none 0 0, .int .i64 0]) := hide (by
    have hb := hT1.sets (fun i => (#[.int .u64 0, .string ⟨#[]⟩, .bool is, .int .u64 (ff.kind : Nat), .int .u64 (ff.a : Nat), .int .u64 (ff.b : Nat), .int .u64 (ff.c : Nat), .bool ff.fin, .string ff.data, .string ff.more, .slice none 0 0, .int .i64 0] : Array Value).getD i undef) [3, 4, 5, 6, 7, 8, 9, 10, 2]
    rw [setsL_eq _ _ 12 _ rfl rfl (fun i hi hm => by
      simp only [List.mem_cons, List.not_mem_nil, or_false, not_or] at hm
      have : i = 0 ∨ i = 1 ∨ i = 11 := by omega
      rcases this with rfl | rfl | rfl <;> rfl)] at hb
    exact hb)
  have HM2 : Hid (Mod [tb] w1 (((((((((w1.setCell ⟨tb, 3, none⟩ (.int .u64 (ff.kind : Nat))).setCell ⟨tb, 4, none⟩ (.int .u64 (ff.a : Nat))).setCell ⟨tb, 5, none⟩ (.int .u64 (ff.b : Nat))).setCell ⟨tb, 6, none⟩ (.int .u64 (ff.c : Nat))).setCell ⟨tb, 7, none⟩ (.bool ff.fin)).setCell ⟨tb, 8, none⟩ (.string ff.data)).setCell ⟨tb, 9, none⟩ (.string ff.more)).setCell ⟨tb, 10, none⟩ (.slice none 0 0)).setCell ⟨tb, 2, none⟩ (.bool is))) := hide ((Mod.refl [tb] w1).sets (.inl (List.mem_singleton.2 rfl)) (fun i => (#[.int .u64 0, .string ⟨#[]⟩, .bool is, .int .u64 (ff.kind : Nat), .int .u64 (ff.a : Nat), .int .u64 (ff.b : Nat), .int .u64 (ff.c : Nat), .bool ff.fin, .string ff.data, .string ff.more, .slice none 0 0, .int .i64 0] : Array Value).getD i undef) [3, 4, 5, 6, 7, 8, 9, 10, 2])
  clear ho hst hO hT1
  go_wp2_with fail
  refine bodyPost_ret (results_cell_row rfl _ _ tb 55 (⟨0, ⟨#[]⟩, is, ff, 0⟩ : Said).cells (0, 0) _ rfl ?_ Tryz.underlying55 rfl (by kernel_rfl)) rfl ?_
  · exact put12_blk HT2.out rfl _ _ _ _ _ _ _ _ _ _ _ _
  · refine ⟨⟨0, ⟨#[]⟩, is, ff, 0⟩, _, rfl, .next HK.out ff is s' HHo.out, ?_⟩
    exact own_key h0 (HSB.out.trans (SStep.besideOf htb HBB.out HSt.out (put12_mod (g := tb) HM2.out (.inl (List.mem_singleton.2 rfl)) _ _ _ _ _ _ _ _ _ _ _ _))) (HOk.out.mono (by omega))
set_option maxRecDepth 100000 in
set_option maxHeartbeats 4000000 in
theorem own_play_acked {K : Nat} {W w : World} {sb : Nat} {s : Ss} (h0 : Own K W w sb s) (hK : K ≤ 64000) (x : SAct) (hok : x.OK) (hlg : x.large = false) (hq7 : x.kind = 7) :
    Calls Tryz.prog 18 #[.pointer (some ⟨sb, 0, none⟩), x.val] w fun e w' => ∃ o s', e = .returned (.agg o.cells) ∧ s.Plays x o s' ∧ SStep w sb s s' w' ∧ Own (K + 200) W w' sb s' := by
  have hl := x.large_no hlg
  have hl1' := hl.1
  have hl2' := hl.2
  have hMB : Mod [] w (w.alloc (.cells #[.int .i64 x.kind, .int .i64 x.n, .int .u64 (x.id : Nat), .int .u64 (x.code : Nat), .string x.text, .bool x.fin, .int .u64 (x.fr.f.kind : Nat), .int .u64 (x.fr.f.a : Nat), .int .u64 (x.fr.f.b : Nat), .int .u64 (x.fr.f.c : Nat), .bool x.fr.f.fin, .string x.fr.f.data, .string x.fr.f.more, .slice x.fr.A x.fr.f.list.length x.fr.c, .int .u64 (x.lim.data : Int), .int .u64 (x.lim.bl : Int), .int .u64 (x.lim.br : Int), .int .u64 (x.lim.un : Int), .int .u64 (x.lim.bidis : Int), .int .u64 (x.lim.unis : Int)] 52)) := (Mod.refl [] w).alloc _
  have hNB := Blk.new w 52 #[.int .i64 x.kind, .int .i64 x.n, .int .u64 (x.id : Nat), .int .u64 (x.code : Nat), .string x.text, .bool x.fin, .int .u64 (x.fr.f.kind : Nat), .int .u64 (x.fr.f.a : Nat), .int .u64 (x.fr.f.b : Nat), .int .u64 (x.fr.f.c : Nat), .bool x.fr.f.fin, .string x.fr.f.data, .string x.fr.f.more, .slice x.fr.A x.fr.f.list.length x.fr.c, .int .u64 (x.lim.data : Int), .int .u64 (x.lim.bl : Int), .int .u64 (x.lim.br : Int), .int .u64 (x.lim.un : Int), .int .u64 (x.lim.bidis : Int), .int .u64 (x.lim.unis : Int)]
  obtain ⟨wB, hwB⟩ : ∃ wB, w.alloc (.cells #[.int .i64 x.kind, .int .i64 x.n, .int .u64 (x.id : Nat), .int .u64 (x.code : Nat), .string x.text, .bool x.fin, .int .u64 (x.fr.f.kind : Nat), .int .u64 (x.fr.f.a : Nat), .int .u64 (x.fr.f.b : Nat), .int .u64 (x.fr.f.c : Nat), .bool x.fr.f.fin, .string x.fr.f.data, .string x.fr.f.more, .slice x.fr.A x.fr.f.list.length x.fr.c, .int .u64 (x.lim.data : Int), .int .u64 (x.lim.bl : Int), .int .u64 (x.lim.br : Int), .int .u64 (x.lim.un : Int), .int .u64 (x.lim.bidis : Int), .int .u64 (x.lim.unis : Int)] 52) = wB := ⟨_, rfl⟩
  rw [hwB] at hMB hNB
  have hOB := h0.next hMB
  have HSB : Hid (SStep w sb s s wB) := hide (SStep.refl h0.box hMB)
  have HBB := hide hOB.box
  have hMC : Mod [] wB (wB.alloc (.cells #[.int .u64 0, .string ⟨#[]⟩, .bool false, .int .u64 0, .int .u64 0, .int .u64 0, .int .u64 0, .bool false, .string ⟨#[]⟩, .string ⟨#[]⟩, .slice none 0 0, .int .i64 0] 55)) := (Mod.refl [] wB).alloc _
  have hNC := Blk.new wB 55 #[.int .u64 0, .string ⟨#[]⟩, .bool false, .int .u64 0, .int .u64 0, .int .u64 0, .int .u64 0, .bool false, .string ⟨#[]⟩, .string ⟨#[]⟩, .slice none 0 0, .int .i64 0]
  have hnin := beside_new' hOB.box
  obtain ⟨tb, htb⟩ : ∃ tb, wB.heap.size = tb := ⟨_, rfl⟩
  have hSC := SStep.refl hOB.box hMC
  have hOC := hOB.next hMC
  have hXC := hMC.blk hNB (by simp)
  rw [htb] at hNC hnin
  have HT := hide hNC
  have HNin := hide hnin
  have HO := hide hOC
  have x0 : (wB.alloc (.cells #[.int .u64 0, .string ⟨#[]⟩, .bool false, .int .u64 0, .int .u64 0, .int .u64 0, .int .u64 0, .bool false, .string ⟨#[]⟩, .string ⟨#[]⟩, .slice none 0 0, .int .i64 0] 55)).cell? ⟨w.heap.size, 0, none⟩ = some (.int .i64 x.kind) := hXC.cell 0
  have x1 : (wB.alloc (.cells #[.int .u64 0, .string ⟨#[]⟩, .bool false, .int .u64 0, .int .u64 0, .int .u64 0, .int .u64 0, .bool false, .string ⟨#[]⟩, .string ⟨#[]⟩, .slice none 0 0, .int .i64 0] 55)).cell? ⟨w.heap.size, 1, none⟩ = some (.int .i64 x.n) := hXC.cell 1
  have x2 : (wB.alloc (.cells #[.int .u64 0, .string ⟨#[]⟩, .bool false, .int .u64 0, .int .u64 0, .int .u64 0, .int .u64 0, .bool false, .string ⟨#[]⟩, .string ⟨#[]⟩, .slice none 0 0, .int .i64 0] 55)).cell? ⟨w.heap.size, 2, none⟩ = some (.int .u64 (x.id : Nat)) := hXC.cell 2
  have x3 : (wB.alloc (.cells #[.int .u64 0, .string ⟨#[]⟩, .bool false, .int .u64 0, .int .u64 0, .int .u64 0, .int .u64 0, .bool false, .string ⟨#[]⟩, .string ⟨#[]⟩, .slice none 0 0, .int .i64 0] 55)).cell? ⟨w.heap.size, 3, none⟩ = some (.int .u64 (x.code : Nat)) := hXC.cell 3
  have x4 : (wB.alloc (.cells #[.int .u64 0, .string ⟨#[]⟩, .bool false, .int .u64 0, .int .u64 0, .int .u64 0, .int .u64 0, .bool false, .string ⟨#[]⟩, .string ⟨#[]⟩, .slice none 0 0, .int .i64 0] 55)).cell? ⟨w.heap.size, 4, none⟩ = some (.string x.text) := hXC.cell 4
  have x5 : (wB.alloc (.cells #[.int .u64 0, .string ⟨#[]⟩, .bool false, .int .u64 0, .int .u64 0, .int .u64 0, .int .u64 0, .bool false, .string ⟨#[]⟩, .string ⟨#[]⟩, .slice none 0 0, .int .i64 0] 55)).cell? ⟨w.heap.size, 5, none⟩ = some (.bool x.fin) := hXC.cell 5
  have x6 : (wB.alloc (.cells #[.int .u64 0, .string ⟨#[]⟩, .bool false, .int .u64 0, .int .u64 0, .int .u64 0, .int .u64 0, .bool false, .string ⟨#[]⟩, .string ⟨#[]⟩, .slice none 0 0, .int .i64 0] 55)).cell? ⟨w.heap.size, 6, none⟩ = some (.int .u64 (x.fr.f.kind : Nat)) := hXC.cell 6
  have x7 : (wB.alloc (.cells #[.int .u64 0, .string ⟨#[]⟩, .bool false, .int .u64 0, .int .u64 0, .int .u64 0, .int .u64 0, .bool false, .string ⟨#[]⟩, .string ⟨#[]⟩, .slice none 0 0, .int .i64 0] 55)).cell? ⟨w.heap.size, 7, none⟩ = some (.int .u64 (x.fr.f.a : Nat)) := hXC.cell 7
  have x8 : (wB.alloc (.cells #[.int .u64 0, .string ⟨#[]⟩, .bool false, .int .u64 0, .int .u64 0, .int .u64 0, .int .u64 0, .bool false, .string ⟨#[]⟩, .string ⟨#[]⟩, .slice none 0 0, .int .i64 0] 55)).cell? ⟨w.heap.size, 8, none⟩ = some (.int .u64 (x.fr.f.b : Nat)) := hXC.cell 8
  have x9 : (wB.alloc (.cells #[.int .u64 0, .string ⟨#[]⟩, .bool false, .int .u64 0, .int .u64 0, .int .u64 0, .int .u64 0, .bool false, .string ⟨#[]⟩, .string ⟨#[]⟩, .slice none 0 0, .int .i64 0] 55)).cell? ⟨w.heap.size, 9, none⟩ = some (.int .u64 (x.fr.f.c : Nat)) := hXC.cell 9
  have x10 : (wB.alloc (.cells #[.int .u64 0, .string ⟨#[]⟩, .bool false, .int .u64 0, .int .u64 0, .int .u64 0, .int .u64 0, .bool false, .string ⟨#[]⟩, .string ⟨#[]⟩, .slice none 0 0, .int .i64 0] 55)).cell? ⟨w.heap.size, 10, none⟩ = some (.bool x.fr.f.fin) := hXC.cell 10
  have x11 : (wB.alloc (.cells #[.int .u64 0, .string ⟨#[]⟩, .bool false, .int .u64 0, .int .u64 0, .int .u64 0, .int .u64 0, .bool false, .string ⟨#[]⟩, .string ⟨#[]⟩, .slice none 0 0, .int .i64 0] 55)).cell? ⟨w.heap.size, 11, none⟩ = some (.string x.fr.f.data) := hXC.cell 11
  have x12 : (wB.alloc (.cells #[.int .u64 0, .string ⟨#[]⟩, .bool false, .int .u64 0, .int .u64 0, .int .u64 0, .int .u64 0, .bool false, .string ⟨#[]⟩, .string ⟨#[]⟩, .slice none 0 0, .int .i64 0] 55)).cell? ⟨w.heap.size, 12, none⟩ = some (.string x.fr.f.more) := hXC.cell 12
  have x13 : (wB.alloc (.cells #[.int .u64 0, .string ⟨#[]⟩, .bool false, .int .u64 0, .int .u64 0, .int .u64 0, .int .u64 0, .bool false, .string ⟨#[]⟩, .string ⟨#[]⟩, .slice none 0 0, .int .i64 0] 55)).cell? ⟨w.heap.size, 13, none⟩ = some (.slice x.fr.A x.fr.f.list.length x.fr.c) := hXC.cell 13
  have x14 : (wB.alloc (.cells #[.int .u64 0, .string ⟨#[]⟩, .bool false, .int .u64 0, .int .u64 0, .int .u64 0, .int .u64 0, .bool false, .string ⟨#[]⟩, .string ⟨#[]⟩, .slice none 0 0, .int .i64 0] 55)).cell? ⟨w.heap.size, 14, none⟩ = some (.int .u64 (x.lim.data : Int)) := hXC.cell 14
  have x15 : (wB.alloc (.cells #[.int .u64 0, .string ⟨#[]⟩, .bool false, .int .u64 0, .int .u64 0, .int .u64 0, .int .u64 0, .bool false, .string ⟨#[]⟩, .string ⟨#[]⟩, .slice none 0 0, .int .i64 0] 55)).cell? ⟨w.heap.size, 15, none⟩ = some (.int .u64 (x.lim.bl : Int)) := hXC.cell 15
  have x16 : (wB.alloc (.cells #[.int .u64 0, .string ⟨#[]⟩, .bool false, .int .u64 0, .int .u64 0, .int .u64 0, .int .u64 0, .bool false, .string ⟨#[]⟩, .string ⟨#[]⟩, .slice none 0 0, .int .i64 0] 55)).cell? ⟨w.heap.size, 16, none⟩ = some (.int .u64 (x.lim.br : Int)) := hXC.cell 16
  have x17 : (wB.alloc (.cells #[.int .u64 0, .string ⟨#[]⟩, .bool false, .int .u64 0, .int .u64 0, .int .u64 0, .int .u64 0, .bool false, .string ⟨#[]⟩, .string ⟨#[]⟩, .slice none 0 0, .int .i64 0] 55)).cell? ⟨w.heap.size, 17, none⟩ = some (.int .u64 (x.lim.un : Int)) := hXC.cell 17
  have x18 : (wB.alloc (.cells #[.int .u64 0, .string ⟨#[]⟩, .bool false, .int .u64 0, .int .u64 0, .int .u64 0, .int .u64 0, .bool false, .string ⟨#[]⟩, .string ⟨#[]⟩, .slice none 0 0, .int .i64 0] 55)).cell? ⟨w.heap.size, 18, none⟩ = some (.int .u64 (x.lim.bidis : Int)) := hXC.cell 18
  have x19 : (wB.alloc (.cells #[.int .u64 0, .string ⟨#[]⟩, .bool false, .int .u64 0, .int .u64 0, .int .u64 0, .int .u64 0, .bool false, .string ⟨#[]⟩, .string ⟨#[]⟩, .slice none 0 0, .int .i64 0] 55)).cell? ⟨w.heap.size, 19, none⟩ = some (.int .u64 (x.lim.unis : Int)) := hXC.cell 19
  have hwl := hNB.lt
  clear hl hMB hNB hOB hMC hNC hnin hSC hOC hXC
  unfold SAct.val
  have HK := hide hq7
  have hk0 : (x.kind == 0) = false := by rw [HK.out]; rfl
  have hk1 : (x.kind == 1) = false := by rw [HK.out]; rfl
  have hk2 : (x.kind == 2) = false := by rw [HK.out]; rfl
  have hk3 : (x.kind == 3) = false := by rw [HK.out]; rfl
  have hk4 : (x.kind == 4) = false := by rw [HK.out]; rfl
  have hk5 : (x.kind == 5) = false := by rw [HK.out]; rfl
  have hk6 : (x.kind == 6) = false := by rw [HK.out]; rfl
  have hk7 : (x.kind == 7) = true := by rw [HK.out]; rfl
  have hk8 : (x.kind == 8) = false := by rw [HK.out]; rfl
  have hk9 : (x.kind == 9) = false := by rw [HK.out]; rfl
  have hct := own_acked HO.out x.fr.A x.fr.f.list.length x.fr.c x.fr.f hok.fr.kind hok.fr.a hok.fr.b (by unfold maxLen; omega)
  unfold fval fcs at hct
  have HCt := hide hct
  clear hq7 hct
  go_enter Tryz.func18, Tryz.ntmps18
  go_wp2_with fail
  refine HCt.out.mono ?_
  rintro e w1 ⟨s', rfl, ho, hst, hO⟩
  have hT1 : Blk w1 tb 55 #[.int .u64 0, .string ⟨#[]⟩, .bool false, .int .u64 0, .int .u64 0, .int .u64 0, .int .u64 0, .bool false, .string ⟨#[]⟩, .string ⟨#[]⟩, .slice none 0 0, .int .i64 0] := hst.2.1.blk HT.out HNin.out
  have HHo := hide ho
  have HSt := hide hst
  have HOk := hide hO.ok
  have HT2 := hide hT1
  have HM2 : Hid (Mod [tb] w1 w1) := hide (Mod.refl _ _)
  have b0 : w1.cell? ⟨tb, 0, none⟩ = some (.int .u64 0) := hT1.cell 0
  have b1 : w1.cell? ⟨tb, 1, none⟩ = some (.string ⟨#[]⟩) := hT1.cell 1
  have b2 : w1.cell? ⟨tb, 2, none⟩ = some (.bool false) := hT1.cell 2
  have b3 : w1.cell? ⟨tb, 3, none⟩ = some (.int .u64 0) := hT1.cell 3
  have b4 : w1.cell? ⟨tb, 4, none⟩ = some (.int .u64 0) := hT1.cell 4
  have b5 : w1.cell? ⟨tb, 5, none⟩ = some (.int .u64 0) := hT1.cell 5
  have b6 : w1.cell? ⟨tb, 6, none⟩ = some (.int .u64 0) := hT1.cell 6
  have b7 : w1.cell? ⟨tb, 7, none⟩ = some (.bool false) := hT1.cell 7
  have b8 : w1.cell? ⟨tb, 8, none⟩ = some (.string ⟨#[]⟩) := hT1.cell 8
  have b9 : w1.cell? ⟨tb, 9, none⟩ = some (.string ⟨#[]⟩) := hT1.cell 9
  have b10 : w1.cell? ⟨tb, 10, none⟩ = some (.slice none 0 0) := hT1.cell 10
  have b11 : w1.cell? ⟨tb, 11, none⟩ = some (.int .i64 0) := hT1.cell 11
  have k0 : w1.frozen? ⟨tb, 0, none⟩ = false := hT1.frozen 0
  have k1 : w1.frozen? ⟨tb, 1, none⟩ = false := hT1.frozen 1
  have k2 : w1.frozen? ⟨tb, 2, none⟩ = false := hT1.frozen 2
  have k3 : w1.frozen? ⟨tb, 3, none⟩ = false := hT1.frozen 3
  have k4 : w1.frozen? ⟨tb, 4, none⟩ = false := hT1.frozen 4
  have k5 : w1.frozen? ⟨tb, 5, none⟩ = false := hT1.frozen 5
  have k6 : w1.frozen? ⟨tb, 6, none⟩ = false := hT1.frozen 6
  have k7 : w1.frozen? ⟨tb, 7, none⟩ = false := hT1.frozen 7
  have k8 : w1.frozen? ⟨tb, 8, none⟩ = false := hT1.frozen 8
  have k9 : w1.frozen? ⟨tb, 9, none⟩ = false := hT1.frozen 9
  have k10 : w1.frozen? ⟨tb, 10, none⟩ = false := hT1.frozen 10
  have k11 : w1.frozen? ⟨tb, 11, none⟩ = false := hT1.frozen 11
  have hl2 := hT1.lt
  clear ho hst hO hT1
  go_wp2_with fail
  refine bodyPost_ret (results_cell_row rfl _ _ tb 55 (said0 : Said).cells (0, 0) _ rfl ?_ Tryz.underlying55 rfl (by kernel_rfl)) rfl ?_
  · exact put12_blk HT2.out rfl _ _ _ _ _ _ _ _ _ _ _ _
  · refine ⟨said0, _, rfl, .acked HK.out s' HHo.out, ?_⟩
    exact own_key h0 (HSB.out.trans (SStep.besideOf htb HBB.out HSt.out (put12_mod (g := tb) HM2.out (.inl (List.mem_singleton.2 rfl)) _ _ _ _ _ _ _ _ _ _ _ _))) (HOk.out.mono (by omega))
set_option maxRecDepth 100000 in
set_option maxHeartbeats 4000000 in
theorem own_play_lost {K : Nat} {W w : World} {sb : Nat} {s : Ss} (h0 : Own K W w sb s) (hK : K ≤ 64000) (x : SAct) (hok : x.OK) (hlg : x.large = false) (hq8 : x.kind = 8) :
    Calls Tryz.prog 18 #[.pointer (some ⟨sb, 0, none⟩), x.val] w fun e w' => ∃ o s', e = .returned (.agg o.cells) ∧ s.Plays x o s' ∧ SStep w sb s s' w' ∧ Own (K + 200) W w' sb s' := by
  have hl := x.large_no hlg
  have hl1' := hl.1
  have hl2' := hl.2
  have hMB : Mod [] w (w.alloc (.cells #[.int .i64 x.kind, .int .i64 x.n, .int .u64 (x.id : Nat), .int .u64 (x.code : Nat), .string x.text, .bool x.fin, .int .u64 (x.fr.f.kind : Nat), .int .u64 (x.fr.f.a : Nat), .int .u64 (x.fr.f.b : Nat), .int .u64 (x.fr.f.c : Nat), .bool x.fr.f.fin, .string x.fr.f.data, .string x.fr.f.more, .slice x.fr.A x.fr.f.list.length x.fr.c, .int .u64 (x.lim.data : Int), .int .u64 (x.lim.bl : Int), .int .u64 (x.lim.br : Int), .int .u64 (x.lim.un : Int), .int .u64 (x.lim.bidis : Int), .int .u64 (x.lim.unis : Int)] 52)) := (Mod.refl [] w).alloc _
  have hNB := Blk.new w 52 #[.int .i64 x.kind, .int .i64 x.n, .int .u64 (x.id : Nat), .int .u64 (x.code : Nat), .string x.text, .bool x.fin, .int .u64 (x.fr.f.kind : Nat), .int .u64 (x.fr.f.a : Nat), .int .u64 (x.fr.f.b : Nat), .int .u64 (x.fr.f.c : Nat), .bool x.fr.f.fin, .string x.fr.f.data, .string x.fr.f.more, .slice x.fr.A x.fr.f.list.length x.fr.c, .int .u64 (x.lim.data : Int), .int .u64 (x.lim.bl : Int), .int .u64 (x.lim.br : Int), .int .u64 (x.lim.un : Int), .int .u64 (x.lim.bidis : Int), .int .u64 (x.lim.unis : Int)]
  obtain ⟨wB, hwB⟩ : ∃ wB, w.alloc (.cells #[.int .i64 x.kind, .int .i64 x.n, .int .u64 (x.id : Nat), .int .u64 (x.code : Nat), .string x.text, .bool x.fin, .int .u64 (x.fr.f.kind : Nat), .int .u64 (x.fr.f.a : Nat), .int .u64 (x.fr.f.b : Nat), .int .u64 (x.fr.f.c : Nat), .bool x.fr.f.fin, .string x.fr.f.data, .string x.fr.f.more, .slice x.fr.A x.fr.f.list.length x.fr.c, .int .u64 (x.lim.data : Int), .int .u64 (x.lim.bl : Int), .int .u64 (x.lim.br : Int), .int .u64 (x.lim.un : Int), .int .u64 (x.lim.bidis : Int), .int .u64 (x.lim.unis : Int)] 52) = wB := ⟨_, rfl⟩
  rw [hwB] at hMB hNB
  have hOB := h0.next hMB
  have HSB : Hid (SStep w sb s s wB) := hide (SStep.refl h0.box hMB)
  have HBB := hide hOB.box
  have hMC : Mod [] wB (wB.alloc (.cells #[.int .u64 0, .string ⟨#[]⟩, .bool false, .int .u64 0, .int .u64 0, .int .u64 0, .int .u64 0, .bool false, .string ⟨#[]⟩, .string ⟨#[]⟩, .slice none 0 0, .int .i64 0] 55)) := (Mod.refl [] wB).alloc _
  have hNC := Blk.new wB 55 #[.int .u64 0, .string ⟨#[]⟩, .bool false, .int .u64 0, .int .u64 0, .int .u64 0, .int .u64 0, .bool false, .string ⟨#[]⟩, .string ⟨#[]⟩, .slice none 0 0, .int .i64 0]
  have hnin := beside_new' hOB.box
  obtain ⟨tb, htb⟩ : ∃ tb, wB.heap.size = tb := ⟨_, rfl⟩
  have hSC := SStep.refl hOB.box hMC
  have hOC := hOB.next hMC
  have hXC := hMC.blk hNB (by simp)
  rw [htb] at hNC hnin
  have HT := hide hNC
  have HNin := hide hnin
  have HO := hide hOC
  have x0 : (wB.alloc (.cells #[.int .u64 0, .string ⟨#[]⟩, .bool false, .int .u64 0, .int .u64 0, .int .u64 0, .int .u64 0, .bool false, .string ⟨#[]⟩, .string ⟨#[]⟩, .slice none 0 0, .int .i64 0] 55)).cell? ⟨w.heap.size, 0, none⟩ = some (.int .i64 x.kind) := hXC.cell 0
  have x1 : (wB.alloc (.cells #[.int .u64 0, .string ⟨#[]⟩, .bool false, .int .u64 0, .int .u64 0, .int .u64 0, .int .u64 0, .bool false, .string ⟨#[]⟩, .string ⟨#[]⟩, .slice none 0 0, .int .i64 0] 55)).cell? ⟨w.heap.size, 1, none⟩ = some (.int .i64 x.n) := hXC.cell 1
  have x2 : (wB.alloc (.cells #[.int .u64 0, .string ⟨#[]⟩, .bool false, .int .u64 0, .int .u64 0, .int .u64 0, .int .u64 0, .bool false, .string ⟨#[]⟩, .string ⟨#[]⟩, .slice none 0 0, .int .i64 0] 55)).cell? ⟨w.heap.size, 2, none⟩ = some (.int .u64 (x.id : Nat)) := hXC.cell 2
  have x3 : (wB.alloc (.cells #[.int .u64 0, .string ⟨#[]⟩, .bool false, .int .u64 0, .int .u64 0, .int .u64 0, .int .u64 0, .bool false, .string ⟨#[]⟩, .string ⟨#[]⟩, .slice none 0 0, .int .i64 0] 55)).cell? ⟨w.heap.size, 3, none⟩ = some (.int .u64 (x.code : Nat)) := hXC.cell 3
  have x4 : (wB.alloc (.cells #[.int .u64 0, .string ⟨#[]⟩, .bool false, .int .u64 0, .int .u64 0, .int .u64 0, .int .u64 0, .bool false, .string ⟨#[]⟩, .string ⟨#[]⟩, .slice none 0 0, .int .i64 0] 55)).cell? ⟨w.heap.size, 4, none⟩ = some (.string x.text) := hXC.cell 4
  have x5 : (wB.alloc (.cells #[.int .u64 0, .string ⟨#[]⟩, .bool false, .int .u64 0, .int .u64 0, .int .u64 0, .int .u64 0, .bool false, .string ⟨#[]⟩, .string ⟨#[]⟩, .slice none 0 0, .int .i64 0] 55)).cell? ⟨w.heap.size, 5, none⟩ = some (.bool x.fin) := hXC.cell 5
  have x6 : (wB.alloc (.cells #[.int .u64 0, .string ⟨#[]⟩, .bool false, .int .u64 0, .int .u64 0, .int .u64 0, .int .u64 0, .bool false, .string ⟨#[]⟩, .string ⟨#[]⟩, .slice none 0 0, .int .i64 0] 55)).cell? ⟨w.heap.size, 6, none⟩ = some (.int .u64 (x.fr.f.kind : Nat)) := hXC.cell 6
  have x7 : (wB.alloc (.cells #[.int .u64 0, .string ⟨#[]⟩, .bool false, .int .u64 0, .int .u64 0, .int .u64 0, .int .u64 0, .bool false, .string ⟨#[]⟩, .string ⟨#[]⟩, .slice none 0 0, .int .i64 0] 55)).cell? ⟨w.heap.size, 7, none⟩ = some (.int .u64 (x.fr.f.a : Nat)) := hXC.cell 7
  have x8 : (wB.alloc (.cells #[.int .u64 0, .string ⟨#[]⟩, .bool false, .int .u64 0, .int .u64 0, .int .u64 0, .int .u64 0, .bool false, .string ⟨#[]⟩, .string ⟨#[]⟩, .slice none 0 0, .int .i64 0] 55)).cell? ⟨w.heap.size, 8, none⟩ = some (.int .u64 (x.fr.f.b : Nat)) := hXC.cell 8
  have x9 : (wB.alloc (.cells #[.int .u64 0, .string ⟨#[]⟩, .bool false, .int .u64 0, .int .u64 0, .int .u64 0, .int .u64 0, .bool false, .string ⟨#[]⟩, .string ⟨#[]⟩, .slice none 0 0, .int .i64 0] 55)).cell? ⟨w.heap.size, 9, none⟩ = some (.int .u64 (x.fr.f.c : Nat)) := hXC.cell 9
  have x10 : (wB.alloc (.cells #[.int .u64 0, .string ⟨#[]⟩, .bool false, .int .u64 0, .int .u64 0, .int .u64 0, .int .u64 0, .bool false, .string ⟨#[]⟩, .string ⟨#[]⟩, .slice none 0 0, .int .i64 0] 55)).cell? ⟨w.heap.size, 10, none⟩ = some (.bool x.fr.f.fin) := hXC.cell 10
  have x11 : (wB.alloc (.cells #[.int .u64 0, .string ⟨#[]⟩, .bool false, .int .u64 0, .int .u64 0, .int .u64 0, .int .u64 0, .bool false, .string ⟨#[]⟩, .string ⟨#[]⟩, .slice none 0 0, .int .i64 0] 55)).cell? ⟨w.heap.size, 11, none⟩ = some (.string x.fr.f.data) := hXC.cell 11
  have x12 : (wB.alloc (.cells #[.int .u64 0, .string ⟨#[]⟩, .bool false, .int .u64 0, .int .u64 0, .int .u64 0, .int .u64 0, .bool false, .string ⟨#[]⟩, .string ⟨#[]⟩, .slice none 0 0, .int .i64 0] 55)).cell? ⟨w.heap.size, 12, none⟩ = some (.string x.fr.f.more) := hXC.cell 12
  have x13 : (wB.alloc (.cells #[.int .u64 0, .string ⟨#[]⟩, .bool false, .int .u64 0, .int .u64 0, .int .u64 0, .int .u64 0, .bool false, .string ⟨#[]⟩, .string ⟨#[]⟩, .slice none 0 0, .int .i64 0] 55)).cell? ⟨w.heap.size, 13, none⟩ = some (.slice x.fr.A x.fr.f.list.length x.fr.c) := hXC.cell 13
  have x14 : (wB.alloc (.cells #[.int .u64 0, .string ⟨#[]⟩, .bool false, .int .u64 0, .int .u64 0, .int .u64 0, .int .u64 0, .bool false, .string ⟨#[]⟩, .string ⟨#[]⟩, .slice none 0 0, .int .i64 0] 55)).cell? ⟨w.heap.size, 14, none⟩ = some (.int .u64 (x.lim.data : Int)) := hXC.cell 14
  have x15 : (wB.alloc (.cells #[.int .u64 0, .string ⟨#[]⟩, .bool false, .int .u64 0, .int .u64 0, .int .u64 0, .int .u64 0, .bool false, .string ⟨#[]⟩, .string ⟨#[]⟩, .slice none 0 0, .int .i64 0] 55)).cell? ⟨w.heap.size, 15, none⟩ = some (.int .u64 (x.lim.bl : Int)) := hXC.cell 15
  have x16 : (wB.alloc (.cells #[.int .u64 0, .string ⟨#[]⟩, .bool false, .int .u64 0, .int .u64 0, .int .u64 0, .int .u64 0, .bool false, .string ⟨#[]⟩, .string ⟨#[]⟩, .slice none 0 0, .int .i64 0] 55)).cell? ⟨w.heap.size, 16, none⟩ = some (.int .u64 (x.lim.br : Int)) := hXC.cell 16
  have x17 : (wB.alloc (.cells #[.int .u64 0, .string ⟨#[]⟩, .bool false, .int .u64 0, .int .u64 0, .int .u64 0, .int .u64 0, .bool false, .string ⟨#[]⟩, .string ⟨#[]⟩, .slice none 0 0, .int .i64 0] 55)).cell? ⟨w.heap.size, 17, none⟩ = some (.int .u64 (x.lim.un : Int)) := hXC.cell 17
  have x18 : (wB.alloc (.cells #[.int .u64 0, .string ⟨#[]⟩, .bool false, .int .u64 0, .int .u64 0, .int .u64 0, .int .u64 0, .bool false, .string ⟨#[]⟩, .string ⟨#[]⟩, .slice none 0 0, .int .i64 0] 55)).cell? ⟨w.heap.size, 18, none⟩ = some (.int .u64 (x.lim.bidis : Int)) := hXC.cell 18
  have x19 : (wB.alloc (.cells #[.int .u64 0, .string ⟨#[]⟩, .bool false, .int .u64 0, .int .u64 0, .int .u64 0, .int .u64 0, .bool false, .string ⟨#[]⟩, .string ⟨#[]⟩, .slice none 0 0, .int .i64 0] 55)).cell? ⟨w.heap.size, 19, none⟩ = some (.int .u64 (x.lim.unis : Int)) := hXC.cell 19
  have hwl := hNB.lt
  clear hl hMB hNB hOB hMC hNC hnin hSC hOC hXC
  unfold SAct.val
  have HK := hide hq8
  have hk0 : (x.kind == 0) = false := by rw [HK.out]; rfl
  have hk1 : (x.kind == 1) = false := by rw [HK.out]; rfl
  have hk2 : (x.kind == 2) = false := by rw [HK.out]; rfl
  have hk3 : (x.kind == 3) = false := by rw [HK.out]; rfl
  have hk4 : (x.kind == 4) = false := by rw [HK.out]; rfl
  have hk5 : (x.kind == 5) = false := by rw [HK.out]; rfl
  have hk6 : (x.kind == 6) = false := by rw [HK.out]; rfl
  have hk7 : (x.kind == 7) = false := by rw [HK.out]; rfl
  have hk8 : (x.kind == 8) = true := by rw [HK.out]; rfl
  have hk9 : (x.kind == 9) = false := by rw [HK.out]; rfl
  have hct := own_lost HO.out x.fr.A x.fr.f.list.length x.fr.c x.fr.f hok.fr.kind hok.fr.a hok.fr.b (by unfold maxLen; omega)
  unfold fval fcs at hct
  have HCt := hide hct
  clear hq8 hct
  go_enter Tryz.func18, Tryz.ntmps18
  go_wp2_with fail
  refine HCt.out.mono ?_
  rintro e w1 ⟨s', rfl, ho, hst, hO⟩
  have hT1 : Blk w1 tb 55 #[.int .u64 0, .string ⟨#[]⟩, .bool false, .int .u64 0, .int .u64 0, .int .u64 0, .int .u64 0, .bool false, .string ⟨#[]⟩, .string ⟨#[]⟩, .slice none 0 0, .int .i64 0] := hst.2.1.blk HT.out HNin.out
  have HHo := hide ho
  have HSt := hide hst
  have HOk := hide hO.ok
  have HT2 := hide hT1
  have HM2 : Hid (Mod [tb] w1 w1) := hide (Mod.refl _ _)
  have b0 : w1.cell? ⟨tb, 0, none⟩ = some (.int .u64 0) := hT1.cell 0
  have b1 : w1.cell? ⟨tb, 1, none⟩ = some (.string ⟨#[]⟩) := hT1.cell 1
  have b2 : w1.cell? ⟨tb, 2, none⟩ = some (.bool false) := hT1.cell 2
  have b3 : w1.cell? ⟨tb, 3, none⟩ = some (.int .u64 0) := hT1.cell 3
  have b4 : w1.cell? ⟨tb, 4, none⟩ = some (.int .u64 0) := hT1.cell 4
  have b5 : w1.cell? ⟨tb, 5, none⟩ = some (.int .u64 0) := hT1.cell 5
  have b6 : w1.cell? ⟨tb, 6, none⟩ = some (.int .u64 0) := hT1.cell 6
  have b7 : w1.cell? ⟨tb, 7, none⟩ = some (.bool false) := hT1.cell 7
  have b8 : w1.cell? ⟨tb, 8, none⟩ = some (.string ⟨#[]⟩) := hT1.cell 8
  have b9 : w1.cell? ⟨tb, 9, none⟩ = some (.string ⟨#[]⟩) := hT1.cell 9
  have b10 : w1.cell? ⟨tb, 10, none⟩ = some (.slice none 0 0) := hT1.cell 10
  have b11 : w1.cell? ⟨tb, 11, none⟩ = some (.int .i64 0) := hT1.cell 11
  have k0 : w1.frozen? ⟨tb, 0, none⟩ = false := hT1.frozen 0
  have k1 : w1.frozen? ⟨tb, 1, none⟩ = false := hT1.frozen 1
  have k2 : w1.frozen? ⟨tb, 2, none⟩ = false := hT1.frozen 2
  have k3 : w1.frozen? ⟨tb, 3, none⟩ = false := hT1.frozen 3
  have k4 : w1.frozen? ⟨tb, 4, none⟩ = false := hT1.frozen 4
  have k5 : w1.frozen? ⟨tb, 5, none⟩ = false := hT1.frozen 5
  have k6 : w1.frozen? ⟨tb, 6, none⟩ = false := hT1.frozen 6
  have k7 : w1.frozen? ⟨tb, 7, none⟩ = false := hT1.frozen 7
  have k8 : w1.frozen? ⟨tb, 8, none⟩ = false := hT1.frozen 8
  have k9 : w1.frozen? ⟨tb, 9, none⟩ = false := hT1.frozen 9
  have k10 : w1.frozen? ⟨tb, 10, none⟩ = false := hT1.frozen 10
  have k11 : w1.frozen? ⟨tb, 11, none⟩ = false := hT1.frozen 11
  have hl2 := hT1.lt
  clear ho hst hO hT1
  go_wp2_with fail
  refine bodyPost_ret (results_cell_row rfl _ _ tb 55 (said0 : Said).cells (0, 0) _ rfl ?_ Tryz.underlying55 rfl (by kernel_rfl)) rfl ?_
  · exact put12_blk HT2.out rfl _ _ _ _ _ _ _ _ _ _ _ _
  · refine ⟨said0, _, rfl, .lost HK.out s' HHo.out, ?_⟩
    exact own_key h0 (HSB.out.trans (SStep.besideOf htb HBB.out HSt.out (put12_mod (g := tb) HM2.out (.inl (List.mem_singleton.2 rfl)) _ _ _ _ _ _ _ _ _ _ _ _))) (HOk.out.mono (by omega))
set_option maxRecDepth 100000 in
set_option maxHeartbeats 4000000 in
theorem own_play_other {K : Nat} {W w : World} {sb : Nat} {s : Ss} (h0 : Own K W w sb s) (hK : K ≤ 64000) (x : SAct) (hok : x.OK) (hlg : x.large = false) (hq9 : x.kind = 9) :
    Calls Tryz.prog 18 #[.pointer (some ⟨sb, 0, none⟩), x.val] w fun e w' => ∃ o s', e = .returned (.agg o.cells) ∧ s.Plays x o s' ∧ SStep w sb s s' w' ∧ Own (K + 200) W w' sb s' := by
  have hl := x.large_no hlg
  have hl1' := hl.1
  have hl2' := hl.2
  have hMB : Mod [] w (w.alloc (.cells #[.int .i64 x.kind, .int .i64 x.n, .int .u64 (x.id : Nat), .int .u64 (x.code : Nat), .string x.text, .bool x.fin, .int .u64 (x.fr.f.kind : Nat), .int .u64 (x.fr.f.a : Nat), .int .u64 (x.fr.f.b : Nat), .int .u64 (x.fr.f.c : Nat), .bool x.fr.f.fin, .string x.fr.f.data, .string x.fr.f.more, .slice x.fr.A x.fr.f.list.length x.fr.c, .int .u64 (x.lim.data : Int), .int .u64 (x.lim.bl : Int), .int .u64 (x.lim.br : Int), .int .u64 (x.lim.un : Int), .int .u64 (x.lim.bidis : Int), .int .u64 (x.lim.unis : Int)] 52)) := (Mod.refl [] w).alloc _
  have hNB := Blk.new w 52 #[.int .i64 x.kind, .int .i64 x.n, .int .u64 (x.id : Nat), .int .u64 (x.code : Nat), .string x.text, .bool x.fin, .int .u64 (x.fr.f.kind : Nat), .int .u64 (x.fr.f.a : Nat), .int .u64 (x.fr.f.b : Nat), .int .u64 (x.fr.f.c : Nat), .bool x.fr.f.fin, .string x.fr.f.data, .string x.fr.f.more, .slice x.fr.A x.fr.f.list.length x.fr.c, .int .u64 (x.lim.data : Int), .int .u64 (x.lim.bl : Int), .int .u64 (x.lim.br : Int), .int .u64 (x.lim.un : Int), .int .u64 (x.lim.bidis : Int), .int .u64 (x.lim.unis : Int)]
  obtain ⟨wB, hwB⟩ : ∃ wB, w.alloc (.cells #[.int .i64 x.kind, .int .i64 x.n, .int .u64 (x.id : Nat), .int .u64 (x.code : Nat), .string x.text, .bool x.fin, .int .u64 (x.fr.f.kind : Nat), .int .u64 (x.fr.f.a : Nat), .int .u64 (x.fr.f.b : Nat), .int .u64 (x.fr.f.c : Nat), .bool x.fr.f.fin, .string x.fr.f.data, .string x.fr.f.more, .slice x.fr.A x.fr.f.list.length x.fr.c, .int .u64 (x.lim.data : Int), .int .u64 (x.lim.bl : Int), .int .u64 (x.lim.br : Int), .int .u64 (x.lim.un : Int), .int .u64 (x.lim.bidis : Int), .int .u64 (x.lim.unis : Int)] 52) = wB := ⟨_, rfl⟩
  rw [hwB] at hMB hNB
  have hOB := h0.next hMB
  have HSB : Hid (SStep w sb s s wB) := hide (SStep.refl h0.box hMB)
  have HBB := hide hOB.box
  have hMC : Mod [] wB (wB.alloc (.cells #[.int .u64 0, .string ⟨#[]⟩, .bool false, .int .u64 0, .int .u64 0, .int .u64 0, .int .u64 0, .bool false, .string ⟨#[]⟩, .string ⟨#[]⟩, .slice none 0 0, .int .i64 0] 55)) := (Mod.refl [] wB).alloc _
  have hNC := Blk.new wB 55 #[.int .u64 0, .string ⟨#[]⟩, .bool false, .int .u64 0, .int .u64 0, .int .u64 0, .int .u64 0, .bool false, .string ⟨#[]⟩, .string ⟨#[]⟩, .slice none 0 0, .int .i64 0]
  have hnin := beside_new' hOB.box
  obtain ⟨tb, htb⟩ : ∃ tb, wB.heap.size = tb := ⟨_, rfl⟩
  have hSC := SStep.refl hOB.box hMC
  have hOC := hOB.next hMC
  have hXC := hMC.blk hNB (by simp)
  rw [htb] at hNC hnin
  have HT := hide hNC
  have HNin := hide hnin
  have HO := hide hOC
  have x0 : (wB.alloc (.cells #[.int .u64 0, .string ⟨#[]⟩, .bool false, .int .u64 0, .int .u64 0, .int .u64 0, .int .u64 0, .bool false, .string ⟨#[]⟩, .string ⟨#[]⟩, .slice none 0 0, .int .i64 0] 55)).cell? ⟨w.heap.size, 0, none⟩ = some (.int .i64 x.kind) := hXC.cell 0
  have x1 : (wB.alloc (.cells #[.int .u64 0, .string ⟨#[]⟩, .bool false, .int .u64 0, .int .u64 0, .int .u64 0, .int .u64 0, .bool false, .string ⟨#[]⟩, .string ⟨#[]⟩, .slice none 0 0, .int .i64 0] 55)).cell? ⟨w.heap.size, 1, none⟩ = some (.int .i64 x.n) := hXC.cell 1
  have x2 : (wB.alloc (.cells #[.int .u64 0, .string ⟨#[]⟩, .bool false, .int .u64 0, .int .u64 0, .int .u64 0, .int .u64 0, .bool false, .string ⟨#[]⟩, .string ⟨#[]⟩, .slice none 0 0, .int .i64 0] 55)).cell? ⟨w.heap.size, 2, none⟩ = some (.int .u64 (x.id : Nat)) := hXC.cell 2
  have x3 : (wB.alloc (.cells #[.int .u64 0, .string ⟨#[]⟩, .bool false, .int .u64 0, .int .u64 0, .int .u64 0, .int .u64 0, .bool false, .string ⟨#[]⟩, .string ⟨#[]⟩, .slice none 0 0, .int .i64 0] 55)).cell? ⟨w.heap.size, 3, none⟩ = some (.int .u64 (x.code : Nat)) := hXC.cell 3
  have x4 : (wB.alloc (.cells #[.int .u64 0, .string ⟨#[]⟩, .bool false, .int .u64 0, .int .u64 0, .int .u64 0, .int .u64 0, .bool false, .string ⟨#[]⟩, .string ⟨#[]⟩, .slice none 0 0, .int .i64 0] 55)).cell? ⟨w.heap.size, 4, none⟩ = some (.string x.text) := hXC.cell 4
  have x5 : (wB.alloc (.cells #[.int .u64 0, .string ⟨#[]⟩, .bool false, .int .u64 0, .int .u64 0, .int .u64 0, .int .u64 0, .bool false, .string ⟨#[]⟩, .string ⟨#[]⟩, .slice none 0 0, .int .i64 0] 55)).cell? ⟨w.heap.size, 5, none⟩ = some (.bool x.fin) := hXC.cell 5
  have x6 : (wB.alloc (.cells #[.int .u64 0, .string ⟨#[]⟩, .bool false, .int .u64 0, .int .u64 0, .int .u64 0, .int .u64 0, .bool false, .string ⟨#[]⟩, .string ⟨#[]⟩, .slice none 0 0, .int .i64 0] 55)).cell? ⟨w.heap.size, 6, none⟩ = some (.int .u64 (x.fr.f.kind : Nat)) := hXC.cell 6
  have x7 : (wB.alloc (.cells #[.int .u64 0, .string ⟨#[]⟩, .bool false, .int .u64 0, .int .u64 0, .int .u64 0, .int .u64 0, .bool false, .string ⟨#[]⟩, .string ⟨#[]⟩, .slice none 0 0, .int .i64 0] 55)).cell? ⟨w.heap.size, 7, none⟩ = some (.int .u64 (x.fr.f.a : Nat)) := hXC.cell 7
  have x8 : (wB.alloc (.cells #[.int .u64 0, .string ⟨#[]⟩, .bool false, .int .u64 0, .int .u64 0, .int .u64 0, .int .u64 0, .bool false, .string ⟨#[]⟩, .string ⟨#[]⟩, .slice none 0 0, .int .i64 0] 55)).cell? ⟨w.heap.size, 8, none⟩ = some (.int .u64 (x.fr.f.b : Nat)) := hXC.cell 8
  have x9 : (wB.alloc (.cells #[.int .u64 0, .string ⟨#[]⟩, .bool false, .int .u64 0, .int .u64 0, .int .u64 0, .int .u64 0, .bool false, .string ⟨#[]⟩, .string ⟨#[]⟩, .slice none 0 0, .int .i64 0] 55)).cell? ⟨w.heap.size, 9, none⟩ = some (.int .u64 (x.fr.f.c : Nat)) := hXC.cell 9
  have x10 : (wB.alloc (.cells #[.int .u64 0, .string ⟨#[]⟩, .bool false, .int .u64 0, .int .u64 0, .int .u64 0, .int .u64 0, .bool false, .string ⟨#[]⟩, .string ⟨#[]⟩, .slice none 0 0, .int .i64 0] 55)).cell? ⟨w.heap.size, 10, none⟩ = some (.bool x.fr.f.fin) := hXC.cell 10
  have x11 : (wB.alloc (.cells #[.int .u64 0, .string ⟨#[]⟩, .bool false, .int .u64 0, .int .u64 0, .int .u64 0, .int .u64 0, .bool false, .string ⟨#[]⟩, .string ⟨#[]⟩, .slice none 0 0, .int .i64 0] 55)).cell? ⟨w.heap.size, 11, none⟩ = some (.string x.fr.f.data) := hXC.cell 11
  have x12 : (wB.alloc (.cells #[.int .u64 0, .string ⟨#[]⟩, .bool false, .int .u64 0, .int .u64 0, .int .u64 0, .int .u64 0, .bool false, .string ⟨#[]⟩, .string ⟨#[]⟩, .slice none 0 0, .int .i64 0] 55)).cell? ⟨w.heap.size, 12, none⟩ = some (.string x.fr.f.more) := hXC.cell 12
  have x13 : (wB.alloc (.cells #[.int .u64 0, .string ⟨#[]⟩, .bool false, .int .u64 0, .int .u64 0, .int .u64 0, .int .u64 0, .bool false, .string ⟨#[]⟩, .string ⟨#[]⟩, .slice none 0 0, .int .i64 0] 55)).cell? ⟨w.heap.size, 13, none⟩ = some (.slice x.fr.A x.fr.f.list.length x.fr.c) := hXC.cell 13
  have x14 : (wB.alloc (.cells #[.int .u64 0, .string ⟨#[]⟩, .bool false, .int .u64 0, .int .u64 0, .int .u64 0, .int .u64 0, .bool false, .string ⟨#[]⟩, .string ⟨#[]⟩, .slice none 0 0, .int .i64 0] 55)).cell? ⟨w.heap.size, 14, none⟩ = some (.int .u64 (x.lim.data : Int)) := hXC.cell 14
  have x15 : (wB.alloc (.cells #[.int .u64 0, .string ⟨#[]⟩, .bool false, .int .u64 0, .int .u64 0, .int .u64 0, .int .u64 0, .bool false, .string ⟨#[]⟩, .string ⟨#[]⟩, .slice none 0 0, .int .i64 0] 55)).cell? ⟨w.heap.size, 15, none⟩ = some (.int .u64 (x.lim.bl : Int)) := hXC.cell 15
  have x16 : (wB.alloc (.cells #[.int .u64 0, .string ⟨#[]⟩, .bool false, .int .u64 0, .int .u64 0, .int .u64 0, .int .u64 0, .bool false, .string ⟨#[]⟩, .string ⟨#[]⟩, .slice none 0 0, .int .i64 0] 55)).cell? ⟨w.heap.size, 16, none⟩ = some (.int .u64 (x.lim.br : Int)) := hXC.cell 16
  have x17 : (wB.alloc (.cells #[.int .u64 0, .string ⟨#[]⟩, .bool false, .int .u64 0, .int .u64 0, .int .u64 0, .int .u64 0, .bool false, .string ⟨#[]⟩, .string ⟨#[]⟩, .slice none 0 0, .int .i64 0] 55)).cell? ⟨w.heap.size, 17, none⟩ = some (.int .u64 (x.lim.un : Int)) := hXC.cell 17
  have x18 : (wB.alloc (.cells #[.int .u64 0, .string ⟨#[]⟩, .bool false, .int .u64 0, .int .u64 0, .int .u64 0, .int .u64 0, .bool false, .string ⟨#[]⟩, .string ⟨#[]⟩, .slice none 0 0, .int .i64 0] 55)).cell? ⟨w.heap.size, 18, none⟩ = some (.int .u64 (x.lim.bidis : Int)) := hXC.cell 18
  have x19 : (wB.alloc (.cells #[.int .u64 0, .string ⟨#[]⟩, .bool false, .int .u64 0, .int .u64 0, .int .u64 0, .int .u64 0, .bool false, .string ⟨#[]⟩, .string ⟨#[]⟩, .slice none 0 0, .int .i64 0] 55)).cell? ⟨w.heap.size, 19, none⟩ = some (.int .u64 (x.lim.unis : Int)) := hXC.cell 19
  have hwl := hNB.lt
  clear hl hMB hNB hOB hMC hNC hnin hSC hOC hXC
  unfold SAct.val
  have HK := hide hq9
  have hk0 : (x.kind == 0) = false := by rw [HK.out]; rfl
  have hk1 : (x.kind == 1) = false := by rw [HK.out]; rfl
  have hk2 : (x.kind == 2) = false := by rw [HK.out]; rfl
  have hk3 : (x.kind == 3) = false := by rw [HK.out]; rfl
  have hk4 : (x.kind == 4) = false := by rw [HK.out]; rfl
  have hk5 : (x.kind == 5) = false := by rw [HK.out]; rfl
  have hk6 : (x.kind == 6) = false := by rw [HK.out]; rfl
  have hk7 : (x.kind == 7) = false := by rw [HK.out]; rfl
  have hk8 : (x.kind == 8) = false := by rw [HK.out]; rfl
  have hk9 : (x.kind == 9) = true := by rw [HK.out]; rfl
  have hct := own_other HO.out x.lim
  unfold Lm.val at hct
  have HCt := hide hct
  clear hq9 hct
  go_enter Tryz.func18, Tryz.ntmps18
  go_wp2_with fail
  refine HCt.out.mono ?_
  rintro e w1 ⟨s', rfl, ho, hst, hO⟩
  have hT1 : Blk w1 tb 55 #[.int .u64 0, .string ⟨#[]⟩, .bool false, .int .u64 0, .int .u64 0, .int .u64 0, .int .u64 0, .bool false, .string ⟨#[]⟩, .string ⟨#[]⟩, .slice none 0 0, .int .i64 0] := hst.2.1.blk HT.out HNin.out
  have HHo := hide ho
  have HSt := hide hst
  have HOk := hide hO.ok
  have HT2 := hide hT1
  have HM2 : Hid (Mod [tb] w1 w1) := hide (Mod.refl _ _)
  have b0 : w1.cell? ⟨tb, 0, none⟩ = some (.int .u64 0) := hT1.cell 0
  have b1 : w1.cell? ⟨tb, 1, none⟩ = some (.string ⟨#[]⟩) := hT1.cell 1
  have b2 : w1.cell? ⟨tb, 2, none⟩ = some (.bool false) := hT1.cell 2
  have b3 : w1.cell? ⟨tb, 3, none⟩ = some (.int .u64 0) := hT1.cell 3
  have b4 : w1.cell? ⟨tb, 4, none⟩ = some (.int .u64 0) := hT1.cell 4
  have b5 : w1.cell? ⟨tb, 5, none⟩ = some (.int .u64 0) := hT1.cell 5
  have b6 : w1.cell? ⟨tb, 6, none⟩ = some (.int .u64 0) := hT1.cell 6
  have b7 : w1.cell? ⟨tb, 7, none⟩ = some (.bool false) := hT1.cell 7
  have b8 : w1.cell? ⟨tb, 8, none⟩ = some (.string ⟨#[]⟩) := hT1.cell 8
  have b9 : w1.cell? ⟨tb, 9, none⟩ = some (.string ⟨#[]⟩) := hT1.cell 9
  have b10 : w1.cell? ⟨tb, 10, none⟩ = some (.slice none 0 0) := hT1.cell 10
  have b11 : w1.cell? ⟨tb, 11, none⟩ = some (.int .i64 0) := hT1.cell 11
  have k0 : w1.frozen? ⟨tb, 0, none⟩ = false := hT1.frozen 0
  have k1 : w1.frozen? ⟨tb, 1, none⟩ = false := hT1.frozen 1
  have k2 : w1.frozen? ⟨tb, 2, none⟩ = false := hT1.frozen 2
  have k3 : w1.frozen? ⟨tb, 3, none⟩ = false := hT1.frozen 3
  have k4 : w1.frozen? ⟨tb, 4, none⟩ = false := hT1.frozen 4
  have k5 : w1.frozen? ⟨tb, 5, none⟩ = false := hT1.frozen 5
  have k6 : w1.frozen? ⟨tb, 6, none⟩ = false := hT1.frozen 6
  have k7 : w1.frozen? ⟨tb, 7, none⟩ = false := hT1.frozen 7
  have k8 : w1.frozen? ⟨tb, 8, none⟩ = false := hT1.frozen 8
  have k9 : w1.frozen? ⟨tb, 9, none⟩ = false := hT1.frozen 9
  have k10 : w1.frozen? ⟨tb, 10, none⟩ = false := hT1.frozen 10
  have k11 : w1.frozen? ⟨tb, 11, none⟩ = false := hT1.frozen 11
  have hl2 := hT1.lt
  clear ho hst hO hT1
  go_wp2_with fail
  refine bodyPost_ret (results_cell_row rfl _ _ tb 55 (said0 : Said).cells (0, 0) _ rfl ?_ Tryz.underlying55 rfl (by kernel_rfl)) rfl ?_
  · exact put12_blk HT2.out rfl _ _ _ _ _ _ _ _ _ _ _ _
  · refine ⟨said0, _, rfl, .other HK.out s' HHo.out, ?_⟩
    exact own_key h0 (HSB.out.trans (SStep.besideOf htb HBB.out HSt.out (put12_mod (g := tb) HM2.out (.inl (List.mem_singleton.2 rfl)) _ _ _ _ _ _ _ _ _ _ _ _))) (HOk.out.mono (by omega))
set_option maxRecDepth 100000 in
set_option maxHeartbeats 4000000 in
theorem own_play_none {K : Nat} {W w : World} {sb : Nat} {s : Ss} (h0 : Own K W w sb s) (hK : K ≤ 64000) (x : SAct) (hok : x.OK) (hlg : x.large = false) (hkk : x.kind < 0 ∨ 9 < x.kind) :
    Calls Tryz.prog 18 #[.pointer (some ⟨sb, 0, none⟩), x.val] w fun e w' => ∃ o s', e = .returned (.agg o.cells) ∧ s.Plays x o s' ∧ SStep w sb s s' w' ∧ Own (K + 200) W w' sb s' := by
  have hl := x.large_no hlg
  have hl1' := hl.1
  have hl2' := hl.2
  have hMB : Mod [] w (w.alloc (.cells #[.int .i64 x.kind, .int .i64 x.n, .int .u64 (x.id : Nat), .int .u64 (x.code : Nat), .string x.text, .bool x.fin, .int .u64 (x.fr.f.kind : Nat), .int .u64 (x.fr.f.a : Nat), .int .u64 (x.fr.f.b : Nat), .int .u64 (x.fr.f.c : Nat), .bool x.fr.f.fin, .string x.fr.f.data, .string x.fr.f.more, .slice x.fr.A x.fr.f.list.length x.fr.c, .int .u64 (x.lim.data : Int), .int .u64 (x.lim.bl : Int), .int .u64 (x.lim.br : Int), .int .u64 (x.lim.un : Int), .int .u64 (x.lim.bidis : Int), .int .u64 (x.lim.unis : Int)] 52)) := (Mod.refl [] w).alloc _
  have hNB := Blk.new w 52 #[.int .i64 x.kind, .int .i64 x.n, .int .u64 (x.id : Nat), .int .u64 (x.code : Nat), .string x.text, .bool x.fin, .int .u64 (x.fr.f.kind : Nat), .int .u64 (x.fr.f.a : Nat), .int .u64 (x.fr.f.b : Nat), .int .u64 (x.fr.f.c : Nat), .bool x.fr.f.fin, .string x.fr.f.data, .string x.fr.f.more, .slice x.fr.A x.fr.f.list.length x.fr.c, .int .u64 (x.lim.data : Int), .int .u64 (x.lim.bl : Int), .int .u64 (x.lim.br : Int), .int .u64 (x.lim.un : Int), .int .u64 (x.lim.bidis : Int), .int .u64 (x.lim.unis : Int)]
  obtain ⟨wB, hwB⟩ : ∃ wB, w.alloc (.cells #[.int .i64 x.kind, .int .i64 x.n, .int .u64 (x.id : Nat), .int .u64 (x.code : Nat), .string x.text, .bool x.fin, .int .u64 (x.fr.f.kind : Nat), .int .u64 (x.fr.f.a : Nat), .int .u64 (x.fr.f.b : Nat), .int .u64 (x.fr.f.c : Nat), .bool x.fr.f.fin, .string x.fr.f.data, .string x.fr.f.more, .slice x.fr.A x.fr.f.list.length x.fr.c, .int .u64 (x.lim.data : Int), .int .u64 (x.lim.bl : Int), .int .u64 (x.lim.br : Int), .int .u64 (x.lim.un : Int), .int .u64 (x.lim.bidis : Int), .int .u64 (x.lim.unis : Int)] 52) = wB := ⟨_, rfl⟩
  rw [hwB] at hMB hNB
  have hOB := h0.next hMB
  have HSB : Hid (SStep w sb s s wB) := hide (SStep.refl h0.box hMB)
  have HBB := hide hOB.box
  have hMC : Mod [] wB (wB.alloc (.cells #[.int .u64 0, .string ⟨#[]⟩, .bool false, .int .u64 0, .int .u64 0, .int .u64 0, .int .u64 0, .bool false, .string ⟨#[]⟩, .string ⟨#[]⟩, .slice none 0 0, .int .i64 0] 55)) := (Mod.refl [] wB).alloc _
  have hNC := Blk.new wB 55 #[.int .u64 0, .string ⟨#[]⟩, .bool false, .int .u64 0, .int .u64 0, .int .u64 0, .int .u64 0, .bool false, .string ⟨#[]⟩, .string ⟨#[]⟩, .slice none 0 0, .int .i64 0]
  have hnin := beside_new' hOB.box
  obtain ⟨tb, htb⟩ : ∃ tb, wB.heap.size = tb := ⟨_, rfl⟩
  have hSC := SStep.refl hOB.box hMC
  have hOC := hOB.next hMC
  have hXC := hMC.blk hNB (by simp)
  rw [htb] at hNC hnin
  have HT := hide hNC
  have HNin := hide hnin
  have HO := hide hOC
  have x0 : (wB.alloc (.cells #[.int .u64 0, .string ⟨#[]⟩, .bool false, .int .u64 0, .int .u64 0, .int .u64 0, .int .u64 0, .bool false, .string ⟨#[]⟩, .string ⟨#[]⟩, .slice none 0 0, .int .i64 0] 55)).cell? ⟨w.heap.size, 0, none⟩ = some (.int .i64 x.kind) := hXC.cell 0
  have x1 : (wB.alloc (.cells #[.int .u64 0, .string ⟨#[]⟩, .bool false, .int .u64 0, .int .u64 0, .int .u64 0, .int .u64 0, .bool false, .string ⟨#[]⟩, .string ⟨#[]⟩, .slice none 0 0, .int .i64 0] 55)).cell? ⟨w.heap.size, 1, none⟩ = some (.int .i64 x.n) := hXC.cell 1
  have x2 : (wB.alloc (.cells #[.int .u64 0, .string ⟨#[]⟩, .bool false, .int .u64 0, .int .u64 0, .int .u64 0, .int .u64 0, .bool false, .string ⟨#[]⟩, .string ⟨#[]⟩, .slice none 0 0, .int .i64 0] 55)).cell? ⟨w.heap.size, 2, none⟩ = some (.int .u64 (x.id : Nat)) := hXC.cell 2
  have x3 : (wB.alloc (.cells #[.int .u64 0, .string ⟨#[]⟩, .bool false, .int .u64 0, .int .u64 0, .int .u64 0, .int .u64 0, .bool false, .string ⟨#[]⟩, .string ⟨#[]⟩, .slice none 0 0, .int .i64 0] 55)).cell? ⟨w.heap.size, 3, none⟩ = some (.int .u64 (x.code : Nat)) := hXC.cell 3
  have x4 : (wB.alloc (.cells #[.int .u64 0, .string ⟨#[]⟩, .bool false, .int .u64 0, .int .u64 0, .int .u64 0, .int .u64 0, .bool false, .string ⟨#[]⟩, .string ⟨#[]⟩, .slice none 0 0, .int .i64 0] 55)).cell? ⟨w.heap.size, 4, none⟩ = some (.string x.text) := hXC.cell 4
  have x5 : (wB.alloc (.cells #[.int .u64 0, .string ⟨#[]⟩, .bool false, .int .u64 0, .int .u64 0, .int .u64 0, .int .u64 0, .bool false, .string ⟨#[]⟩, .string ⟨#[]⟩, .slice none 0 0, .int .i64 0] 55)).cell? ⟨w.heap.size, 5, none⟩ = some (.bool x.fin) := hXC.cell 5
  have x6 : (wB.alloc (.cells #[.int .u64 0, .string ⟨#[]⟩, .bool false, .int .u64 0, .int .u64 0, .int .u64 0, .int .u64 0, .bool false, .string ⟨#[]⟩, .string ⟨#[]⟩, .slice none 0 0, .int .i64 0] 55)).cell? ⟨w.heap.size, 6, none⟩ = some (.int .u64 (x.fr.f.kind : Nat)) := hXC.cell 6
  have x7 : (wB.alloc (.cells #[.int .u64 0, .string ⟨#[]⟩, .bool false, .int .u64 0, .int .u64 0, .int .u64 0, .int .u64 0, .bool false, .string ⟨#[]⟩, .string ⟨#[]⟩, .slice none 0 0, .int .i64 0] 55)).cell? ⟨w.heap.size, 7, none⟩ = some (.int .u64 (x.fr.f.a : Nat)) := hXC.cell 7
  have x8 : (wB.alloc (.cells #[.int .u64 0, .string ⟨#[]⟩, .bool false, .int .u64 0, .int .u64 0, .int .u64 0, .int .u64 0, .bool false, .string ⟨#[]⟩, .string ⟨#[]⟩, .slice none 0 0, .int .i64 0] 55)).cell? ⟨w.heap.size, 8, none⟩ = some (.int .u64 (x.fr.f.b : Nat)) := hXC.cell 8
  have x9 : (wB.alloc (.cells #[.int .u64 0, .string ⟨#[]⟩, .bool false, .int .u64 0, .int .u64 0, .int .u64 0, .int .u64 0, .bool false, .string ⟨#[]⟩, .string ⟨#[]⟩, .slice none 0 0, .int .i64 0] 55)).cell? ⟨w.heap.size, 9, none⟩ = some (.int .u64 (x.fr.f.c : Nat)) := hXC.cell 9
  have x10 : (wB.alloc (.cells #[.int .u64 0, .string ⟨#[]⟩, .bool false, .int .u64 0, .int .u64 0, .int .u64 0, .int .u64 0, .bool false, .string ⟨#[]⟩, .string ⟨#[]⟩, .slice none 0 0, .int .i64 0] 55)).cell? ⟨w.heap.size, 10, none⟩ = some (.bool x.fr.f.fin) := hXC.cell 10
  have x11 : (wB.alloc (.cells #[.int .u64 0, .string ⟨#[]⟩, .bool false, .int .u64 0, .int .u64 0, .int .u64 0, .int .u64 0, .bool false, .string ⟨#[]⟩, .string ⟨#[]⟩, .slice none 0 0, .int .i64 0] 55)).cell? ⟨w.heap.size, 11, none⟩ = some (.string x.fr.f.data) := hXC.cell 11
  have x12 : (wB.alloc (.cells #[.int .u64 0, .string ⟨#[]⟩, .bool false, .int .u64 0, .int .u64 0, .int .u64 0, .int .u64 0, .bool false, .string ⟨#[]⟩, .string ⟨#[]⟩, .slice none 0 0, .int .i64 0] 55)).cell? ⟨w.heap.size, 12, none⟩ = some (.string x.fr.f.more) := hXC.cell 12
  have x13 : (wB.alloc (.cells #[.int .u64 0, .string ⟨#[]⟩, .bool false, .int .u64 0, .int .u64 0, .int .u64 0, .int .u64 0, .bool false, .string ⟨#[]⟩, .string ⟨#[]⟩, .slice none 0 0, .int .i64 0] 55)).cell? ⟨w.heap.size, 13, none⟩ = some (.slice x.fr.A x.fr.f.list.length x.fr.c) := hXC.cell 13
  have x14 : (wB.alloc (.cells #[.int .u64 0, .string ⟨#[]⟩, .bool false, .int .u64 0, .int .u64 0, .int .u64 0, .int .u64 0, .bool false, .string ⟨#[]⟩, .string ⟨#[]⟩, .slice none 0 0, .int .i64 0] 55)).cell? ⟨w.heap.size, 14, none⟩ = some (.int .u64 (x.lim.data : Int)) := hXC.cell 14
  have x15 : (wB.alloc (.cells #[.int .u64 0, .string ⟨#[]⟩, .bool false, .int .u64 0, .int .u64 0, .int .u64 0, .int .u64 0, .bool false, .string ⟨#[]⟩, .string ⟨#[]⟩, .slice none 0 0, .int .i64 0] 55)).cell? ⟨w.heap.size, 15, none⟩ = some (.int .u64 (x.lim.bl : Int)) := hXC.cell 15
  have x16 : (wB.alloc (.cells #[.int .u64 0, .string ⟨#[]⟩, .bool false, .int .u64 0, .int .u64 0, .int .u64 0, .int .u64 0, .bool false, .string ⟨#[]⟩, .string ⟨#[]⟩, .slice none 0 0, .int .i64 0] 55)).cell? ⟨w.heap.size, 16, none⟩ = some (.int .u64 (x.lim.br : Int)) := hXC.cell 16
  have x17 : (wB.alloc (.cells #[.int .u64 0, .string ⟨#[]⟩, .bool false, .int .u64 0, .int .u64 0, .int .u64 0, .int .u64 0, .bool false, .string ⟨#[]⟩, .string ⟨#[]⟩, .slice none 0 0, .int .i64 0] 55)).cell? ⟨w.heap.size, 17, none⟩ = some (.int .u64 (x.lim.un : Int)) := hXC.cell 17
  have x18 : (wB.alloc (.cells #[.int .u64 0, .string ⟨#[]⟩, .bool false, .int .u64 0, .int .u64 0, .int .u64 0, .int .u64 0, .bool false, .string ⟨#[]⟩, .string ⟨#[]⟩, .slice none 0 0, .int .i64 0] 55)).cell? ⟨w.heap.size, 18, none⟩ = some (.int .u64 (x.lim.bidis : Int)) := hXC.cell 18
  have x19 : (wB.alloc (.cells #[.int .u64 0, .string ⟨#[]⟩, .bool false, .int .u64 0, .int .u64 0, .int .u64 0, .int .u64 0, .bool false, .string ⟨#[]⟩, .string ⟨#[]⟩, .slice none 0 0, .int .i64 0] 55)).cell? ⟨w.heap.size, 19, none⟩ = some (.int .u64 (x.lim.unis : Int)) := hXC.cell 19
  have hwl := hNB.lt
  clear hl hMB hNB hOB hMC hNC hnin hSC hOC hXC
  unfold SAct.val
  have hk0 : (x.kind == 0) = false := by rw [beq_eq_false_iff_ne]; omega
  have hk1 : (x.kind == 1) = false := by rw [beq_eq_false_iff_ne]; omega
  have hk2 : (x.kind == 2) = false := by rw [beq_eq_false_iff_ne]; omega
  have hk3 : (x.kind == 3) = false := by rw [beq_eq_false_iff_ne]; omega
  have hk4 : (x.kind == 4) = false := by rw [beq_eq_false_iff_ne]; omega
  have hk5 : (x.kind == 5) = false := by rw [beq_eq_false_iff_ne]; omega
  have hk6 : (x.kind == 6) = false := by rw [beq_eq_false_iff_ne]; omega
  have hk7 : (x.kind == 7) = false := by rw [beq_eq_false_iff_ne]; omega
  have hk8 : (x.kind == 8) = false := by rw [beq_eq_false_iff_ne]; omega
  have hk9 : (x.kind == 9) = false := by rw [beq_eq_false_iff_ne]; omega
  have HKk := hide hkk
  have hT1 := HT.out
  have HT2 := hide hT1
  have b0 : (wB.alloc (.cells #[.int .u64 0, .string ⟨#[]⟩, .bool false, .int .u64 0, .int .u64 0, .int .u64 0, .int .u64 0, .bool false, .string ⟨#[]⟩, .string ⟨#[]⟩, .slice none 0 0, .int .i64 0] 55)).cell? ⟨tb, 0, none⟩ = some (.int .u64 0) := hT1.cell 0
  have b1 : (wB.alloc (.cells #[.int .u64 0, .string ⟨#[]⟩, .bool false, .int .u64 0, .int .u64 0, .int .u64 0, .int .u64 0, .bool false, .string ⟨#[]⟩, .string ⟨#[]⟩, .slice none 0 0, .int .i64 0] 55)).cell? ⟨tb, 1, none⟩ = some (.string ⟨#[]⟩) := hT1.cell 1
  have b2 : (wB.alloc (.cells #[.int .u64 0, .string ⟨#[]⟩, .bool false, .int .u64 0, .int .u64 0, .int .u64 0, .int .u64 0, .bool false, .string ⟨#[]⟩, .string ⟨#[]⟩, .slice none 0 0, .int .i64 0] 55)).cell? ⟨tb, 2, none⟩ = some (.bool false) := hT1.cell 2
  have b3 : (wB.alloc (.cells #[.int .u64 0, .string ⟨#[]⟩, .bool false, .int .u64 0, .int .u64 0, .int .u64 0, .int .u64 0, .bool false, .string ⟨#[]⟩, .string ⟨#[]⟩, .slice none 0 0, .int .i64 0] 55)).cell? ⟨tb, 3, none⟩ = some (.int .u64 0) := hT1.cell 3
  have b4 : (wB.alloc (.cells #[.int .u64 0, .string ⟨#[]⟩, .bool false, .int .u64 0, .int .u64 0, .int .u64 0, .int .u64 0, .bool false, .string ⟨#[]⟩, .string ⟨#[]⟩, .slice none 0 0, .int .i64 0] 55)).cell? ⟨tb, 4, none⟩ = some (.int .u64 0) := hT1.cell 4
  have b5 : (wB.alloc (.cells #[.int .u64 0, .string ⟨#[]⟩, .bool false, .int .u64 0, .int .u64 0, .int .u64 0, .int .u64 0, .bool false, .string ⟨#[]⟩, .string ⟨#[]⟩, .slice none 0 0, .int .i64 0] 55)).cell? ⟨tb, 5, none⟩ = some (.int .u64 0) := hT1.cell 5
  have b6 : (wB.alloc (.cells #[.int .u64 0, .string ⟨#[]⟩, .bool false, .int .u64 0, .int .u64 0, .int .u64 0, .int .u64 0, .bool false, .string ⟨#[]⟩, .string ⟨#[]⟩, .slice none 0 0, .int .i64 0] 55)).cell? ⟨tb, 6, none⟩ = some (.int .u64 0) := hT1.cell 6
  have b7 : (wB.alloc (.cells #[.int .u64 0, .string ⟨#[]⟩, .bool false, .int .u64 0, .int .u64 0, .int .u64 0, .int .u64 0, .bool false, .string ⟨#[]⟩, .string ⟨#[]⟩, .slice none 0 0, .int .i64 0] 55)).cell? ⟨tb, 7, none⟩ = some (.bool false) := hT1.cell 7
  have b8 : (wB.alloc (.cells #[.int .u64 0, .string ⟨#[]⟩, .bool false, .int .u64 0, .int .u64 0, .int .u64 0, .int .u64 0, .bool false, .string ⟨#[]⟩, .string ⟨#[]⟩, .slice none 0 0, .int .i64 0] 55)).cell? ⟨tb, 8, none⟩ = some (.string ⟨#[]⟩) := hT1.cell 8
  have b9 : (wB.alloc (.cells #[.int .u64 0, .string ⟨#[]⟩, .bool false, .int .u64 0, .int .u64 0, .int .u64 0, .int .u64 0, .bool false, .string ⟨#[]⟩, .string ⟨#[]⟩, .slice none 0 0, .int .i64 0] 55)).cell? ⟨tb, 9, none⟩ = some (.string ⟨#[]⟩) := hT1.cell 9
  have b10 : (wB.alloc (.cells #[.int .u64 0, .string ⟨#[]⟩, .bool false, .int .u64 0, .int .u64 0, .int .u64 0, .int .u64 0, .bool false, .string ⟨#[]⟩, .string ⟨#[]⟩, .slice none 0 0, .int .i64 0] 55)).cell? ⟨tb, 10, none⟩ = some (.slice none 0 0) := hT1.cell 10
  have b11 : (wB.alloc (.cells #[.int .u64 0, .string ⟨#[]⟩, .bool false, .int .u64 0, .int .u64 0, .int .u64 0, .int .u64 0, .bool false, .string ⟨#[]⟩, .string ⟨#[]⟩, .slice none 0 0, .int .i64 0] 55)).cell? ⟨tb, 11, none⟩ = some (.int .i64 0) := hT1.cell 11
  have k0 : (wB.alloc (.cells #[.int .u64 0, .string ⟨#[]⟩, .bool false, .int .u64 0, .int .u64 0, .int .u64 0, .int .u64 0, .bool false, .string ⟨#[]⟩, .string ⟨#[]⟩, .slice none 0 0, .int .i64 0] 55)).frozen? ⟨tb, 0, none⟩ = false := hT1.frozen 0
  have k1 : (wB.alloc (.cells #[.int .u64 0, .string ⟨#[]⟩, .bool false, .int .u64 0, .int .u64 0, .int .u64 0, .int .u64 0, .bool false, .string ⟨#[]⟩, .string ⟨#[]⟩, .slice none 0 0, .int .i64 0] 55)).frozen? ⟨tb, 1, none⟩ = false := hT1.frozen 1
  have k2 : (wB.alloc (.cells #[.int .u64 0, .string ⟨#[]⟩, .bool false, .int .u64 0, .int .u64 0, .int .u64 0, .int .u64 0, .bool false, .string ⟨#[]⟩, .string ⟨#[]⟩, .slice none 0 0, .int .i64 0] 55)).frozen? ⟨tb, 2, none⟩ = false := hT1.frozen 2
  have k3 : (wB.alloc (.cells #[.int .u64 0, .string ⟨#[]⟩, .bool false, .int .u64 0, .int .u64 0, .int .u64 0, .int .u64 0, .bool false, .string ⟨#[]⟩, .string ⟨#[]⟩, .slice none 0 0, .int .i64 0] 55)).frozen? ⟨tb, 3, none⟩ = false := hT1.frozen 3
  have k4 : (wB.alloc (.cells #[.int .u64 0, .string ⟨#[]⟩, .bool false, .int .u64 0, .int .u64 0, .int .u64 0, .int .u64 0, .bool false, .string ⟨#[]⟩, .string ⟨#[]⟩, .slice none 0 0, .int .i64 0] 55)).frozen? ⟨tb, 4, none⟩ = false := hT1.frozen 4
  have k5 : (wB.alloc (.cells #[.int .u64 0, .string ⟨#[]⟩, .bool false, .int .u64 0, .int .u64 0, .int .u64 0, .int .u64 0, .bool false, .string ⟨#[]⟩, .string ⟨#[]⟩, .slice none 0 0, .int .i64 0] 55)).frozen? ⟨tb, 5, none⟩ = false := hT1.frozen 5
  have k6 : (wB.alloc (.cells #[.int .u64 0, .string ⟨#[]⟩, .bool false, .int .u64 0, .int .u64 0, .int .u64 0, .int .u64 0, .bool false, .string ⟨#[]⟩, .string ⟨#[]⟩, .slice none 0 0, .int .i64 0] 55)).frozen? ⟨tb, 6, none⟩ = false := hT1.frozen 6
  have k7 : (wB.alloc (.cells #[.int .u64 0, .string ⟨#[]⟩, .bool false, .int .u64 0, .int .u64 0, .int .u64 0, .int .u64 0, .bool false, .string ⟨#[]⟩, .string ⟨#[]⟩, .slice none 0 0, .int .i64 0] 55)).frozen? ⟨tb, 7, none⟩ = false := hT1.frozen 7
  have k8 : (wB.alloc (.cells #[.int .u64 0, .string ⟨#[]⟩, .bool false, .int .u64 0, .int .u64 0, .int .u64 0, .int .u64 0, .bool false, .string ⟨#[]⟩, .string ⟨#[]⟩, .slice none 0 0, .int .i64 0] 55)).frozen? ⟨tb, 8, none⟩ = false := hT1.frozen 8
  have k9 : (wB.alloc (.cells #[.int .u64 0, .string ⟨#[]⟩, .bool false, .int .u64 0, .int .u64 0, .int .u64 0, .int .u64 0, .bool false, .string ⟨#[]⟩, .string ⟨#[]⟩, .slice none 0 0, .int .i64 0] 55)).frozen? ⟨tb, 9, none⟩ = false := hT1.frozen 9
  have k10 : (wB.alloc (.cells #[.int .u64 0, .string ⟨#[]⟩, .bool false, .int .u64 0, .int .u64 0, .int .u64 0, .int .u64 0, .bool false, .string ⟨#[]⟩, .string ⟨#[]⟩, .slice none 0 0, .int .i64 0] 55)).frozen? ⟨tb, 10, none⟩ = false := hT1.frozen 10
  have k11 : (wB.alloc (.cells #[.int .u64 0, .string ⟨#[]⟩, .bool false, .int .u64 0, .int .u64 0, .int .u64 0, .int .u64 0, .bool false, .string ⟨#[]⟩, .string ⟨#[]⟩, .slice none 0 0, .int .i64 0] 55)).frozen? ⟨tb, 11, none⟩ = false := hT1.frozen 11
  have hl2 := hT1.lt
  have HM2 : Hid (Mod [tb] (wB.alloc (.cells #[.int .u64 0, .string ⟨#[]⟩, .bool false, .int .u64 0, .int .u64 0, .int .u64 0, .int .u64 0, .bool false, .string ⟨#[]⟩, .string ⟨#[]⟩, .slice none 0 0, .int .i64 0] 55)) (wB.alloc (.cells #[.int .u64 0, .string ⟨#[]⟩, .bool false, .int .u64 0, .int .u64 0, .int .u64 0, .int .u64 0, .bool false, .string ⟨#[]⟩, .string ⟨#[]⟩, .slice none 0 0, .int .i64 0] 55))) := hide (Mod.refl _ _)
  have HSc : Hid (SStep (wB.alloc (.cells #[.int .u64 0, .string ⟨#[]⟩, .bool false, .int .u64 0, .int .u64 0, .int .u64 0, .int .u64 0, .bool false, .string ⟨#[]⟩, .string ⟨#[]⟩, .slice none 0 0, .int .i64 0] 55)) sb s s (wB.alloc (.cells #[.int .u64 0, .string ⟨#[]⟩, .bool false, .int .u64 0, .int .u64 0, .int .u64 0, .int .u64 0, .bool false, .string ⟨#[]⟩, .string ⟨#[]⟩, .slice none 0 0, .int .i64 0] 55))) := hide (SStep.refl (HBB.out.new ((Mod.refl [] wB).alloc _)) (Mod.refl _ _))
  clear hT1 hkk
  go_enter Tryz.func18, Tryz.ntmps18
  go_wp2_with fail
  refine bodyPost_ret (results_cell_row rfl _ _ tb 55 (said0 : Said).cells (0, 0) _ rfl ?_ Tryz.underlying55 rfl (by kernel_rfl)) rfl ?_
  · exact HT2.out
  · refine ⟨said0, _, rfl, .none HKk.out, ?_⟩
    exact own_key h0 (HSB.out.trans (SStep.refl HBB.out ((Mod.refl [] wB).alloc _))) (h0.ok.mono (by omega))
theorem own_play {K : Nat} {W w : World} {sb : Nat} {s : Ss} (h0 : Own K W w sb s) (hK : K ≤ 64000) (x : SAct) (hok : x.OK) (hlg : x.large = false) :
    Calls Tryz.prog 18 #[.pointer (some ⟨sb, 0, none⟩), x.val] w fun e w' => ∃ o s', e = .returned (.agg o.cells) ∧ s.Plays x o s' ∧ SStep w sb s s' w' ∧ Own (K + 200) W w' sb s' := by
  by_cases hq0 : x.kind = 0
  · exact own_play_open h0 hK x hok hlg hq0
  by_cases hq1 : x.kind = 1
  · exact own_play_write h0 hK x hok hlg hq1
  by_cases hq2 : x.kind = 2
  · exact own_play_read h0 hK x hok hlg hq2
  by_cases hq3 : x.kind = 3
  · exact own_play_reset h0 hK x hok hlg hq3
  by_cases hq4 : x.kind = 4
  · exact own_play_stop h0 hK x hok hlg hq4
  by_cases hq5 : x.kind = 5
  · exact own_play_got h0 hK x hok hlg hq5
  by_cases hq6 : x.kind = 6
  · exact own_play_next h0 hK x hok hlg hq6
  by_cases hq7 : x.kind = 7
  · exact own_play_acked h0 hK x hok hlg hq7
  by_cases hq8 : x.kind = 8
  · exact own_play_lost h0 hK x hok hlg hq8
  by_cases hq9 : x.kind = 9
  · exact own_play_other h0 hK x hok hlg hq9
  exact own_play_none h0 hK x hok hlg (by omega)
end Go.Proofs.YtjdfemfobcjecaaGreat

/-
  streams, plain: what each act does to the sums.
-/
namespace Go.Proofs.YtjdfemfobcjecaaGreat
open Go.RowKit
set_option linter.unusedVariables false
set_option linter.unusedSimpArgs false
theorem came_put {s : Ss} {x x' : St} (hx : x ∈ s.l) (hn : (s.l.map St.id).Nodup) (hid : x'.id = x.id) : (s.put x').came + x.top = s.came + x'.top := sum_put (f := St.top) hid hn hx
theorem came_same {s : Ss} {x x' : St} (hx : x ∈ s.l) (hn : (s.l.map St.id).Nodup) (hid : x'.id = x.id) (ht : x'.top = x.top) : (s.put x').came = s.came := by
  have := came_put hx hn hid
  omega
theorem Put.top_ge {o o' : Ib} {a : Nat} {D : List UInt8} {fin : Bool} (hp : Put o a D fin o') (h : o.WF) : o.top ≤ o'.top := by
  by_cases h0 : o.putErr a D.length fin = 0
  · have ha : ¬ 4611686018427387903 < a := fun hlt => by unfold Ib.putErr at h0; rw [if_pos hlt] at h0; cases h0
    have h1 : o.fitErr (a + D.length) fin = 0 := by unfold Ib.putErr at h0; rw [if_neg ha] at h0; exact h0
    obtain ⟨h2, h3, h4⟩ := Ib.fitErr_zero h1
    have key : ∀ {q : Ib}, q.far = (o.came (a + D.length) fin).far → q.final = (o.came (a + D.length) fin).final → q.known = (o.came (a + D.length) fin).known → o.top ≤ q.top := by
      intro q e1 e2 e3
      unfold Ib.top
      rw [e1, e2, e3]
      unfold Ib.came
      simp only
      cases hk : o.known with
      | true =>
        have := h3 hk
        cases fin with
        | true => have := this.2 rfl; simp; omega
        | false => simp
      | false =>
        cases fin with
        | true => have := h4 rfl; simp; omega
        | false => simp; omega
    cases hr : o.reset with
    | true => rw [hp.old h0 hr]; exact key rfl rfl rfl
    | false => rw [(hp.new h0 hr).1]; exact key rfl rfl rfl
  · rw [hp.bad h0]; exact Nat.le_refl _
theorem made_came (s : Ss) (x : St) (h : x.top = 0) : (s.made x).came = s.came := by
  unfold Ss.came
  show ((s.l ++ [x]).map St.top).sum = _
  rw [List.map_append, List.sum_append]
  simp [h]
structure Ss.Keeps (s s' : Ss) : Prop where
  sent : s'.sent = s.sent
  came : s'.came = s.came
  read : s'.read = s.read
theorem Ss.Keeps.refl (s : Ss) : s.Keeps s := ⟨rfl, rfl, rfl⟩
theorem Ss.Keeps.put {s : Ss} {x x' : St} (hx : x ∈ s.l) (hw : s.WF) (hid : x'.id = x.id) (ht : x'.top = x.top) : s.Keeps (s.put x') := ⟨rfl, came_same hx hw.ids hid ht, rfl⟩
theorem keeps_opens {s s' : Ss} {k n e : Nat} (h : s.Opens k n e s') : s.Keeps s' := by
  rcases h with ⟨_, _, _, rfl⟩ | ⟨_, _, _, _, rfl⟩ | ⟨_, _, _, _, xb, ib, im, ob, rfl⟩
  · exact .refl _
  · exact .refl _
  · exact ⟨rfl, made_came _ _ (newSt_zero _ _ _ _ _ _).1, rfl⟩
theorem keeps_names {s s' : Ss} {id c : Nat} {may : Bool} {v : Value} (h : s.Names id may v c s') : s.Keeps s' := by
  cases h with
  | made s' x n h1 hn hm hc hl hf hop hx hid =>
    have hg := hf.grew (Nat.mod_lt _ (by omega))
    obtain ⟨t, e1, e2, e3⟩ := hg.l
    refine ⟨hg.sent, ?_, hg.read⟩
    unfold Ss.came
    rw [e1, List.map_append, List.sum_append]
    have : (t.map St.top).sum = 0 := by
      have h0 : ∀ y ∈ t, y.top = 0 := fun y hy => (e3 y hy).2.2.1
      clear e1 e2 e3
      induction t with
      | nil => rfl
      | cons y t ih => rw [List.map_cons, List.sum_cons, h0 y (by simp), ih (fun z hz => h0 z (by simp [hz]))]
    omega
  | _ => exact .refl _
theorem keeps_resetBy {s : Ss} {x : St} (hw : s.WF) (hx : x ∈ s.l) (b : Nat) (dv sv : Value) (o : Ob) (code : Nat) : s.Keeps (s.put (x.resetBy b dv sv o code)) := by
  refine .put hx hw ?_ ?_
  · unfold St.resetBy; split <;> rfl
  · unfold St.resetBy; split <;> rfl
theorem keeps_others {s s' : Ss} {l : Lm} (h : s.Others l s') : s.Keeps s' := by
  refine ⟨by rw [h.eq], ?_, by rw [h.eq]⟩
  unfold Ss.came
  congr 1
  apply List.ext_getElem?
  intro i
  rw [List.getElem?_map, List.getElem?_map]
  cases hx : s.l[i]? with
  | none =>
    have : s'.l[i]? = none := by rw [List.getElem?_eq_none_iff] at hx ⊢; rw [h.len]; exact hx
    rw [this]
  | some x =>
    obtain ⟨y, hy, hr⟩ := h.each i x hx
    obtain ⟨dv, sv, rfl⟩ := hr.is
    rw [hy]
    simp only [Option.map_some, Option.some.injEq]
    unfold St.raiseOut
    cases x.out <;> rfl
theorem gots_sums {K : Nat} {s s' : Ss} {f : Fr} {r : Int} (h : s.OK K) (hI : ∀ s1 v c, s.Names f.a (s.takes f.a) v c s1 → ∀ x ∈ s1.l, ∀ b m o, x.inn = some (b, m, o) → o.WF) (hg : s.Gots f r s') : s'.sent = s.sent ∧ s'.read = s.read ∧ s.came ≤ s'.came := by
  have of : ∀ {t : Ss}, s.Keeps t → t.sent = s.sent ∧ t.read = s.read ∧ s.came ≤ t.came := fun hk => ⟨hk.sent, hk.read, by rw [hk.came]; exact Nat.le_refl _⟩
  have two : ∀ {t u : Ss}, s.Keeps t → t.Keeps u → u.sent = s.sent ∧ u.read = s.read ∧ s.came ≤ u.came := fun h1 h2 => ⟨h2.sent.trans h1.sent, h2.read.trans h1.read, by rw [h2.came, h1.came]; exact Nat.le_refl _⟩
  cases hg with
  | comes r s' hk hc =>
    cases hc with
    | names v c s' hn hc => exact of (keeps_names hn)
    | beyond s' x hn => exact of (keeps_names hn)
    | reset s1 x b m m' o hn hx hid hb hi hk =>
      have h1 := keeps_names hn
      have hok := h.names hn
      have hw := hI _ _ _ hn x hx _ _ _ hi
      obtain ⟨_, _, h3, h4⟩ := Ib.resetTo_top hw f.c
      have hxt : x.top = o.top := by unfold St.top; rw [hi]
      have hp := came_put (x' := x.withIn b m' (o.resetTo f.c)) hx hok.wf.ids rfl
      have ht : (x.withIn b m' (o.resetTo f.c)).top = (o.resetTo f.c).top := rfl
      refine ⟨h1.sent, h1.read, ?_⟩
      have hge : o.top ≤ (o.resetTo f.c).top := by
        by_cases h0 : o.resetErr f.c = 0
        · obtain ⟨e1, e2, _⟩ := h3 h0; omega
        · rw [h4 h0]; exact Nat.le_refl _
      have := h1.came
      omega
    | put s1 x b m m' o o' hn hx hid hb hi hk hp =>
      have h1 := keeps_names hn
      have hok := h.names hn
      have hw := hI _ _ _ hn x hx _ _ _ hi
      have hge := hp.top_ge hw
      have hxt : x.top = o.top := by unfold St.top; rw [hi]
      have hpp := came_put (x' := x.withIn b m' o') hx hok.wf.ids rfl
      have ht : (x.withIn b m' o').top = o'.top := rfl
      refine ⟨h1.sent, h1.read, ?_⟩
      have := h1.came
      omega
  | stopBad v c s' hk hn hc => exact of (keeps_names hn)
  | stop s1 x b dv sv dv' sv' o hk hn hx hid ho => exact two (keeps_names hn) (keeps_resetBy (h.names hn).wf hx _ _ _ _ _)
  | raiseBad v c s' hk hn hc => exact of (keeps_names hn)
  | raise s1 x b dv sv dv' sv' o hk hn hx hid ho => exact two (keeps_names hn) (.put hx (h.names hn).wf rfl rfl)
  | blocked v c s' hk hn => exact of (keeps_names hn)
  | data s' hk ho => exact of (keeps_others ho)
  | bidis s' hk ho => exact of (keeps_others ho)
  | unis s' hk ho => exact of (keeps_others ho)
  | idle hk => exact of (.refl _)
  | bad hk => exact of (.refl _)
theorem ctlSt_top (x : St) : x.ctlSt.top = x.top := by unfold St.top; rw [x.ctlSt_same.2.2.1]
theorem pieces_sums {s s' : Ss} {x : St} (hw : s.WF) (hx : x ∈ s.l) {most : Int} {f : Fr} {is : Bool} (h : s.Pieces x most f is s') : s'.came = s.came ∧ s'.read = s.read ∧ s.sent ≤ s'.sent := by
  cases h with
  | none => exact ⟨rfl, rfl, Nat.le_refl _⟩
  | goes b dv sv dv' sv' o ho => exact ⟨came_same (x' := x.withOut b dv' sv' (o.next (s.much o most))) hx hw.ids rfl rfl, rfl, Nat.le_add_right _ _⟩
theorem nexts_sums {K : Nat} {most : Int} {s s' : Ss} {ids : List Int} {f : Fr} {is : Bool} (hn : Ss.Nexts most s ids f is s') : s.OK K → s'.came = s.came ∧ s'.read = s.read ∧ s.sent ≤ s'.sent := by
  induction hn with
  | none s => exact fun _ => ⟨rfl, rfl, Nat.le_refl _⟩
  | ctl x ids hx h => exact fun hk => ⟨came_same hx hk.wf.ids x.ctlSt_same.1 (ctlSt_top x), rfl, Nat.le_refl _⟩
  | piece x ids hx h hp =>
    intro hk
    obtain ⟨e1, e2, e3⟩ := pieces_sums (hk.ctl hx).wf (Ss.put_mem hx x.ctlSt_same.1) hp
    exact ⟨e1.trans (came_same hx hk.wf.ids x.ctlSt_same.1 (ctlSt_top x)), e2, e3⟩
  | more x hx h hp hn ih =>
    intro hk
    obtain ⟨e1, e2, e3⟩ := pieces_sums (hk.ctl hx).wf (Ss.put_mem hx x.ctlSt_same.1) hp
    obtain ⟨k1, k2, k3⟩ := ih ((hk.ctl hx).piece (Ss.put_mem hx x.ctlSt_same.1) hp)
    exact ⟨k1.trans (e1.trans (came_same hx hk.wf.ids x.ctlSt_same.1 (ctlSt_top x))), k2.trans e2, Nat.le_trans e3 k3⟩
/-- what an act does to the sums -/
structure Ss.Sums (s : Ss) (x : SAct) (o : Said) (s' : Ss) : Prop where
  sent : s.sent ≤ s'.sent
  came : s.came ≤ s'.came
  rd : s'.read = s.read + (if x.kind = 2 then o.text.size else 0)
  noCame : x.kind ≠ 5 → s'.came = s.came
  noSent : x.kind ≠ 6 → s'.sent = s.sent
theorem Ss.Sums.of {s s' : Ss} {x : SAct} {o : Said} (h : s.Keeps s') (hz : x.kind = 2 → o.text.size = 0) : s.Sums x o s' := by
  refine ⟨by rw [h.sent]; exact Nat.le_refl _, by rw [h.came]; exact Nat.le_refl _, ?_, fun _ => h.came, fun _ => h.sent⟩
  rw [h.read]
  split
  · rw [hz (by assumption)]; rfl
  · rfl
theorem Ss.Plays.sums {K : Nat} {s s' : Ss} {x : SAct} {o : Said} (h : s.OK K) (hI : ∀ y ∈ s.l, ∀ b m o, y.inn = some (b, m, o) → o.WF) (hp : s.Plays x o s') : s.Sums x o s' := by
  cases hp with
  | open_ hk n c s' ho => exact .of (keeps_opens ho) (fun h2 => by omega)
  | write hk c s' ho =>
    cases ho with
    | none => exact .of (.refl _) (fun h2 => by omega)
    | arg => exact .of (.refl _) (fun h2 => by omega)
    | goes y b dv sv dv' sv' o hg ho => exact .of (.put (Ss.get_mem hg).1 h.wf rfl rfl) (fun h2 => by omega)
  | read hk t d c s' ho =>
    cases ho with
    | none => exact .of (.refl _) (fun _ => rfl)
    | arg => exact .of (.refl _) (fun _ => rfl)
    | goes y b m m' o hg hi =>
      have hy := (Ss.get_mem hg).1
      obtain ⟨e1, e2, e3⟩ := Ib.read_taken (hI y hy _ _ _ hi) x.n
      have hid : (y.readTo b m' (o.read x.n)).id = y.id := by unfold St.readTo; split <;> rfl
      have htop : (y.readTo b m' (o.read x.n)).top = y.top := by
        have : y.top = o.top := by unfold St.top; rw [hi]
        rw [this]
        unfold St.readTo; split <;> exact e2
      have hc := came_same hy h.wf.ids hid htop
      have hr : (s.readsTo y b m' o x.n).read = s.read + (o.readS x.n).length := by unfold Ss.readsTo; split <;> rfl
      have hs : (s.readsTo y b m' o x.n).sent = s.sent := by unfold Ss.readsTo; split <;> rfl
      have hcc : (s.readsTo y b m' o x.n).came = s.came := by unfold Ss.readsTo; split <;> exact hc
      refine ⟨by rw [hs]; exact Nat.le_refl _, by rw [hcc]; exact Nat.le_refl _, ?_, fun _ => hcc, fun _ => hs⟩
      rw [hr, if_pos hk]
      rfl
  | reset hk c s' ho =>
    cases ho with
    | goes hc y b dv sv dv' sv' o hg ho => exact .of (keeps_resetBy h.wf (Ss.get_mem hg).1 _ _ _ _ _) (fun h2 => by omega)
    | _ => exact .of (.refl _) (fun h2 => by omega)
  | stop hk c s' ho =>
    cases ho with
    | goes hc y b m o hg ho hv => exact .of (.put (Ss.get_mem hg).1 h.wf rfl rfl) (fun h2 => by omega)
    | _ => exact .of (.refl _) (fun h2 => by omega)
  | got hk c s' ho =>
    obtain ⟨e1, e2, e3⟩ := gots_sums h (fun s1 v c hn => hn.ib hI) ho
    exact ⟨by rw [e1]; exact Nat.le_refl _, e3, by rw [e2, if_neg (by omega)]; rfl, fun h5 => absurd hk h5, fun _ => e1⟩
  | next hk f is s' ho =>
    have key : s'.came = s.came ∧ s'.read = s.read ∧ s.sent ≤ s'.sent := by
      cases ho with
      | data hr => exact ⟨rfl, rfl, Nat.le_refl _⟩
      | ids hr ss hu hn => exact nexts_sums hn h
    obtain ⟨e1, e2, e3⟩ := key
    exact ⟨e3, by rw [e1]; exact Nat.le_refl _, by rw [e2, if_neg (by omega)]; rfl, fun _ => e1, fun h6 => absurd hk h6⟩
  | acked hk s' ho =>
    cases ho with
    | no => exact .of (.refl _) (fun h2 => by omega)
    | goes y b dv sv dv' sv' o hg hk2 ho => exact .of (.put (Ss.get_mem hg).1 h.wf rfl rfl) (fun h2 => by omega)
  | lost hk s' ho =>
    cases ho with
    | data => exact .of ⟨rfl, rfl, rfl⟩ (fun h2 => by omega)
    | none => exact .of (.refl _) (fun h2 => by omega)
    | noOut => exact .of (.refl _) (fun h2 => by omega)
    | goes y b dv sv dv' sv' o hg hk2 ho => exact .of (.put (Ss.get_mem hg).1 h.wf rfl rfl) (fun h2 => by omega)
    | raise y hg hk2 => exact .of (.put (Ss.get_mem hg).1 h.wf rfl rfl) (fun h2 => by omega)
    | stop y hg hk2 => exact .of (.put (Ss.get_mem hg).1 h.wf rfl rfl) (fun h2 => by omega)
    | reset y hg hk2 => exact .of (.put (Ss.get_mem hg).1 h.wf rfl rfl) (fun h2 => by omega)
    | other => exact .of (.refl _) (fun h2 => by omega)
  | other hk s' ho => exact .of (keeps_others ho) (fun h2 => by omega)
  | none hk => exact .of (.refl _) (fun h2 => by omega)
end Go.Proofs.YtjdfemfobcjecaaGreat

/-
  The statement StreamsSums, walked; no condition.
-/
namespace Go.Proofs.YtjdfemfobcjecaaGreat
open Go.RowKit Go.Sort
set_option linter.unusedVariables false
set_option linter.unusedSimpArgs false
set_option maxRecDepth 100000 in
set_option maxHeartbeats 8000000 in
theorem walkStreamsSums (side : Int) (hs1 : -9223372036854775808 ≤ side) (hs2 : side ≤ 9223372036854775807) (own other : Lm) (A : Option Addr) (c : Nat) (l : List SAct) (W : World) (hu : own.U) (hu2 : other.U) (hE : Elems W A SAct.cells 20 l) (hok : ∀ y ∈ l, y.OK) :
    Calls Tryz.prog 7 #[.int .i64 side, own.val, other.val, .slice A l.length c] W fun e w' => e = .returned (.bool true) ∧ Below W.heap.size W w' := by
  have HE := hide hE
  have HOk := hide hok
  clear hE hok
  have hM0 : Mod [] W ((W.alloc (.cells #[.int .u64 (own.data : Int), .int .u64 (own.bl : Int), .int .u64 (own.br : Int), .int .u64 (own.un : Int), .int .u64 (own.bidis : Int), .int .u64 (own.unis : Int)] 24)).alloc (.cells #[.int .u64 (other.data : Int), .int .u64 (other.bl : Int), .int .u64 (other.br : Int), .int .u64 (other.un : Int), .int .u64 (other.bidis : Int), .int .u64 (other.unis : Int)] 24)) := ((Mod.refl [] W).alloc _).alloc _
  have hb0 := (Blk.new W 24 #[.int .u64 (own.data : Int), .int .u64 (own.bl : Int), .int .u64 (own.br : Int), .int .u64 (own.un : Int), .int .u64 (own.bidis : Int), .int .u64 (own.unis : Int)]).alloc (.cells #[.int .u64 (other.data : Int), .int .u64 (other.bl : Int), .int .u64 (other.br : Int), .int .u64 (other.un : Int), .int .u64 (other.bidis : Int), .int .u64 (other.unis : Int)] 24)
  have hb1 := Blk.new (W.alloc (.cells #[.int .u64 (own.data : Int), .int .u64 (own.bl : Int), .int .u64 (own.br : Int), .int .u64 (own.un : Int), .int .u64 (own.bidis : Int), .int .u64 (own.unis : Int)] 24)) 24 #[.int .u64 (other.data : Int), .int .u64 (other.bl : Int), .int .u64 (other.br : Int), .int .u64 (other.un : Int), .int .u64 (other.bidis : Int), .int .u64 (other.unis : Int)]
  rw [World.size_alloc] at hb1
  have HM0 := hide hM0
  have HBo := hide hb0
  have HBt := hide hb1
  have HAw := hide (stawake_any ((W.alloc (.cells #[.int .u64 (own.data : Int), .int .u64 (own.bl : Int), .int .u64 (own.br : Int), .int .u64 (own.un : Int), .int .u64 (own.bidis : Int), .int .u64 (own.unis : Int)] 24)).alloc (.cells #[.int .u64 (other.data : Int), .int .u64 (other.bl : Int), .int .u64 (other.br : Int), .int .u64 (other.un : Int), .int .u64 (other.bidis : Int), .int .u64 (other.unis : Int)] 24)))
  clear hM0 hb0 hb1
  unfold Lm.val
  go_enter Tryz.func7, Tryz.ntmps7
  go_wp2_with fail
  refine HAw.out.mono ?_
  rintro e w1 ⟨rfl, hm1⟩
  have HM1 := hide (HM0.out.trans hm1 (by simp))
  have hbo := hm1.blk HBo.out (by simp)
  have hbt := hm1.blk HBt.out (by simp)
  have u0 : w1.cell? ⟨W.heap.size, 0, none⟩ = some (.int .u64 (own.data : Int)) := hbo.cell 0
  have v0 : w1.cell? ⟨W.heap.size + 1, 0, none⟩ = some (.int .u64 (other.data : Int)) := hbt.cell 0
  have u1 : w1.cell? ⟨W.heap.size, 1, none⟩ = some (.int .u64 (own.bl : Int)) := hbo.cell 1
  have v1 : w1.cell? ⟨W.heap.size + 1, 1, none⟩ = some (.int .u64 (other.bl : Int)) := hbt.cell 1
  have u2 : w1.cell? ⟨W.heap.size, 2, none⟩ = some (.int .u64 (own.br : Int)) := hbo.cell 2
  have v2 : w1.cell? ⟨W.heap.size + 1, 2, none⟩ = some (.int .u64 (other.br : Int)) := hbt.cell 2
  have u3 : w1.cell? ⟨W.heap.size, 3, none⟩ = some (.int .u64 (own.un : Int)) := hbo.cell 3
  have v3 : w1.cell? ⟨W.heap.size + 1, 3, none⟩ = some (.int .u64 (other.un : Int)) := hbt.cell 3
  have u4 : w1.cell? ⟨W.heap.size, 4, none⟩ = some (.int .u64 (own.bidis : Int)) := hbo.cell 4
  have v4 : w1.cell? ⟨W.heap.size + 1, 4, none⟩ = some (.int .u64 (other.bidis : Int)) := hbt.cell 4
  have u5 : w1.cell? ⟨W.heap.size, 5, none⟩ = some (.int .u64 (own.unis : Int)) := hbo.cell 5
  have v5 : w1.cell? ⟨W.heap.size + 1, 5, none⟩ = some (.int .u64 (other.unis : Int)) := hbt.cell 5
  have hw1 := hbo.lt
  have hw2 := hbt.lt
  have hnw := own_new w1 side own other
  unfold Lm.val at hnw
  have HNw := hide hnw
  clear hm1 hbo hbt hnw
  go_wp2_with fail
  refine HNw.out.mono ?_
  rintro e w2 ⟨sb, mb, rfl, hO⟩
  obtain ⟨s0, hs0⟩ : ∃ s0, Ss.fresh mb side own other = s0 := ⟨_, rfl⟩
  rw [hs0] at hO
  have HO0 := hide hO
  clear hO hs0 u0 v0 u1 v1 u2 v2 u3 v3 u4 v4 u5 v5 hw1 hw2
  have hll := HE.out.len
  go_wp2_with fail
  refine (own_sums HO0.out).mono ?_
  rintro e w3 ⟨rfl, hm3, hO3⟩
  have HO3 := hide hO3
  clear hm3 hO3
  go_wp2_with fail
  go_loopw [10, 11, 12, 13] (fun a b c i wr => ∃ (k : Nat) (s : Ss), a = .int .u64 (s.sent : Int) ∧ b = .int .u64 (s.came : Int) ∧ c = .int .u64 (s.read : Int) ∧ i = .int .i64 (k : Int) ∧ k ≤ l.length ∧ k ≤ 60 ∧ Own (200 * k) w1 wr sb s) (fun _ _ _ i _ => l.length - (intOf i).toNat)
  case atStart => exact ⟨0, s0, rfl, rfl, rfl, rfl, Nat.zero_le _, by omega, HO3.out⟩
  case round => as_aux_lemma =>
    obtain ⟨k, s, rfl, rfl, rfl, rfl, hk, hk60, hO⟩ := hrel
    have HO := hide hO
    have HMr := hide (HM1.out.trans hO.mod (by simp))
    clear hO
    by_cases hlt : k < l.length
    · by_cases hl6 : k < 60
      · obtain ⟨x, hx⟩ : ∃ x, l[k]? = some x := ⟨_, List.getElem?_eq_getElem hlt⟩
        obtain ⟨g, o, rfl, hg, hcl⟩ := HE.out.at_ hx
        have hcl : ∀ (j : Nat) u, x.cells[j]? = some u → W.cell? ⟨g, o + k * 20 + j, none⟩ = some u := hcl
        have hxok := HOk.out x (List.mem_of_getElem? hx)
        have HXok := hide hxok
        have d60 : decide ((k : Int) < 60) = true := decide_eq_true (by omega)
        have xl : wr.rangeAt g (o + k * 20) x.cells := fun j v hv => (HMr.out.cell (p := ⟨g, o + k * 20 + j, none⟩) hg (by simp)).trans (hcl j v hv)
        have XL := hide xl
        clear hxok xl
        go_wp2_with (refine wpList_load_mid rfl 52 _ rfl g (o + k * 20) rfl x.cells _ XL.out rfl rfl (by kernel_rfl) ?_)
        have hlg : Calls Tryz.prog 17 #[.agg x.cells.toArray] wr _ := stlarge_any wr x HXok.out _ rfl
        refine hlg.mono ?_
        rintro e w4 ⟨rfl, hm4⟩
        clear XL hlg
        have HM4 := hide (HMr.out.trans hm4 (by simp))
        have HO4 := hide (HO.out.next hm4)
        clear hm4
        cases hla : x.large with
        | true =>
          clear hla
          go_wp2_with fail
          go_ret
          exact ⟨rfl, HM4.out.below (Nat.le_refl _) (by simp)⟩
        | false => as_aux_lemma =>
          have xl : w4.rangeAt g (o + k * 20) x.cells := fun j v hv => (HM4.out.cell (p := ⟨g, o + k * 20 + j, none⟩) hg (by simp)).trans (hcl j v hv)
          have XL := hide xl
          have HLa := hide hla
          clear hla xl
          go_wp2_with (refine wpList_load_mid rfl 52 _ rfl g (o + k * 20) rfl x.cells _ XL.out rfl rfl (by kernel_rfl) ?_)
          have hpl : Calls Tryz.prog 18 #[.pointer (some ⟨sb, 0, none⟩), .agg x.cells.toArray] w4 _ := own_play HO4.out (by omega) x HXok.out HLa.out
          refine hpl.mono ?_
          rintro e w5 ⟨p, s', rfl, hp, hst, hO5⟩
          clear XL hpl
          have hsum := hp.sums HO4.out.ok HO4.out.ib
          have hrl := Ss.read_le hO5.box hO5.ok.wf
          have hcl5 := hO5.ok.wf.came
          have hll5 : s'.limit ≤ 4611686018427387903 := hO5.ok.wf.lim
          have hrl4 := Ss.read_le HO4.out.box HO4.out.ok.wf
          have HSum := hide hsum
          have HO5 := hide (show Own (200 * (k + 1)) w1 w5 sb s' from hO5.mono (by omega))
          clear hp hst hO5 hsum
          go_upto_region 11 with (refine wpList_store_open rfl 55 _ _ rfl rfl _ p.cells rfl rfl (by kernel_rfl) rfl (by kernel_rfl) ?_; intro w7 m7 b7 s7; have HM7 := hide m7; have HB7 := hide b7; clear m7 b7 s7)
          obtain ⟨go, hgo⟩ : ∃ go, w5.heap.size = go := ⟨_, rfl⟩
          rw [hgo]
          rw [hgo] at HB7
          have HO7 := hide (HO5.out.next HM7.out)
          clear hgo
          go_wp2_with fail
          refine (own_sums HO7.out).mono ?_
          rintro e w6 ⟨rfl, hm6, hO6⟩
          have hb6 := hm6.blk HB7.out (by simp)
          have z1 : w6.cell? ⟨go, 1, none⟩ = some (.string p.text) := hb6.cell 1
          have HO6 := hide hO6
          have HM6 := hide (HM1.out.trans HO6.out.mod (by simp))
          have y0 : w6.cell? ⟨g, o + k * 20, none⟩ = some (.int .i64 x.kind) := (HM6.out.cell (p := ⟨g, o + k * 20 + 0, none⟩) hg (by simp)).trans (hcl 0 _ rfl)
          have e1 : ¬ s'.sent < s.sent := by have := HSum.out.sent; omega
          have e2 : ¬ s'.came < s.came := by have := HSum.out.came; omega
          have e3 : ¬ s'.read < s.read := by have := HSum.out.rd; omega
          have e4 : ¬ s'.came < s'.read := by omega
          clear hm6 hO6 hb6 hu hu2 hcl
          by_cases hk2 : x.kind = 2
          · as_aux_lemma =>
            have hkk := hk2
            clear hk2
            have HKk := hide hkk
            have ke2 : (x.kind == 2) = true := by rw [hkk]; rfl
            have kn2 : (x.kind != 2) = false := by rw [bne, ke2]; rfl
            have ke5 : (x.kind == 5) = false := by rw [hkk]; rfl
            have kn5 : (x.kind != 5) = true := by rw [bne, ke5]; rfl
            have ke6 : (x.kind == 6) = false := by rw [hkk]; rfl
            have kn6 : (x.kind != 6) = true := by rw [bne, ke6]; rfl
            have q1 : IntKind.u64.wrap ((s'.read : Int) - (s.read : Int)) = (p.text.size : Int) := by
              have h1 := HSum.out.rd
              rw [if_pos hkk] at h1
              rw [show (s'.read : Int) - (s.read : Int) = (p.text.size : Int) by omega]; exact IntWalk.u64_in _ (by omega)
            have q2 : IntKind.u64.wrap (p.text.size : Int) = (p.text.size : Int) := by
              have h1 := HSum.out.rd
              rw [if_pos hkk] at h1
              exact IntWalk.u64_in _ (by omega)
            have dc : ((s'.came : Int) != (s.came : Int)) = false := by
              have h1 := HSum.out.noCame (by omega)
              rw [bne_eq_false_iff_eq]; omega
            have ds : ((s'.sent : Int) != (s.sent : Int)) = false := by
              have h1 := HSum.out.noSent (by omega)
              rw [bne_eq_false_iff_eq]; omega
            clear hkk
            go_upto_region 12 with fail
            simp only [List.append_eq, List.cons_append, List.nil_append]
            go_wp2_with fail
            go_roundw
            case rel => exact ⟨k + 1, s', rfl, rfl, rfl, by go_num, by omega, by omega, HO6.out⟩
            case measure => simp [intOf]; omega
          by_cases hkk5 : x.kind = 5
          · have hkk := hkk5
            clear hkk5 hk2
            have HKk := hide hkk
            have ke2 : (x.kind == 2) = false := by rw [hkk]; rfl
            have kn2 : (x.kind != 2) = true := by rw [bne, ke2]; rfl
            have ke5 : (x.kind == 5) = true := by rw [hkk]; rfl
            have kn5 : (x.kind != 5) = false := by rw [bne, ke5]; rfl
            have ke6 : (x.kind == 6) = false := by rw [hkk]; rfl
            have kn6 : (x.kind != 6) = true := by rw [bne, ke6]; rfl
            have dr : ((s'.read : Int) != (s.read : Int)) = false := by
              have h1 := HSum.out.rd
              rw [if_neg (by omega)] at h1
              rw [bne_eq_false_iff_eq]; omega
            have ds : ((s'.sent : Int) != (s.sent : Int)) = false := by
              have h1 := HSum.out.noSent (by omega)
              rw [bne_eq_false_iff_eq]; omega
            clear hkk
            go_upto_region 12 with fail
            simp only [List.append_eq, List.cons_append, List.nil_append]
            go_wp2_with fail
            go_roundw
            case rel => exact ⟨k + 1, s', rfl, rfl, rfl, by go_num, by omega, by omega, HO6.out⟩
            case measure => simp [intOf]; omega
          by_cases hkk6 : x.kind = 6
          · have hkk := hkk6
            clear hkk6 hkk5 hk2
            have HKk := hide hkk
            have ke2 : (x.kind == 2) = false := by rw [hkk]; rfl
            have kn2 : (x.kind != 2) = true := by rw [bne, ke2]; rfl
            have ke5 : (x.kind == 5) = false := by rw [hkk]; rfl
            have kn5 : (x.kind != 5) = true := by rw [bne, ke5]; rfl
            have ke6 : (x.kind == 6) = true := by rw [hkk]; rfl
            have kn6 : (x.kind != 6) = false := by rw [bne, ke6]; rfl
            have dr : ((s'.read : Int) != (s.read : Int)) = false := by
              have h1 := HSum.out.rd
              rw [if_neg (by omega)] at h1
              rw [bne_eq_false_iff_eq]; omega
            have dc : ((s'.came : Int) != (s.came : Int)) = false := by
              have h1 := HSum.out.noCame (by omega)
              rw [bne_eq_false_iff_eq]; omega
            clear hkk
            go_upto_region 12 with fail
            simp only [List.append_eq, List.cons_append, List.nil_append]
            go_wp2_with fail
            go_roundw
            case rel => exact ⟨k + 1, s', rfl, rfl, rfl, by go_num, by omega, by omega, HO6.out⟩
            case measure => simp [intOf]; omega
          have ke2 : (x.kind == 2) = false := by rw [beq_eq_false_iff_ne]; assumption
          have kn2 : (x.kind != 2) = true := by rw [bne, ke2]; rfl
          have ke5 : (x.kind == 5) = false := by rw [beq_eq_false_iff_ne]; assumption
          have kn5 : (x.kind != 5) = true := by rw [bne, ke5]; rfl
          have ke6 : (x.kind == 6) = false := by rw [beq_eq_false_iff_ne]; assumption
          have kn6 : (x.kind != 6) = true := by rw [bne, ke6]; rfl
          have dr : ((s'.read : Int) != (s.read : Int)) = false := by
            have h1 := HSum.out.rd
            rw [if_neg (by omega)] at h1
            rw [bne_eq_false_iff_eq]; omega
          have dc : ((s'.came : Int) != (s.came : Int)) = false := by
            have h1 := HSum.out.noCame (by omega)
            rw [bne_eq_false_iff_eq]; omega
          have ds : ((s'.sent : Int) != (s.sent : Int)) = false := by
            have h1 := HSum.out.noSent (by omega)
            rw [bne_eq_false_iff_eq]; omega
          clear hk2 hkk5 hkk6
          go_upto_region 12 with fail
          simp only [List.append_eq, List.cons_append, List.nil_append]
          go_wp2_with fail
          go_roundw
          case rel => exact ⟨k + 1, s', rfl, rfl, rfl, by go_num, by omega, by omega, HO6.out⟩
          case measure => simp [intOf]; omega
      · obtain rfl : k = 60 := by omega
        have d60 : decide (((60 : Nat) : Int) < 60) = false := rfl
        go_wp2_with fail
        go_ret
        exact ⟨rfl, HMr.out.below (Nat.le_refl _) (by simp)⟩
    · go_wp2_with fail
      go_ret
      exact ⟨rfl, HMr.out.below (Nat.le_refl _) (by simp)⟩
end Go.Proofs.YtjdfemfobcjecaaGreat

/-
  The row of 'StreamsSums': the walk's contract brought to the given statement.
-/
namespace Go.Proofs.YtjdfemfobcjecaaGreat.lawStreamsSums
open Go.ChangeShapes Go.WideShapes Go.ChangeAt Go.RowKit
open Go.ChangeMaps (open_string shut_string)
set_option linter.unusedVariables false

theorem own : ownKnob Tryz.prog.godebug = none := by kernel_rfl
theorem laidOut : laidOutB Tryz.prog = true := by kernel_rfl

set_option maxRecDepth 100000 in
theorem lifted (os : Os) (started : os.Started) (H : Type) (enc : TypeId × Value → H) :
    ReturnsInHanded {} Tryz.checked os 7 .any (Rows.streamsSumsSpec.pre6 enc Tryz.prog Tryz.f7 Rows.streamsSumsRow.domain false) (Rows.streamsSumsSpec.post enc Tryz.prog Tryz.f7 false true false false) := by
  refine returnsInHanded_of_change (C := Tryz.checked) own started (by kernel_rfl) Tryz.func7
    (ChangeSpec.witness6 (enc := enc) (C := Tryz.checked) false ⟨#[], #[.int .i64 0, .agg #[.int .u64 0, .int .u64 0, .int .u64 0, .int .u64 0, .int .u64 0, .int .u64 0], .agg #[.int .u64 0, .int .u64 0, .int .u64 0, .int .u64 0, .int .u64 0, .int .u64 0], .slice none 0 0], []⟩ 8 (by kernel_rfl) (by kernel_rfl) (by kernel_rfl) (by kernel_rfl)) ?_
  intro W base args ds gs before hval0 hW hcnd _
  have hval : ∀ (j : Nat) t v, Tryz.f7.params[j]? = some t → args[j]? = some v → Value.okWide Tryz.prog W .any base t v := hval0
  have hW' := hW
  obtain ⟨p, q, hA0, hV, rfl, hfz, hnd⟩ := hW
  have hA : DataW.TrodAll enc Tryz.prog W 0 (fun _ => true) true Tryz.f7.params.toList args.toList ds p := hA0
  rw [Tryz.params7] at hA hval
  obtain ⟨v0, vs0, d0, ds0, p0, q0, hargs, rfl, rfl, h0, r0⟩ := trodAll_cons hA
  obtain ⟨v1, vs1, d1, ds1, p1, q1, rfl, rfl, rfl, h1, r1⟩ := trodAll_cons r0
  obtain ⟨v2, vs2, d2, ds2, p2, q2, rfl, rfl, rfl, h2, r2⟩ := trodAll_cons r1
  obtain ⟨v3, vs3, d3, ds3, p3, q3, rfl, rfl, rfl, h3, r3⟩ := trodAll_cons r2
  obtain ⟨rfl, rfl, rfl⟩ := trodAll_nil r3
  obtain rfl : args = #[v0, v1, v2, v3] := by cases args; simp_all
  obtain ⟨rfl, rfl⟩ := trodVars_none hV
  obtain ⟨z0, rfl, rfl, rfl, w0⟩ := open_int Tryz.underlying3 (hval 0 3 v0 rfl rfl) h0
  have bd0 := bounds_i64 w0
  have k1 := h1
  have lt1 : ∀ x ∈ p1, x.block < W.heap.size := by obtain ⟨m, hm⟩ := k1; exact DataW.trod_lt m _ _ _ hm
  obtain ⟨l1, rfl, u1⟩ := open_limits (hval 1 24 v1 rfl rfl) h1
  have k2 := h2
  have lt2 : ∀ x ∈ p2, x.block < W.heap.size := by obtain ⟨m, hm⟩ := k2; exact DataW.trod_lt m _ _ _ hm
  obtain ⟨l2, rfl, u2⟩ := open_limits (hval 2 24 v2 rfl rfl) h2
  have k3 := h3
  have lt3 : ∀ x ∈ p3, x.block < W.heap.size := by obtain ⟨m, hm⟩ := k3; exact DataW.trod_lt m _ _ _ hm
  obtain ⟨A3, c3, l3, rfl, u3, ok3⟩ := open_sacts (hval 3 49 v3 rfl rfl) h3
  clear hA0 hval0
  refine (walkStreamsSums z0 bd0.1 bd0.2 l1 l2 A3 c3 l3 W u1 u2 u3 ok3).mono fun e W' ⟨he, bel⟩ => ?_
  subst he
  exact ⟨_, rfl, _, _, _, [], _, [], hW', trodAll_mk1 (shut_bool Tryz.underlying4 _), (trodAll_cons_mk (shut_int Tryz.underlying3 w0) (trodAll_cons_mk (Below.trod laidOut (by kernel_rfl) (of_decide_eq_true (by kernel_rfl)) k1 bel lt1) (trodAll_cons_mk (Below.trod laidOut (by kernel_rfl) (of_decide_eq_true (by kernel_rfl)) k2 bel lt2) (trodAll_cons_mk (Below.trod laidOut (by kernel_rfl) (of_decide_eq_true (by kernel_rfl)) k3 bel lt3) trodAll_mk0)))), rfl, bel.frame _, fun h => by cases h⟩

theorem over : Rows.streamsSumsRow.holds Tryz.pinned (OpenSpec.ofChange Rows.streamsSumsSpec) :=
  OpenClaim.holds_of_wide 7 Tryz.f7 rfl rfl rfl rfl rfl rfl rfl ⟨rfl, rfl, rfl, rfl, rfl⟩ rfl rfl rfl rfl rfl (by kernel_rfl) Tryz.func7 (by kernel_rfl)
    (of_decide_eq_true (by kernel_rfl)) (by unfold Func.isWrapper; first | (rw [if_pos (by decide +kernel)]; kernel_rfl) | (rw [if_neg (by decide +kernel)]; exact ⟨rfl, rfl⟩))
    (fun os started H enc _ => lifted os started H enc)

/-- The statement. -/
theorem proved : Rows.StreamsSumsSaid := over
#print axioms proved
end Go.Proofs.YtjdfemfobcjecaaGreat.lawStreamsSums
