/-
  the acts that a statement over inbox is given, in memory.
-/
import Derived.Test.YtfbcbddfmiiilaaIbFirst
import Derived.Deep.Slices
import Derived.Deep.Fields
import Derived.ChangeSame
import Derived.OpenShut
namespace Go.Proofs.Ytfbcbddfmiiilaa
open Go.RowKit

structure PAct where
  kind : Int
  num : Int
  at_ : Nat
  data : ByteArray
  fin : Bool

structure PAct.OK (x : PAct) : Prop where
  k1 : -9223372036854775808 ≤ x.kind
  k2 : x.kind ≤ 9223372036854775807
  n1 : -9223372036854775808 ≤ x.num
  n2 : x.num ≤ 9223372036854775807
  a : x.at_ ≤ 18446744073709551615
  d : x.data.size ≤ 9223372036854775807

def PAct.cells (x : PAct) : List Value := [.int .i64 x.kind, .int .i64 x.num, .int .u64 (x.at_ : Nat), .string x.data, .bool x.fin]
def PAct.val (x : PAct) : Value := .agg #[.int .i64 x.kind, .int .i64 x.num, .int .u64 (x.at_ : Nat), .string x.data, .bool x.fin]
def PAct.large (x : PAct) : Bool := decide (300 < x.data.size)

set_option maxHeartbeats 400000 in
theorem large_is (w : World) (x : PAct) (v : Bool) (hv : x.large = v) :
    Calls Try.prog 16 #[x.val] w fun e w' => e = .returned (.bool v) ∧ Mod [] w w' := by
  subst hv
  have hl : Hid (x.large = decide (300 < x.data.size)) := hide rfl
  unfold PAct.val
  go_enter Try.func16, Try.ntmps16
  go_wp2
  go_ret
  refine ⟨ret_bool (by rw [hl.out]; apply decide_eq_decide.2; omega), (Mod.refl _ _).alloc _⟩

/-- The slice of acts that came in: it is empty, or its acts' fields lie in a row. -/
def IsActs (w : World) (a : Option Addr) (len : Nat) (l : List PAct) : Prop :=
  l.length = len ∧ len ≤ 9223372036854775807 ∧ (len = 0 ∨ ∃ b off, a = some ⟨b, off, none⟩ ∧ b < w.heap.size ∧
    ∀ i x, l[i]? = some x → x.OK ∧ ∀ j v, x.cells[j]? = some v → w.cell? ⟨b, off + i * 5 + j, none⟩ = some v)

/-- an act's six fields, at a place -/
def PAct.Lies (x : PAct) (w : World) (b o : Nat) : Prop :=
  b < w.heap.size ∧ w.cell? ⟨b, o, none⟩ = some (.int .i64 x.kind) ∧ w.cell? ⟨b, o + 1, none⟩ = some (.int .i64 x.num) ∧ w.cell? ⟨b, o + 2, none⟩ = some (.int .u64 (x.at_ : Nat)) ∧
      w.cell? ⟨b, o + 3, none⟩ = some (.string x.data) ∧ w.cell? ⟨b, o + 4, none⟩ = some (.bool x.fin)
theorem PAct.Lies.mod {x : PAct} {W w : World} {b o : Nat} (h : x.Lies W b o) (hm : Mod [] W w) : x.Lies w b o := by
  obtain ⟨hb, c0, c1, c2, c3, c4⟩ := h
  exact ⟨Nat.lt_of_lt_of_le hb hm.size, (hm.cell (by exact hb) (by simp)).trans c0, (hm.cell (by exact hb) (by simp)).trans c1, (hm.cell (by exact hb) (by simp)).trans c2,
    (hm.cell (by exact hb) (by simp)).trans c3, (hm.cell (by exact hb) (by simp)).trans c4⟩

theorem IsActs.at_ {w : World} {a : Option Addr} {len : Nat} {l : List PAct} (h : IsActs w a len l) {i : Nat} (hi : i < len) :
    ∃ b off x, a = some ⟨b, off, none⟩ ∧ l[i]? = some x ∧ x.OK ∧ x.Lies w b (off + i * 5) := by
  obtain ⟨h1, _, h2⟩ := h
  rcases h2 with h2 | ⟨b, off, rfl, hb, hc⟩
  · omega
  · obtain ⟨x, hx⟩ : ∃ x, l[i]? = some x := ⟨_, List.getElem?_eq_getElem (by omega)⟩
    obtain ⟨hok, hcell⟩ := hc i x hx
    exact ⟨b, off, x, rfl, hx, hok, hb, hcell 0 _ rfl, hcell 1 _ rfl, hcell 2 _ rfl, hcell 3 _ rfl, hcell 4 _ rfl⟩

theorem exists_list {α : Type} {n : Nat} {P : Nat → α → Prop} (h : ∀ i, i < n → ∃ x, P i x) : ∃ l : List α, l.length = n ∧ ∀ i x, l[i]? = some x → P i x := by
  induction n with
  | zero => exact ⟨[], rfl, fun i x hx => by simp at hx⟩
  | succ n ih =>
    obtain ⟨l, hl, hp⟩ := ih (fun i hi => h i (by omega))
    obtain ⟨x, hx⟩ := h n (by omega)
    refine ⟨l ++ [x], by simp [hl], fun i y hy => ?_⟩
    by_cases hi : i < n
    · rw [List.getElem?_append_left (by omega)] at hy
      exact hp i y hy
    · have : i = n := by
        have := (List.getElem?_eq_some_iff.1 hy).1
        simp at this
        omega
      subst this
      rw [List.getElem?_append_right (by omega), hl] at hy
      simp at hy
      subst hy
      exact hx

/-! ### opening: a slice of structs of one-cell fields (after the guide's extra-structs) -/
section
open Go.ChangeShapes Go.WideShapes Go.Deep
variable {H : Type} {enc : TypeId × Value → H} {P : Program} {w : World} {base : Nat} {spare : Nat → Bool} {held : Bool}
theorem open_slice_fields {t e : TypeId} {fs : Array Field} {fuel : Nat} {cs : List Value} {x : DataW H × List MemPlace} (ht : P.underlying t = some (.slice e)) (he : P.underlying e = some (.struct fs))
    (hone : oneCellFields P fs = true) (hC : P.cellsOf e = fs.size) (h : DataW.trod enc P w base spare held fuel t cs = some x) :
    (cs = [.slice none 0 0] ∧ x = (.nil, [])) ∨
    ∃ (a : Addr) (len cap m : Nat) (D : Nat → DataW H) (Pl : Nat → List MemPlace), cs = [.slice (some a) len cap] ∧ base ≤ a.block ∧ len ≤ cap ∧ cap ≤ maxLen ∧ m = (if spare a.block then cap else len) ∧
      x = (.slice ((List.range len).map D) ((List.range (m - len)).map fun j => D (len + j)), MemPlace.row a (m * fs.size) ++ (List.range m).flatMap Pl) ∧
      ∀ i, i < m → ∃ (ys : List (DataW H × List MemPlace)) (n : Nat), D i = .agg (ys.map (·.1)) ∧ Pl i = ys.flatMap (·.2) ∧ ys.length = fs.size ∧
        ∀ (j : Nat) (f : Field), fs[j]? = some f → ∃ (v : Value) (y : DataW H × List MemPlace), w.cell? (a.add (i * fs.size + j)) = some v ∧ ys[j]? = some y ∧ DataW.trod enc P w base spare held n f.type [v] = some y := by
  rcases open_slice ht h with h0 | ⟨a, len, cap, m, n, D, Pl, hcs, hb, hl, hm, hmm, hx, hi⟩
  · exact .inl h0
  · refine .inr ⟨a, len, cap, m, D, Pl, hcs, hb, hl, hm, hmm, by rw [hC] at hx; exact hx, fun i him => ?_⟩
    obtain ⟨cs', hc, ht'⟩ := hi i him
    rw [hC] at hc
    obtain ⟨ys, n', hn', hy, hlen, hyl, hf⟩ := DataW.trod_struct he ht'
    obtain ⟨_, hcl, hat⟩ := World.cells?_some hc
    simp only [Prod.mk.injEq] at hy
    refine ⟨ys, n', hy.1, hy.2, hyl, fun j f hj => ?_⟩
    obtain ⟨ho, hk⟩ := hone_of hone j f hj
    have hjl : j < fs.size := (Array.getElem?_eq_some_iff.1 hj).1
    have hcell := hat j hjl
    have hv : cs'[j]? = some (cs'[j]'(by omega)) := List.getElem?_eq_getElem (by omega)
    have h1 := hf j f hj
    rw [ho, hk] at h1
    have hone' : (cs'.drop j).take 1 = [cs'[j]'(by omega)] := by
      rw [List.drop_eq_getElem_cons (by omega)]
      rfl
    rw [hone'] at h1
    have hys : ys[j]? = some (ys[j]'(by omega)) := List.getElem?_eq_getElem (by omega)
    refine ⟨_, _, ?_, hys, h1.trans hys⟩
    rw [← Go.Deep.add_add, hcell, hv]
end

section
open Go.ChangeShapes Go.WideShapes
variable {H : Type} {enc : TypeId × Value → H} {w : World} {base : Nat} {held : Bool}
theorem open_acts {v : Value} {d : DataW H} {p : List MemPlace} {r : Reach} {b0 : Nat} (hv : Value.okWide Try.prog w r b0 38 v) (h : DataW.Trod enc Try.prog w base (fun _ => true) held 38 v d p) :
    ∃ a len cap l, v = .slice a len cap ∧ IsActs w a len l := by
  obtain ⟨a, len, cap, rfl⟩ := okWide_slice Try.underlying38 hv
  obtain ⟨fuel, hf⟩ := h
  rcases open_slice_fields Try.underlying38 Try.underlying40 (by kernel_rfl) (by kernel_rfl) hf with ⟨hcs, _⟩ | ⟨x, l, c, m, D, Pl, hcs, _, hl, hm, hmm, _, hi⟩
  · simp [Value.cells] at hcs
    obtain ⟨rfl, rfl, rfl⟩ := hcs
    exact ⟨none, 0, 0, [], rfl, rfl, by omega, .inl rfl⟩
  · simp [Value.cells] at hcs
    obtain ⟨rfl, rfl, rfl⟩ := hcs
    simp only [if_true] at hmm
    subst hmm
    have hex : ∀ i, i < len → ∃ y : PAct, y.OK ∧ ∀ j v, y.cells[j]? = some v → w.cell? (x.add (i * 5 + j)) = some v := by
      intro i hil
      obtain ⟨ys, n, _, _, hyl, hf⟩ := hi i (by omega)
      obtain ⟨v0, y0, c0, _, t0⟩ := hf 0 _ rfl
      obtain ⟨v1, y1, c1, _, t1⟩ := hf 1 _ rfl
      obtain ⟨v2, y2, c2, _, t2⟩ := hf 2 _ rfl
      obtain ⟨v3, y3, c3, _, t3⟩ := hf 3 _ rfl
      obtain ⟨v4, y4, c4, _, t4⟩ := hf 4 _ rfl
      obtain ⟨x0, e0, _, w0⟩ := DataW.trod_int Try.underlying3 t0
      obtain ⟨x1, e1, _, w1⟩ := DataW.trod_int Try.underlying3 t1
      obtain ⟨x2, e2, _, w2⟩ := DataW.trod_int Try.underlying27 t2
      obtain ⟨x3, e3, _, w3⟩ := DataW.trod_string Try.underlying9 t3
      obtain ⟨x4, e4, _⟩ := DataW.trod_bool Try.underlying4 t4
      simp only [List.cons.injEq, and_true] at e0 e1 e2 e3 e4
      subst e0 e1 e2 e3 e4
      have b0 := bounds_i64 w0
      have b1 := bounds_i64 w1
      have b2 := bounds_u64 w2
      obtain ⟨u2, rfl⟩ := Int.eq_ofNat_of_zero_le b2.1
      refine ⟨⟨x0, x1, u2, x3, x4⟩, ⟨b0.1, b0.2, b1.1, b1.2, (by omega : u2 ≤ 18446744073709551615), by simpa [maxLen] using w3⟩, fun j v hj => ?_⟩
      match j, hj with
      | 0, hj => cases hj; exact c0
      | 1, hj => cases hj; exact c1
      | 2, hj => cases hj; exact c2
      | 3, hj => cases hj; exact c3
      | 4, hj => cases hj; exact c4
    obtain ⟨L, hL, hP⟩ := exists_list hex
    refine ⟨some x, len, _, L, rfl, hL, by simp only [maxLen] at hm; omega, ?_⟩
    rcases Nat.eq_zero_or_pos len with h0 | h0
    · exact .inl h0
    · right
      obtain ⟨b, off, spot⟩ := x
      obtain ⟨y, hy⟩ : ∃ y, L[0]? = some y := ⟨_, List.getElem?_eq_getElem (by omega)⟩
      have hc0 := (hP 0 y hy).2 0 _ rfl
      have hspot : spot = none := by simpa [Addr.add] using World.cell?_spot hc0
      subst hspot
      refine ⟨b, off, rfl, World.block_lt_of_cell? w _ hc0, fun i z hz => ⟨(hP i z hz).1, fun j v hv => ?_⟩⟩
      have := (hP i z hz).2 j v hv
      rw [Addr.add_lit] at this
      rw [Nat.add_assoc]
      exact this
end
end Go.Proofs.Ytfbcbddfmiiilaa
