/-
  json: values that came in: opened.
-/
import Derived.Test.YtkbpndohpkcikaaDoorJsWt
import Derived.OpenShut
import Derived.ChangeSame
import Derived.SizedLaws
import Derived.Deep.Fields
import Derived.Deep.Slices
namespace Go.Proofs.YtkbpndohpkcikaaDoor
open Go.RowKit Js
set_option linter.unusedVariables false
theorem jex_list {α : Type} {n : Nat} {P : Nat → α → Prop} (h : ∀ i, i < n → ∃ x, P i x) : ∃ l : List α, l.length = n ∧ ∀ i x, l[i]? = some x → P i x := by
  induction n with
  | zero => exact ⟨[], rfl, fun i x hx => by simp at hx⟩
  | succ n ih =>
    obtain ⟨l, hl, hp⟩ := ih (fun i hi => h i (by omega))
    obtain ⟨x, hx⟩ := h n (by omega)
    refine ⟨l ++ [x], by simp [hl], fun i y hy => ?_⟩
    by_cases hi : i < n
    · rw [List.getElem?_append_left (by omega)] at hy
      exact hp i y hy
    · have : i = n := by
        have := (List.getElem?_eq_some_iff.1 hy).1
        simp at this
        omega
      subst this
      rw [List.getElem?_append_right (by omega), hl] at hy
      simp at hy
      subst hy
      exact hx
section
open Go.ChangeShapes Go.WideShapes
variable {H : Type} {enc : TypeId × Value → H} {w : World} {held : Bool}
theorem weightsAll_mem {P : Program} {e : TypeId} {d : DataW H} {n : Nat} (hn : n ∈ d.weights P e) : ∀ {l : List (DataW H)}, d ∈ l → n ∈ DataW.weightsAll P e l
  | x :: l, h => by
    rw [DataW.weightsAll, List.mem_append]
    rcases List.mem_cons.1 h with rfl | h
    · exact .inl hn
    · exact .inr (weightsAll_mem hn h)
def reachOk (l : List Nat) : Prop := ∀ n ∈ l, n ≤ reachBytes
theorem reachOk.slice {P : Program} {t e : TypeId} {a b : List (DataW H)} (hu : P.underlying t = some (.slice e)) (h : reachOk ((DataW.slice a b).weights P t)) :
    (a.length + b.length) * P.bytesOf e ≤ reachBytes ∧ ∀ d ∈ a, reachOk (d.weights P e) := by
  unfold DataW.weights at h
  rw [hu] at h
  refine ⟨h _ (by simp), fun d hd n hn => h n ?_⟩
  simp only [List.mem_cons, List.mem_append]
  exact .inr (.inl (weightsAll_mem hn hd))
/-- a slice of strings -/
theorem open_keys {fuel : Nat} {v : Value} {x : DataW H × List MemPlace} (h : DataW.trod enc Tryd.prog w 0 (fun _ => true) held fuel 23 [v] = some x) (hr : reachOk (x.1.weights Tryd.prog 23)) :
    ∃ (A : Option Addr) (l : List ByteArray) (c : Nat), v = .slice A l.length c ∧ KeysAt w A l ∧ l.length ≤ jmax := by
  rcases DataW.trod_slice Tryd.underlying23 h with ⟨hcs, _⟩ | ⟨a, len, cap, elems, rest, n, _, hcs, rfl, hb, hl, hm, hlen, hel, _, _⟩
  · simp only [List.cons.injEq, and_true] at hcs
    subst hcs
    exact ⟨none, [], 0, rfl, .inl rfl, Nat.zero_le _⟩
  · simp only [List.cons.injEq, and_true] at hcs
    subst hcs
    obtain ⟨hr1, _⟩ := reachOk.slice Tryd.underlying23 hr
    rw [show Tryd.prog.bytesOf 9 = 16 by kernel_rfl, List.length_map, List.length_map, hlen] at hr1
    have hr2 : (len + rest.length) * 16 < 2 ^ 47 := Nat.lt_of_le_of_lt hr1 reachBytes_lt
    have hex : ∀ i, i < len → ∃ y : ByteArray, w.cell? (a.add i) = some (.string y) := by
      intro i hi
      have h1 := hel i hi
      rw [List.getElem?_eq_getElem (by omega), Option.bind_eq_some_iff] at h1
      obtain ⟨cs', hc, ht⟩ := h1
      rw [show Tryd.prog.cellsOf 9 = 1 by kernel_rfl] at hc
      obtain ⟨_, hcl, hat⟩ := World.cells?_some hc
      obtain ⟨s, rfl, _, _⟩ := DataW.trod_string Tryd.underlying9 ht
      have h0 := hat 0 (by omega)
      refine ⟨s, ?_⟩
      rw [Nat.mul_one] at h0
      simpa [Addr.add] using h0
    obtain ⟨L, hL, hP⟩ := jex_list hex
    refine ⟨some a, L, _, by rw [hL], ?_, by unfold jmax; omega⟩
    rcases Nat.eq_zero_or_pos len with h0 | h0
    · exact .inl (List.eq_nil_of_length_eq_zero (by omega))
    · right
      obtain ⟨b, off, spot⟩ := a
      obtain ⟨y, hy⟩ : ∃ y, L[0]? = some y := ⟨_, List.getElem?_eq_getElem (by omega)⟩
      have hc0 := hP 0 y hy
      have hspot : spot = none := by simpa [Addr.add] using World.cell?_spot hc0
      subst hspot
      refine ⟨b, off, rfl, World.block_lt_of_cell? w _ hc0, fun i z hz => ?_⟩
      have h1 := hP i z hz
      rw [Addr.add_lit] at h1
      exact h1
def ValOk (H : Type) (enc : TypeId × Value → H) (w : World) (held : Bool) (fuel : Nat) : Prop := ∀ (cs : List Value) (x : DataW H × List MemPlace), DataW.trod enc Tryd.prog w 0 (fun _ => true) held fuel 25 cs = some x →
  reachOk (x.1.weights Tryd.prog 25) → ∃ u : JN, cs = u.cells.toList ∧ JIn w u ∧ jrng u.v = true
theorem jrngs_all : ∀ {l : List JN}, (∀ x ∈ l, jrng x.v = true) → jrngs (JN.vs l) = true
  | [], _ => by rw [JN.vs, jrngs]
  | x :: l, h => by
    rw [JN.vs, jrngs, h x (by simp), jrngs_all fun y hy => h y (by simp [hy])]
    rfl
/-- a slice of values -/
theorem open_vals {fuel : Nat} (ih : ∀ n, n < fuel → ValOk H enc w held n) {v : Value} {x : DataW H × List MemPlace} (h : DataW.trod enc Tryd.prog w 0 (fun _ => true) held fuel 22 [v] = some x) (hr : reachOk (x.1.weights Tryd.prog 22)) :
    ∃ (A : Option Addr) (l : List JN) (c : Nat), v = .slice A l.length c ∧ RowAt w A l ∧ JIns w l ∧ l.length ≤ jmax ∧ jrngs (JN.vs l) = true := by
  rcases DataW.trod_slice Tryd.underlying22 h with ⟨hcs, _⟩ | ⟨a, len, cap, elems, rest, n, hn, hcs, rfl, hb, hl, hm, hlen, hel, _, _⟩
  · simp only [List.cons.injEq, and_true] at hcs
    subst hcs
    exact ⟨none, [], 0, rfl, .inl rfl, trivial, Nat.zero_le _, by rw [JN.vs, jrngs]⟩
  · simp only [List.cons.injEq, and_true] at hcs
    subst hcs
    obtain ⟨hr1, hr3⟩ := reachOk.slice Tryd.underlying22 hr
    rw [show Tryd.prog.bytesOf 25 = 80 by kernel_rfl, List.length_map, List.length_map, hlen] at hr1
    have hr2 : (len + rest.length) * 80 < 2 ^ 47 := Nat.lt_of_le_of_lt hr1 reachBytes_lt
    have hex : ∀ i, i < len → ∃ y : JN, (∀ j u, y.cells[j]? = some u → w.cell? (a.add (i * 5 + j)) = some u) ∧ JIn w y ∧ jrng y.v = true := by
      intro i hi
      have h1 := hel i hi
      rw [List.getElem?_eq_getElem (by omega), Option.bind_eq_some_iff] at h1
      obtain ⟨cs', hc, ht⟩ := h1
      rw [show Tryd.prog.cellsOf 25 = 5 by kernel_rfl] at hc
      obtain ⟨_, hcl, hat⟩ := World.cells?_some hc
      obtain ⟨u, rfl, hu, hur⟩ := ih n (by omega) cs' _ ht (hr3 _ (by simp only [List.mem_map]; exact ⟨elems[i], List.getElem_mem _, rfl⟩))
      refine ⟨u, fun j z hj => ?_, hu, hur⟩
      have hj5 : j < 5 := by
        have h5 := (Array.getElem?_eq_some_iff.1 hj).1
        rw [u.cells_size] at h5
        exact h5
      have h2 := hat j hj5
      rw [← Go.Deep.add_add, h2]
      rw [← Array.getElem?_toList] at hj
      exact hj
    obtain ⟨L, hL, hP⟩ := jex_list hex
    refine ⟨some a, L, _, by rw [hL], ?_, JIns.of fun y hy => ?_, by unfold jmax; omega, jrngs_all fun y hy => ?_⟩
    · rcases Nat.eq_zero_or_pos len with h0 | h0
      · exact .inl (List.eq_nil_of_length_eq_zero (by omega))
      · right
        obtain ⟨b, off, spot⟩ := a
        obtain ⟨y, hy⟩ : ∃ y, L[0]? = some y := ⟨_, List.getElem?_eq_getElem (by omega)⟩
        obtain ⟨u0, hu0⟩ : ∃ u0, y.cells[0]? = some u0 := ⟨_, Array.getElem?_eq_getElem (by rw [y.cells_size]; omega)⟩
        have hc0 := (hP 0 y hy).1 0 _ hu0
        have hspot : spot = none := by simpa [Addr.add] using World.cell?_spot hc0
        subst hspot
        refine ⟨b, off, rfl, World.block_lt_of_cell? w _ hc0, fun i z hz j u hu => ?_⟩
        have h1 := (hP i z hz).1 j u hu
        rw [Addr.add_lit] at h1
        rw [Nat.add_assoc]
        exact h1
    · obtain ⟨i, hi⟩ := List.getElem?_of_mem hy
      exact (hP i y hi).2.1
    · obtain ⟨i, hi⟩ := List.getElem?_of_mem hy
      exact (hP i y hi).2.2
set_option maxRecDepth 100000 in
set_option maxHeartbeats 2000000 in
theorem open_val (fuel : Nat) : ValOk H enc w held fuel := by
  induction fuel using Nat.strongRecOn with
  | _ fuel ih =>
    intro cs x h hr
    obtain ⟨ys, n, hn, rfl, hcl, hyl, hf⟩ := DataW.trod_struct Tryd.underlying25 h
    have hcl5 : cs.length = 5 := hcl.trans (by kernel_rfl)
    have hfs : ∀ (i : Nat) (f : Field), _[i]? = some f → DataW.trod enc Tryd.prog w 0 (fun _ => true) held n f.type ((cs.drop i).take 1) = ys[i]? := fun i f hi => by
      obtain ⟨ho, hk⟩ := Go.Deep.hone_of (by kernel_rfl) i f hi
      have h1 := hf i f hi
      rwa [ho, hk] at h1
    match cs, hcl5 with
    | [k0, k1, k2, k3, k4], _ =>
      have hyl5 : ys.length = 5 := hyl
      match ys, hyl5 with
      | [y0, y1, y2, y3, y4], _ =>
        have f0 : DataW.trod enc Tryd.prog w 0 (fun _ => true) held n 3 [k0] = some y0 := hfs 0 _ rfl
        have f1 : DataW.trod enc Tryd.prog w 0 (fun _ => true) held n 2 [k1] = some y1 := hfs 1 _ rfl
        have f2 : DataW.trod enc Tryd.prog w 0 (fun _ => true) held n 9 [k2] = some y2 := hfs 2 _ rfl
        have f3 : DataW.trod enc Tryd.prog w 0 (fun _ => true) held n 22 [k3] = some y3 := hfs 3 _ rfl
        have f4 : DataW.trod enc Tryd.prog w 0 (fun _ => true) held n 23 [k4] = some y4 := hfs 4 _ rfl
        obtain ⟨x0, e0, _, w0⟩ := DataW.trod_int Tryd.underlying3 f0
        obtain ⟨x1, e1, _, w1⟩ := DataW.trod_int Tryd.underlying2 f1
        obtain ⟨x2, e2, _, _⟩ := DataW.trod_string Tryd.underlying9 f2
        have hr' : ∀ (j : Nat) (t : TypeId) (y : DataW H × List MemPlace), [3, 2, 9, 22, 23][j]? = some t → [y0, y1, y2, y3, y4][j]? = some y → reachOk (y.1.weights Tryd.prog t) := by
          intro j t y ht hy m hm
          refine hr m ?_
          unfold DataW.weights
          rw [Tryd.underlying25]
          refine DataW.weights_mem_each (j := j) (t := t) (d := y.1) ht ?_ m hm
          rw [List.getElem?_map, hy]
          rfl
        obtain ⟨A, l, c, rfl, hA1, hA2, hA3, hA4⟩ := open_vals (fun m hm => ih m (by omega)) f3 (hr' 3 _ y3 rfl rfl)
        obtain ⟨B, ks, d, rfl, hB1, hB2⟩ := open_keys f4 (hr' 4 _ y4 rfl rfl)
        simp only [List.cons.injEq, and_true] at e0 e1 e2
        subst e0 e1 e2
        refine ⟨.mk x0 x1 x2 A c l B d ks, rfl, ?_, ?_⟩
        · rw [JIn]; exact ⟨⟨hA3, hB2⟩, hB1, hA1, hA2⟩
        · rw [JN.v, jrng, hA4]
          have := bounds_i64 w1
          unfold i64B
          simp
          omega
end
section
open Go.ChangeShapes Go.WideShapes
variable {H : Type} {enc : TypeId × Value → H} {W : World} {held : Bool}
theorem reach_of {ts : List TypeId} {ds : List (DataW H)} {j : Nat} {t : TypeId} {d : DataW H} (h : (DataW.weightsEach Tryd.prog ts ds).all (· ≤ reachBytes) = true) (ht : ts[j]? = some t) (hd : ds[j]? = some d) : reachOk (d.weights Tryd.prog t) := by
  intro n hn
  exact of_decide_eq_true (List.all_eq_true.1 h n (DataW.weights_mem_each ht hd n hn))
set_option maxRecDepth 100000 in
set_option maxHeartbeats 2000000 in
theorem open_value {v : Value} {d : DataW H} {p : List MemPlace} {r : Reach} {b0 : Nat} (hv : Value.okWide Tryd.prog W r b0 25 v) (h : DataW.Trod enc Tryd.prog W 0 (fun _ => true) held 25 v d p) (hr : reachOk (d.weights Tryd.prog 25)) :
    ∃ x : JN, v = .agg x.cells ∧ JIn W x ∧ jrng x.v = true := by
  obtain ⟨cs, rfl, hsz⟩ := okWide_struct Tryd.underlying25 hv
  obtain ⟨fuel, hf⟩ := h
  obtain ⟨u, hu, h1, h2⟩ := open_val fuel _ _ hf hr
  refine ⟨u, ?_, h1, h2⟩
  have : cs.toList = u.cells.toList := hu
  rw [Array.toList_inj.1 this]
set_option maxRecDepth 100000 in
set_option maxHeartbeats 2000000 in
theorem open_values {v : Value} {d : DataW H} {p : List MemPlace} {r : Reach} {b0 : Nat} (hv : Value.okWide Tryd.prog W r b0 22 v) (h : DataW.Trod enc Tryd.prog W 0 (fun _ => true) held 22 v d p) (hr : reachOk (d.weights Tryd.prog 22)) :
    ∃ (A : Option Addr) (c : Nat) (l : List JN), v = .slice A l.length c ∧ JIn W (.mk 5 0 ⟨#[]⟩ A c l none 0 []) ∧ jrng (JN.mk 5 0 ⟨#[]⟩ A c l none 0 []).v = true := by
  obtain ⟨a, len, cap, rfl⟩ := okWide_slice Tryd.underlying22 hv
  obtain ⟨fuel, hf⟩ := h
  obtain ⟨A, l, c, hvv, h1, h2, h3, h4⟩ := open_vals (fun m _ => open_val m) (v := .slice a len cap) hf hr
  refine ⟨A, c, l, hvv, ?_, ?_⟩
  · rw [JIn]; exact ⟨⟨h3, Nat.zero_le _⟩, .inl rfl, h1, h2⟩
  · rw [JN.v, jrng, h4]; rfl
end
end Go.Proofs.YtkbpndohpkcikaaDoor
