/-
  json: the reader: a list and its keys, under way.
-/
import Derived.Test.YtkbpndohpkcikabDoorJsRd4
import Derived.Test.YtkbpndohpkcikabDoorApp
namespace Go.Proofs.YtkbpndohpkcikabDoor
open Go.RowKit Js Go.Sort
set_option linter.unusedVariables false

mutual
/-- the blocks that a value's lists lie in -/
def JFoot : JN → List Nat
  | .mk _ _ _ A _ l B _ _ => (A.map (·.block)).toList ++ (B.map (·.block)).toList ++ JFoots l
def JFoots : List JN → List Nat
  | [] => []
  | x :: l => JFoot x ++ JFoots l
end
theorem JFoots.of {g : Nat} : ∀ {l : List JN} {x : JN}, x ∈ l → g ∈ JFoot x → g ∈ JFoots l
  | [], x, h, _ => by cases h
  | y :: l, x, h, hg => by
    rw [JFoots, List.mem_append]
    rcases List.mem_cons.1 h with rfl | h
    · exact .inl hg
    · exact .inr (JFoots.of h hg)
theorem JFoots.inv {g : Nat} : ∀ {l : List JN}, g ∈ JFoots l → ∃ x ∈ l, g ∈ JFoot x
  | [], h => by rw [JFoots] at h; cases h
  | y :: l, h => by
    rw [JFoots, List.mem_append] at h
    rcases h with h | h
    · exact ⟨y, by simp, h⟩
    · obtain ⟨x, h1, h2⟩ := JFoots.inv h
      exact ⟨x, by simp [h1], h2⟩
theorem KeysAt.mod {F : List Nat} {w w' : World} {B : Option Addr} {ks : List ByteArray} (h : KeysAt w B ks) (m : Mod F w w') (hB : ∀ g ∈ (B.map (·.block)).toList, g ∉ F) : KeysAt w' B ks := by
  rcases h with h | ⟨g, o, rfl, h2, h3⟩
  · exact .inl h
  · exact .inr ⟨g, o, rfl, Nat.lt_of_lt_of_le h2 m.size, fun j x hx => (m.cell (p := ⟨g, o + j, none⟩) h2 (hB g (by simp))).trans (h3 j x hx)⟩
theorem RowAt.mod {F : List Nat} {w w' : World} {A : Option Addr} {l : List JN} (h : RowAt w A l) (m : Mod F w w') (hA : ∀ g ∈ (A.map (·.block)).toList, g ∉ F) : RowAt w' A l := by
  rcases h with h | ⟨g, o, rfl, h2, h3⟩
  · exact .inl h
  · exact .inr ⟨g, o, rfl, Nat.lt_of_lt_of_le h2 m.size, fun j x hx i u hu => (m.cell (p := ⟨g, o + j * 5 + i, none⟩) h2 (hA g (by simp))).trans (h3 j x hx i u hu)⟩
mutual
theorem JIn.mod {F : List Nat} {w w' : World} (m : Mod F w w') : ∀ {x : JN}, (∀ g ∈ JFoot x, g ∉ F) → JIn w x → JIn w' x
  | .mk k i t A c l B d ks, hf, h => by
    rw [JIn] at h ⊢
    rw [JFoot] at hf
    exact ⟨h.1, h.2.1.mod m (fun g hg => hf g (by simp only [List.mem_append]; exact .inl (.inr hg))), h.2.2.1.mod m (fun g hg => hf g (by simp only [List.mem_append]; exact .inl (.inl hg))),
      JIns.mod m (fun g hg => hf g (by simp only [List.mem_append]; exact .inr hg)) h.2.2.2⟩
theorem JIns.mod {F : List Nat} {w w' : World} (m : Mod F w w') : ∀ {l : List JN}, (∀ g ∈ JFoots l, g ∉ F) → JIns w l → JIns w' l
  | [], _, _ => trivial
  | x :: l, hf, h => by
    rw [JIns] at h ⊢
    rw [JFoots] at hf
    exact ⟨JIn.mod m (fun g hg => hf g (by simp [hg])) h.1, JIns.mod m (fun g hg => hf g (by simp [hg])) h.2⟩
end
def lcells (l : List JN) : List Value := l.flatMap fun x => x.cells.toList
theorem lcells_app (l : List JN) (x : JN) : lcells (l ++ [x]) = lcells l ++ x.cells.toList := by unfold lcells; simp
theorem lcells_at : ∀ (l : List JN) (j : Nat) (x : JN), l[j]? = some x → ∀ i u, x.cells[i]? = some u → (lcells l)[j * 5 + i]? = some u
  | [], j, x, h => by simp at h
  | y :: l, 0, x, h => by
    cases h
    intro i u hu
    have hs : i < y.cells.size := (Array.getElem?_eq_some_iff.1 hu).1
    unfold lcells
    rw [List.flatMap_cons, Nat.zero_mul, Nat.zero_add, List.getElem?_append_left (by simpa using hs)]
    simpa using hu
  | y :: l, j + 1, x, h => by
    intro i u hu
    have h2 := lcells_at l j x (by simpa using h) i u hu
    unfold lcells at h2 ⊢
    have h5 : y.cells.toList.length = 5 := by simpa using y.cells_size
    rw [List.flatMap_cons, List.getElem?_append_right (by rw [h5]; omega), h5]
    rw [← h2]
    congr 1
    omega
/-- a list, with keys, under way: the value in block vb; its rows made since -/
structure MS (w : World) (base vb : Nat) (kd : Int) (A : Option Addr) (c : Nat) (l : List JN) (B : Option Addr) (d : Nat) (ks : List ByteArray) : Prop where
  v : Blk w vb 25 (JN.mk kd 0 ⟨#[]⟩ A c l B d ks).cells
  lo : w.ownsRow base 25 5 (.slice A l.length c) l.length (lcells l)
  ko : w.ownsRow base 9 1 (.slice B ks.length d) ks.length (ks.map Value.string)
  inn : ∀ x ∈ l, JIn w x ∧ ∀ g ∈ JFoot x, base ≤ g ∧ g < w.heap.size ∧ (Value.slice A l.length c).ownBlock ≠ some g ∧ (Value.slice B ks.length d).ownBlock ≠ some g
section
variable {w w' W : World} {base vb : Nat} {kd : Int} {A B : Option Addr} {c d : Nat} {l : List JN} {ks : List ByteArray}
theorem MS.fresh (h : Blk w vb 25 (JN.mk kd 0 ⟨#[]⟩ none 0 [] none 0 []).cells) (base : Nat) : MS w base vb kd none 0 [] none 0 [] :=
  ⟨h, World.ownsRow_nil _ _ _ _, World.ownsRow_nil _ _ _ _, by simp⟩
theorem MS.mod {F : List Nat} (h : MS w base vb kd A c l B d ks) (m : Mod F w w') (hF : ∀ g ∈ F, g < base ∧ g ≠ vb) : MS w' base vb kd A c l B d ks := by
  refine ⟨m.blk h.v (fun hv => (hF vb hv).2 rfl), m.own h.lo (fun k hk hf => ?_), m.own h.ko (fun k hk hf => ?_), fun x hx => ?_⟩
  · have := (h.lo.lt k hk).1; have := (hF k hf).1; omega
  · have := (h.ko.lt k hk).1; have := (hF k hf).1; omega
  · obtain ⟨h1, h2⟩ := h.inn x hx
    refine ⟨JIn.mod m (fun g hg hf => ?_) h1, fun g hg => ?_⟩
    · have := (h2 g hg).1; have := (hF g hf).1; omega
    · obtain ⟨a1, a2, a3, a4⟩ := h2 g hg
      exact ⟨a1, Nat.lt_of_lt_of_le a2 m.size, a3, a4⟩
theorem MS.apart (h : MS w base vb kd A c l B d ks) : ∀ k, (Value.slice A l.length c).ownBlock = some k → (Value.slice B ks.length d).ownBlock ≠ some k := by
  intro k h1 h2
  rcases h.ko.2 with ⟨h0, _⟩ | ⟨g, cap, cur, hv, _, hh, _⟩
  · rw [h0] at h2; cases h2
  · rw [hv] at h2
    cases h2
    exact own_blk_ne h.lo (show Blk w g 9 cur from hh) (by decide) g h1 rfl
theorem strInfo : (Tryd.prog.info? 9).map (fun i => (i.zero, i.size, i.bytes)) = some (some (.string ⟨#[]⟩), 1, 16) := by kernel_rfl
theorem valInfo : (Tryd.prog.info? 25).map (fun i => (i.zero, i.size, i.bytes)) = some (some (.agg #[.int .i64 0, .int .i64 0, .string ⟨#[]⟩, .slice none 0 0, .slice none 0 0]), 5, 80) := by kernel_rfl
/-- one key more -/
theorem MS.key (h : MS w base vb kd A c l B d ks) (hvb : vb < base) (hb : base ≤ w.heap.size) (hn : ks.length ≤ 1000000) (S : ByteArray) (zb : Nat) (hz : Blk w zb 9 #[.string S]) :
    ∃ B' d' w6, (Builtin.append_ #[23, 23] 23 #[.slice B ks.length d, .slice (some ⟨zb, 0, none⟩) 1 1]).run Tryd.prog w = .ok (.slice B' (ks.length + 1) d') w6 ∧
      Blk w6 vb 25 (JN.mk kd 0 ⟨#[]⟩ A c l B d ks).cells ∧
      MS (w6.setCell ⟨vb, 4, none⟩ (.slice B' (ks.length + 1) d')) base vb kd A c l B' d' (ks ++ [S]) ∧
      (∀ F, Mod F W w → W.heap.size ≤ base → vb ∈ F → Mod F W (w6.setCell ⟨vb, 4, none⟩ (.slice B' (ks.length + 1) d'))) ∧
      (∀ g t cs, g < base → g ≠ vb → Blk w g t cs → Blk (w6.setCell ⟨vb, 4, none⟩ (.slice B' (ks.length + 1) d')) g t cs) := by
  obtain ⟨B', d', w6, h1, h2, h3, h4⟩ := app_one (P := Tryd.prog) Tryd.underlying23 strInfo rfl w 23 base _ _ _ h.ko hb [.string S] rfl (by simp [Value.oneCell']) (by omega) (by omega) zb (fun j u hu => by
    rw [hz.cell j, List.getElem?_toArray, hu])
  have own : ∀ k ∈ (Value.slice B ks.length d).ownBlock.toList, base ≤ k := fun k hk => by
    rw [Option.mem_toList] at hk
    exact (h.ko.lt k hk).1
  have hv6 : Blk w6 vb 25 (JN.mk kd 0 ⟨#[]⟩ A c l B d ks).cells := h3.blk h.v (fun hk => by have := own _ hk; omega)
  have hl : (ks ++ [S]).length = ks.length + 1 := by simp
  refine ⟨B', d', w6, h1, hv6, ⟨?_, ?_, ?_, fun x hx => ?_⟩, fun F hF hW hvF => ?_, fun g t cs hg hgv hbk => ?_⟩
  · have := hv6.set_ 4 (.slice B' (ks.length + 1) d')
    show Blk _ vb 25 #[.int .i64 kd, .int .i64 0, .string ⟨#[]⟩, .slice A l.length c, .slice B' (ks ++ [S]).length d']
    rw [hl]
    exact this
  · have hl6 := h3.own h.lo (fun k hk hm => h.apart k hk (by rw [Option.mem_toList] at hm; exact hm))
    exact own_far hl6 (fun k hk => by have := (h.lo.lt k hk).1; show k ≠ vb; omega) _
  · rw [hl, List.map_append]
    refine own_far h2 (fun k hk => ?_) _
    have := (h2.lt k hk).1
    show k ≠ vb
    omega
  · obtain ⟨a, b⟩ := h.inn x hx
    have m : Mod ((Value.slice B ks.length d).ownBlock.toList ++ [vb]) w (w6.setCell ⟨vb, 4, none⟩ (.slice B' (ks.length + 1) d')) := (h3.mono (fun y hy => .inl (by simp only [List.mem_append]; exact .inl hy))).setCell (p := ⟨vb, 4, none⟩) (.inl (by simp)) _
    refine ⟨JIn.mod m (fun g hg hm => ?_) a, fun g hg => ?_⟩
    · obtain ⟨b1, b2, b3, b4⟩ := b g hg
      simp only [List.mem_append, Option.mem_toList, List.mem_singleton] at hm
      rcases hm with hm | hm
      · exact b4 hm
      · omega
    · obtain ⟨b1, b2, b3, b4⟩ := b g hg
      refine ⟨b1, Nat.lt_of_lt_of_le b2 m.size, b3, ?_⟩
      rw [hl]
      rcases h4 with h4 | h4
      · rw [h4]; exact b4
      · rw [h4]; intro e; cases e; omega
  · refine (hF.trans h3 (fun y hy => .inr ?_)).setCell (.inl hvF) _
    have := own y hy
    omega
  · exact (h3.blk hbk (fun hk => by have := own _ hk; omega)).far hgv _

/-! ### one value more -/
abbrev vsets (X : World) (g o : Nat) (V : Array Value) : World := (List.range 5).foldl (fun w i => w.setCell ⟨g, o + i, none⟩ (V.getD i undef)) X
theorem vsets_mod (g o : Nat) (V : Array Value) (X : World) : Mod [g] X (vsets X g o V) := by
  have key : ∀ (l : List Nat) (Y : World), Mod [g] X Y → Mod [g] X (l.foldl (fun w i => w.setCell ⟨g, o + i, none⟩ (V.getD i undef)) Y) := by
    intro l
    induction l with
    | nil => intro Y h; exact h
    | cons i l ih => intro Y h; exact ih _ (h.setCell (p := ⟨g, o + i, none⟩) (.inl (by simp)) _)
  exact key _ X (Mod.refl _ _)
def asets (cs : Array Value) (o : Nat) (V : Array Value) : Array Value := (List.range 5).foldl (fun c i => c.setIfInBounds (o + i) (V.getD i undef)) cs
theorem vsets_blk {X : World} {g o : Nat} {t : TypeId} {cs : Array Value} (V : Array Value) (h : Blk X g t cs) : Blk (vsets X g o V) g t (asets cs o V) := by
  have key : ∀ (l : List Nat) (Y : World) (cs : Array Value), Blk Y g t cs → Blk (l.foldl (fun w i => w.setCell ⟨g, o + i, none⟩ (V.getD i undef)) Y) g t (l.foldl (fun c i => c.setIfInBounds (o + i) (V.getD i undef)) cs) := by
    intro l
    induction l with
    | nil => intro Y cs h; exact h
    | cons i l ih => intro Y cs h; exact ih _ _ (h.set_ (o + i) _)
  exact key _ X cs h
theorem asets_size (cs V : Array Value) (o : Nat) : (asets cs o V).size = cs.size := by
  have key : ∀ (l : List Nat) (cs : Array Value), (l.foldl (fun c i => c.setIfInBounds (o + i) (V.getD i undef)) cs).size = cs.size := by
    intro l
    induction l with
    | nil => intro cs; rfl
    | cons i l ih => intro cs; rw [List.foldl_cons, ih]; simp
  exact key _ cs
theorem asets_at (cs V : Array Value) (o : Nat) (hV : V.size = 5) (hc : o + 5 ≤ cs.size) (j : Nat) : (asets cs o V)[j]? = if o ≤ j ∧ j < o + 5 then V[j - o]? else cs[j]? := by
  have key : ∀ (n : Nat), n ≤ 5 → ∀ j, ((List.range n).foldl (fun c i => c.setIfInBounds (o + i) (V.getD i undef)) cs)[j]? = if o ≤ j ∧ j < o + n then V[j - o]? else cs[j]? := by
    intro n
    induction n with
    | zero => intro _ j; rw [if_neg (by omega)]; rfl
    | succ n ih =>
      intro hn j
      have hsz : ((List.range n).foldl (fun c i => c.setIfInBounds (o + i) (V.getD i undef)) cs).size = cs.size := by
        have key : ∀ (l : List Nat) (cs : Array Value), (l.foldl (fun c i => c.setIfInBounds (o + i) (V.getD i undef)) cs).size = cs.size := by
          intro l
          induction l with
          | nil => intro cs; rfl
          | cons i l ih => intro cs; rw [List.foldl_cons, ih]; simp
        exact key _ cs
      rw [List.range_succ, List.foldl_append]
      simp only [List.foldl_cons, List.foldl_nil]
      rw [Array.getElem?_setIfInBounds]
      by_cases e : o + n = j
      · rw [if_pos e, if_pos (by rw [hsz]; omega), if_pos (by omega), ← e, Nat.add_sub_cancel_left]
        have : n < V.size := by omega
        simp [Array.getD, this]
      · rw [if_neg e, ih (by omega) j]
        by_cases h3 : o ≤ j ∧ j < o + n
        · rw [if_pos h3, if_pos (by omega)]
        · rw [if_neg h3, if_neg (by omega)]
  exact key 5 (Nat.le_refl _) j
/-- the row's last element is stored anew -/
theorem own_last {e : TypeId} {n cap g : Nat} {xs zs : List Value} (h : w.ownsRow base e 5 (.slice (some ⟨g, 0, none⟩) (n + 1) cap) (n + 1) (xs ++ zs)) (hz : zs.length = 5) (V : Array Value) (hV : V.size = 5) :
    (vsets w g (n * 5) V).ownsRow base e 5 (.slice (some ⟨g, 0, none⟩) (n + 1) cap) (n + 1) (xs ++ V.toList) := by
  have hx : xs.length = n * 5 := by have := h.1; rw [List.length_append, hz] at this; omega
  rcases h.2 with ⟨h0, _⟩ | ⟨g', cap', cur, hv, hb, hh, hc1, hc2, hc3, hc4⟩
  · cases h0
  · cases hv
    refine ⟨by rw [List.length_append, hx]; simp [hV]; omega, .inr ⟨g, cap, asets cur (n * 5) V, rfl, hb, vsets_blk V hh, hc1, hc2, by rw [asets_size]; exact hc3, ?_⟩⟩
    have hcs : n * 5 + 5 ≤ cur.size := by rw [hc3]; omega
    apply List.ext_getElem?
    intro j
    rw [List.getElem?_take]
    have hat : (asets cur (n * 5) V).toList[j]? = (asets cur (n * 5) V)[j]? := by simp
    by_cases hj : j < (n + 1) * 5
    · rw [if_pos hj, hat, asets_at cur V _ hV hcs]
      by_cases h5 : n * 5 ≤ j
      · rw [if_pos ⟨h5, by omega⟩, List.getElem?_append_right (by omega), hx]
        first | rfl | simp
      · rw [if_neg (by omega), List.getElem?_append_left (by omega)]
        have e1 := congrArg (fun t => t[j]?) hc4
        rw [List.getElem?_take, if_pos hj, List.getElem?_append_left (by omega)] at e1
        simpa using e1
    · rw [if_neg hj, List.getElem?_eq_none]
      rw [List.length_append, hx]
      simp [hV]; omega
def zcs : Array Value := #[.int .i64 0, .int .i64 0, .string ⟨#[]⟩, .slice none 0 0, .slice none 0 0]
theorem MS.val (h : MS w base vb kd A c l B d ks) (hvb : vb < base) (hb : base ≤ w.heap.size) (hn : l.length ≤ 1000000) (x : JN) (hx : JIn w x) (hxf : ∀ g ∈ JFoot x, base ≤ g ∧ g < w.heap.size ∧ (Value.slice A l.length c).ownBlock ≠ some g ∧ (Value.slice B ks.length d).ownBlock ≠ some g) (zb : Nat) (hz : Blk w zb 25 zcs) :
    ∃ g' c' w6, (Builtin.append_ #[22, 22] 22 #[.slice A l.length c, .slice (some ⟨zb, 0, none⟩) 1 1]).run Tryd.prog w = .ok (.slice (some ⟨g', 0, none⟩) (l.length + 1) c') w6 ∧
      Blk w6 vb 25 (JN.mk kd 0 ⟨#[]⟩ A c l B d ks).cells ∧ g' ≠ vb ∧ (∃ cur, Blk w6 g' 25 cur ∧ l.length * 5 + 5 ≤ cur.size) ∧
      ∀ w8, (w8 = (vsets w6 g' (l.length * 5) x.cells).setCell ⟨vb, 3, none⟩ (.slice (some ⟨g', 0, none⟩) (l.length + 1) c') ∨ w8 = vsets (w6.setCell ⟨vb, 3, none⟩ (.slice (some ⟨g', 0, none⟩) (l.length + 1) c')) g' (l.length * 5) x.cells) →
        MS w8 base vb kd (some ⟨g', 0, none⟩) c' (l ++ [x]) B d ks ∧
        (∀ F, Mod F W w → W.heap.size ≤ base → vb ∈ F → Mod F W w8) ∧
        (∀ g t cs, g < base → g ≠ vb → Blk w g t cs → Blk w8 g t cs) := by
  obtain ⟨A', c', w6, h1, h2, h3, h4⟩ := app_one (P := Tryd.prog) Tryd.underlying22 valInfo rfl w 22 base _ _ _ h.lo hb zcs.toList rfl (by simp [zcs, Value.oneCell']) (by omega) (by omega) zb (fun j u hu => by
    rw [hz.cell j]; simpa using hu)
  obtain ⟨g', rfl⟩ : ∃ g', A' = some ⟨g', 0, none⟩ := by
    rcases h2.2 with ⟨h0, h0'⟩ | ⟨g, cap, cur, hv, _⟩
    · omega
    · cases hv; exact ⟨g, rfl⟩
  have own : ∀ k ∈ (Value.slice A l.length c).ownBlock.toList, base ≤ k := fun k hk => by
    rw [Option.mem_toList] at hk
    exact (h.lo.lt k hk).1
  have hg' : base ≤ g' := (h2.lt g' rfl).1
  have hv6 : Blk w6 vb 25 (JN.mk kd 0 ⟨#[]⟩ A c l B d ks).cells := h3.blk h.v (fun hk => by have := own _ hk; omega)
  have hl : (l ++ [x]).length = l.length + 1 := by simp
  have hcur : ∃ cur, Blk w6 g' 25 cur ∧ l.length * 5 + 5 ≤ cur.size := by
    rcases h2.2 with ⟨h0, _⟩ | ⟨g, cap, cur, hv, _, hh, q1, q2, q3, _⟩
    · cases h0
    · cases hv
      exact ⟨cur, hh, by omega⟩
  have hnb : (Value.slice (some ⟨g', 0, none⟩) (l.length + 1) c').ownBlock = some g' := rfl
  have hfar : ∀ g, g < w.heap.size → (Value.slice A l.length c).ownBlock ≠ some g → g' ≠ g := by
    intro g hg hne e
    subst e
    rcases h4 with h4 | h4
    · rw [hnb] at h4; exact hne h4.symm
    · rw [hnb] at h4; cases h4; omega
  refine ⟨g', c', w6, h1, hv6, by omega, hcur, ?_⟩
  intro w8 hw8
  -- the world behind both stores: by blocks
  have m8 : Mod ((Value.slice A l.length c).ownBlock.toList ++ [g', vb]) w w8 := by
    have m0 : Mod ((Value.slice A l.length c).ownBlock.toList ++ [g', vb]) w w6 := h3.mono (fun y hy => .inl (by simp only [List.mem_append]; exact .inl hy))
    rcases hw8 with rfl | rfl
    · exact (m0.trans (vsets_mod g' _ _ w6) (by simp)).setCell (p := ⟨vb, 3, none⟩) (.inl (by simp)) _
    · exact (m0.setCell (p := ⟨vb, 3, none⟩) (.inl (by simp)) _).trans (vsets_mod g' _ _ _) (by simp)
  have hv8 : Blk w8 vb 25 (JN.mk kd 0 ⟨#[]⟩ (some ⟨g', 0, none⟩) c' (l ++ [x]) B d ks).cells := by
    show Blk _ vb 25 #[.int .i64 kd, .int .i64 0, .string ⟨#[]⟩, .slice (some ⟨g', 0, none⟩) (l ++ [x]).length c', .slice B ks.length d]
    rw [hl]
    rcases hw8 with rfl | rfl
    · exact ((vsets_mod g' _ _ w6).blk hv6 (by simp; omega)).set_ 3 _
    · exact (vsets_mod g' _ _ _).blk (hv6.set_ 3 _) (by simp; omega)
  have hlo8 : w8.ownsRow base 25 5 (.slice (some ⟨g', 0, none⟩) (l.length + 1) c') (l.length + 1) (lcells l ++ x.cells.toList) := by
    rcases hw8 with rfl | rfl
    · refine own_far (own_last h2 rfl x.cells x.cells_size) (fun k hk => ?_) _
      rw [hnb] at hk; cases hk
      show g' ≠ vb; omega
    · refine own_last (own_far h2 (fun k hk => ?_) _) rfl x.cells x.cells_size
      rw [hnb] at hk; cases hk
      show g' ≠ vb; omega
  have hBne : ∀ k, (Value.slice B ks.length d).ownBlock = some k → k ∉ (Value.slice A l.length c).ownBlock.toList ++ [g', vb] := by
    intro k hk hm
    simp only [List.mem_append, Option.mem_toList, List.mem_cons, List.mem_nil_iff, or_false] at hm
    have hkb := h.ko.lt k hk
    rcases hm with hm | hm | hm
    · exact h.apart k hm hk
    · exact hfar k hkb.2 (fun e => h.apart k e hk) hm.symm
    · omega
  have innx : ∀ y, JIn w y → (∀ g ∈ JFoot y, base ≤ g ∧ g < w.heap.size ∧ (Value.slice A l.length c).ownBlock ≠ some g ∧ (Value.slice B ks.length d).ownBlock ≠ some g) →
      JIn w8 y ∧ ∀ g ∈ JFoot y, base ≤ g ∧ g < w8.heap.size ∧ (Value.slice (some ⟨g', 0, none⟩) (l.length + 1) c').ownBlock ≠ some g ∧ (Value.slice B ks.length d).ownBlock ≠ some g := by
    intro y hy hf
    refine ⟨JIn.mod m8 (fun g hg hm => ?_) hy, fun g hg => ?_⟩
    · obtain ⟨b1, b2, b3, b4⟩ := hf g hg
      simp only [List.mem_append, Option.mem_toList, List.mem_cons, List.mem_nil_iff, or_false] at hm
      rcases hm with hm | hm | hm
      · exact b3 hm
      · exact hfar g b2 b3 hm.symm
      · omega
    · obtain ⟨b1, b2, b3, b4⟩ := hf g hg
      refine ⟨b1, Nat.lt_of_lt_of_le b2 m8.size, ?_, b4⟩
      rw [hnb]
      intro e
      cases e
      exact hfar _ b2 b3 rfl
  refine ⟨⟨hv8, ?_, m8.own h.ko hBne, fun y hy => ?_⟩, fun F hF hW hvF => ?_, fun g t cs hg hgv hbk => ?_⟩
  · rw [hl, lcells_app]; exact hlo8
  · rw [hl]
    rcases List.mem_append.1 hy with hy | hy
    · obtain ⟨a, b⟩ := h.inn y hy
      exact innx y a b
    · rw [List.mem_singleton] at hy
      subst hy
      exact innx y hx hxf
  · refine hF.trans m8 (fun y hy => ?_)
    simp only [List.mem_append, List.mem_cons, List.mem_nil_iff, or_false] at hy
    rcases hy with hy | hy | hy
    · right; have := own y hy; omega
    · right; omega
    · left; rw [hy]; exact hvF
  · refine m8.blk hbk (fun hm => ?_)
    simp only [List.mem_append, List.mem_cons, List.mem_nil_iff, or_false] at hm
    rcases hm with hm | hm | hm
    · have := own _ hm; omega
    · omega
    · exact hgv hm
/-- what lies there in the end -/
theorem MS.jin (h : MS w base vb kd A c l B d ks) (hl : l.length ≤ jmax) (hk : ks.length ≤ jmax) : JIn w (.mk kd 0 ⟨#[]⟩ A c l B d ks) ∧ ∀ g ∈ JFoot (.mk kd 0 ⟨#[]⟩ A c l B d ks), base ≤ g ∧ g < w.heap.size := by
  refine ⟨?_, ?_⟩
  · rw [JIn]
    refine ⟨⟨hl, hk⟩, ?_, ?_, JIns.of fun x hx => (h.inn x hx).1⟩
    · rcases h.ko.2 with ⟨h0, h0'⟩ | ⟨g, cap, cur, hv, hb, hh, q1, q2, q3, q4⟩
      · exact .inl (List.eq_nil_of_length_eq_zero h0')
      · cases hv
        refine .inr ⟨g, 0, rfl, Blk.lt hh, fun j x hx => ?_⟩
        have := World.ownsRow.cells h.ko (g := g) rfl j (.string x) (by rw [List.getElem?_map, hx]; rfl)
        rw [Addr.add_lit] at this
        exact this
    · rcases h.lo.2 with ⟨h0, h0'⟩ | ⟨g, cap, cur, hv, hb, hh, q1, q2, q3, q4⟩
      · exact .inl (List.eq_nil_of_length_eq_zero h0')
      · cases hv
        refine .inr ⟨g, 0, rfl, Blk.lt hh, fun j x hx i u hu => ?_⟩
        have := World.ownsRow.cells h.lo (g := g) rfl (j * 5 + i) u (lcells_at l j x hx i u hu)
        rw [Addr.add_lit] at this
        rw [Nat.zero_add] at this
        rw [Nat.zero_add]
        exact this
  · intro g hg
    rw [JFoot] at hg
    simp only [List.mem_append] at hg
    rcases hg with (hg | hg) | hg
    · rcases h.lo.2 with ⟨h0, _⟩ | ⟨g', cap, cur, hv, hb, _⟩
      · injection h0 with e1 _ _; subst e1; cases hg
      · cases hv; simp at hg; subst hg; exact h.lo.lt g rfl
    · rcases h.ko.2 with ⟨h0, _⟩ | ⟨g', cap, cur, hv, hb, _⟩
      · injection h0 with e1 _ _; subst e1; cases hg
      · cases hv; simp at hg; subst hg; exact h.ko.lt g rfl
    · obtain ⟨x, h1, h2⟩ := JFoots.inv hg
      exact ⟨((h.inn x h1).2 g h2).1, ((h.inn x h1).2 g h2).2.1⟩
end
end Go.Proofs.YtkbpndohpkcikabDoor
