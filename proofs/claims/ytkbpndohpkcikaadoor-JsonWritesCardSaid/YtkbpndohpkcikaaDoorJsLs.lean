/-
  JsonLists: a value whose two rows grow at once; plain facts on lists' bytes.
-/
import Derived.Test.YtkbpndohpkcikaaDoorJsLaw
import Derived.Test.YtkbpndohpkcikaaDoorUntil
namespace Go.Proofs.YtkbpndohpkcikaaDoor
open Go.RowKit Js
set_option linter.unusedVariables false
set_option linter.unusedSimpArgs false
/-- the value in block ob holds the rows A, B; the rows A', B' are under way -/
structure LP (W w : World) (base ob : Nat) (A : Option Addr) (c : Nat) (l : List JN) (B : Option Addr) (d : Nat) (ks : List ByteArray) (A' : Option Addr) (c' : Nat) (l' : List JN) (B' : Option Addr) (d' : Nat) (ks' : List ByteArray) : Prop where
  v : Blk w ob 25 (JN.mk 6 0 ⟨#[]⟩ A c l B d ks).cells
  lo : w.ownsRow base 25 5 (.slice A' l'.length c') l'.length (lcells l')
  ko : w.ownsRow base 9 1 (.slice B' ks'.length d') ks'.length (ks'.map Value.string)
  m : Mod [] W w
  hb : W.heap.size ≤ ob ∧ ob < base ∧ base ≤ w.heap.size
section
variable {W w w' : World} {base ob : Nat} {A A' B B' : Option Addr} {c c' d d' : Nat} {l l' : List JN} {ks ks' : List ByteArray}
theorem LP.mod (h : LP W w base ob A c l B d ks A' c' l' B' d' ks') (m : Mod [] w w') : LP W w' base ob A c l B d ks A' c' l' B' d' ks' :=
  ⟨m.blk h.v (by simp), m.own h.lo (by simp), m.own h.ko (by simp), h.m.trans m (by simp), h.hb.1, h.hb.2.1, Nat.le_trans h.hb.2.2 m.size⟩
theorem LP.key (h : LP W w base ob A c l B d ks A' c' l' B' d' ks') (hn : ks'.length ≤ 1000000) (S : ByteArray) (zb : Nat) (hz : Blk w zb 9 #[.string S]) :
    ∃ B2 d2 w6, (Builtin.append_ #[23, 23] 23 #[.slice B' ks'.length d', .slice (some ⟨zb, 0, none⟩) 1 1]).run Tryd.prog w = .ok (.slice B2 (ks'.length + 1) d2) w6 ∧
      LP W w6 base ob A c l B d ks A' c' l' B2 d2 (ks' ++ [S]) ∧ (∀ g cs, Blk w g 25 cs → Blk w6 g 25 cs) := by
  obtain ⟨B2, d2, w6, h1, h2, h3, h4⟩ := app_one (P := Tryd.prog) Tryd.underlying23 strInfo rfl w 23 base _ _ _ h.ko h.hb.2.2 [.string S] rfl (by simp [Value.oneCell']) (by omega) (by omega) zb (fun j u hu => by
    rw [hz.cell j, List.getElem?_toArray, hu])
  have keep : ∀ g cs, Blk w g 25 cs → Blk w6 g 25 cs := fun g cs hg => h3.blk hg (fun hk => by
    rw [Option.mem_toList] at hk
    exact own_blk_ne h.ko hg (by decide) g hk rfl)
  refine ⟨B2, d2, w6, h1, ⟨keep _ _ h.v, h3.own h.lo (fun k hk hm => ?_), ?_, h.m.trans h3 (fun x hx => ?_), h.hb.1, h.hb.2.1, Nat.le_trans h.hb.2.2 h3.size⟩, keep⟩
  · rw [Option.mem_toList] at hm
    rcases h.lo.2 with ⟨h0, _⟩ | ⟨g, cap, cur, hv, _, hh, _⟩
    · rw [h0] at hk; cases hk
    · rw [hv] at hk
      cases hk
      exact own_blk_ne h.ko (show Blk w g 25 cur from hh) (by decide) g hm rfl
  · rw [List.map_append, List.length_append]
    exact h2
  · rw [Option.mem_toList] at hx
    have := (h.ko.lt x hx).1
    have := h.hb
    right; omega
theorem LP.val (h : LP W w base ob A c l B d ks A' c' l' B' d' ks') (hn : l'.length ≤ 1000000) (x : JN) (zb : Nat) (hz : Blk w zb 25 x.cells) :
    ∃ A2 c2 w6, (Builtin.append_ #[22, 22] 22 #[.slice A' l'.length c', .slice (some ⟨zb, 0, none⟩) 1 1]).run Tryd.prog w = .ok (.slice A2 (l'.length + 1) c2) w6 ∧
      LP W w6 base ob A c l B d ks A2 c2 (l' ++ [x]) B' d' ks' ∧ (∀ g cs, Blk w g 9 cs → Blk w6 g 9 cs) := by
  obtain ⟨A2, c2, w6, h1, h2, h3, h4⟩ := app_one (P := Tryd.prog) Tryd.underlying22 valInfo rfl w 22 base _ _ _ h.lo h.hb.2.2 x.cells.toList (by simpa using x.cells_size) (by cases x; simp [JN.cells, Value.oneCell']) (by omega) (by omega) zb (fun j u hu => by
    rw [hz.cell j]; simpa using hu)
  have keep : ∀ g cs, Blk w g 9 cs → Blk w6 g 9 cs := fun g cs hg => h3.blk hg (fun hk => by
    rw [Option.mem_toList] at hk
    exact own_blk_ne h.lo hg (by decide) g hk rfl)
  refine ⟨A2, c2, w6, h1, ⟨h3.blk h.v (fun hk => ?_), ?_, h3.own h.ko (fun k hk hm => ?_), h.m.trans h3 (fun x hx => ?_), h.hb.1, h.hb.2.1, Nat.le_trans h.hb.2.2 h3.size⟩, keep⟩
  · rw [Option.mem_toList] at hk
    have := (h.lo.lt ob hk).1
    have := h.hb
    omega
  · rw [lcells_app, List.length_append]
    exact h2
  · rw [Option.mem_toList] at hm
    rcases h.ko.2 with ⟨h0, _⟩ | ⟨g, cap, cur, hv, _, hh, _⟩
    · rw [h0] at hk; cases hk
    · rw [hv] at hk
      cases hk
      exact own_blk_ne h.lo (show Blk w g 9 cur from hh) (by decide) g hm rfl
  · rw [Option.mem_toList] at hx
    have := (h.lo.lt x hx).1
    have := h.hb
    right; omega
theorem LP.set4 (h : LP W w base ob A c l B d ks A' c' l' B' d' ks') : LP W (w.setCell ⟨ob, 4, none⟩ (.slice B' ks'.length d')) base ob A c l B' d' ks' A' c' l' B' d' ks' := by
  refine ⟨?_, own_far h.lo (fun k hk => ?_) _, own_far h.ko (fun k hk => ?_) _, h.m.setCell (p := ⟨ob, 4, none⟩) (.inr h.hb.1) _, h.hb.1, h.hb.2.1, by simpa [World.setCell] using h.hb.2.2⟩
  · exact h.v.set_ 4 _
  · have := (h.lo.lt k hk).1; have := h.hb; show k ≠ ob; omega
  · have := (h.ko.lt k hk).1; have := h.hb; show k ≠ ob; omega
theorem LP.set3 (h : LP W w base ob A c l B d ks A' c' l' B' d' ks') : LP W (w.setCell ⟨ob, 3, none⟩ (.slice A' l'.length c')) base ob A' c' l' B d ks A' c' l' B' d' ks' := by
  refine ⟨?_, own_far h.lo (fun k hk => ?_) _, own_far h.ko (fun k hk => ?_) _, h.m.setCell (p := ⟨ob, 3, none⟩) (.inr h.hb.1) _, h.hb.1, h.hb.2.1, by simpa [World.setCell] using h.hb.2.2⟩
  · exact h.v.set_ 3 _
  · have := (h.lo.lt k hk).1; have := h.hb; show k ≠ ob; omega
  · have := (h.ko.lt k hk).1; have := h.hb; show k ≠ ob; omega
theorem LP.jin (h : LP W w base ob A c l B d ks A c l B d ks) (hl : l.length ≤ jmax) (hk : ks.length ≤ jmax) (hi : ∀ x ∈ l, JIn w x) : JIn w (.mk 6 0 ⟨#[]⟩ A c l B d ks) := by
  rw [JIn]
  refine ⟨⟨hl, hk⟩, ?_, ?_, JIns.of hi⟩
  · rcases h.ko.2 with ⟨h0, h0'⟩ | ⟨g, cap, cur, hv, hb, hh, q1, q2, q3, q4⟩
    · exact .inl (List.eq_nil_of_length_eq_zero h0')
    · cases hv
      refine .inr ⟨g, 0, rfl, Blk.lt hh, fun j x hx => ?_⟩
      have := World.ownsRow.cells h.ko (g := g) rfl j (.string x) (by rw [List.getElem?_map, hx]; rfl)
      rw [Addr.add_lit] at this
      exact this
  · rcases h.lo.2 with ⟨h0, h0'⟩ | ⟨g, cap, cur, hv, hb, hh, q1, q2, q3, q4⟩
    · exact .inl (List.eq_nil_of_length_eq_zero h0')
    · cases hv
      refine .inr ⟨g, 0, rfl, Blk.lt hh, fun j x hx i u hu => ?_⟩
      have := World.ownsRow.cells h.lo (g := g) rfl (j * 5 + i) u (lcells_at l j x hx i u hu)
      rw [Addr.add_lit] at this
      rw [Nat.zero_add] at this
      rw [Nat.zero_add]
      exact this
end
/-! plain -/
theorem jwrsR_snoc (obj : Bool) (x : JV) : ∀ (l : List JV) (ks : List ByteArray), jwrsR obj (l ++ [x]) ks = jwrsR obj l ks ++ (44 :: (jkeyed obj (ks.drop l.length) ++ jwr x))
  | [], ks => by simp [jwrsR]
  | y :: l, ks => by
    rw [List.cons_append, jwrsR, jwrsR, jwrsR_snoc obj x l ks.tail, List.length_cons]
    simp
theorem jwrs_snoc (obj : Bool) (x : JV) (l : List JV) (ks : List ByteArray) : jwrs obj (l ++ [x]) ks = jwrs obj l ks ++ (if l.length = 0 then [] else [44]) ++ (jkeyed obj (ks.drop l.length) ++ jwr x) := by
  cases l with
  | nil => simp [jwrs, jwrsR]
  | cons y l =>
    rw [List.cons_append, jwrs, jwrs, jwrsR_snoc, List.length_cons]
    simp
theorem jws_take (d : Nat) : ∀ (l : List JV) (j : Nat), jws d (l.take j) ≤ jws d l
  | [], j => by simp
  | x :: l, 0 => by simp [jws]
  | x :: l, j + 1 => by rw [List.take_succ_cons, jws_cons, jws_cons]; have := jws_take d l j; omega
theorem jrngs_take : ∀ (l : List JV) (j : Nat), jrngs l = true → jrngs (l.take j) = true
  | [], j, h => by rw [List.take_nil]; exact h
  | x :: l, 0, h => by rw [List.take_zero, jrngs]
  | x :: l, j + 1, h => by
    rw [jrngs, Bool.and_eq_true] at h
    rw [List.take_succ_cons, jrngs, h.1, jrngs_take l j h.2]
    rfl
theorem ksz_rep (n : Nat) (k : ByteArray) : ksz (List.replicate n k) = n * k.size := by
  unfold ksz; simp
mutual
theorem jmay_up : ∀ (d : Nat) (v : JV), jmay d v = true → jmay (d + 1) v = true
  | d, .mk k i t l ks, h => by
    rw [jmay] at h ⊢
    simp only [Bool.and_eq_true] at h ⊢
    obtain ⟨⟨⟨⟨⟨⟨h1, h2⟩, h3⟩, h4⟩, h5⟩, h6⟩, h7⟩ := h
    have h0 : 0 < d := of_decide_eq_true h1
    refine ⟨⟨⟨⟨⟨⟨by simp, h2⟩, h3⟩, h4⟩, h5⟩, h6⟩, ?_⟩
    have := jmays_up (d - 1) l h7
    rw [show d - 1 + 1 = d + 1 - 1 by omega] at this
    exact this
theorem jmays_up : ∀ (d : Nat) (l : List JV), jmays d l = true → jmays (d + 1) l = true
  | d, [], h => by rw [jmays]
  | d, x :: l, h => by
    rw [jmays, Bool.and_eq_true] at h ⊢
    exact ⟨jmay_up d x h.1, jmays_up d l h.2⟩
end
theorem jmay_list {d : Nat} {l : List JV} : jmay (d + 1) (.mk 5 0 ⟨#[]⟩ l []) = jmays d l := by
  rw [jmay]; simp; exact fun _ => rfl
theorem jmay_obj {d : Nat} {l : List JV} {ks : List ByteArray} (h : ks.length = l.length) : jmay (d + 1) (.mk 6 0 ⟨#[]⟩ l ks) = jmays d l := by
  rw [jmay]; simp [h]; exact fun _ => rfl
end Go.Proofs.YtkbpndohpkcikaaDoor
