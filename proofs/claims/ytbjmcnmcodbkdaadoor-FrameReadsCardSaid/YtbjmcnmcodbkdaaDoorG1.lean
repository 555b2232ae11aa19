/-
  Contracts and plain laws that the proofs of this seat share, part 1 of 8: Mem, VarP, FrP, Var, VarT, Short, FrQ, FrB.
-/
import Derived.WalkKit
import Derived.WalkSpells
import Derived.WalkLawsBesides
import Derived.Deep.AppendSrc
import Derived.Lib.AppendZerosOnto
import Derived.Maps.AppendAt
import Derived.Deep.QuietTactic
import Derived.BigQuiet
import Derived.Test.YtbjmcnmcodbkdaaDoorProg
import Derived.Laws.Bits64b
import Derived.Laws.BitsAllLaws
import Derived.Laws.IdiomStrings
import Derived.Deep.OwnRows
import Derived.Lib.ConvBytes
import Derived.Lib.Strings

/-
  Memory words: a block that is known whole; worlds that differ only in some blocks.
-/
namespace Go.Proofs.YtbjmcnmcodbkdaaDoor
open Go.RowKit

theorem hide {p : Prop} (h : p) : Hid p := h

theorem results_tmp4 {fn : Func} {t u v x : Tmp} (h : fn.results = #[.tmp t, .tmp u, .tmp v, .tmp x]) (tmps : Array Value) (P : Program) (w : World) :
    (results fn tmps).run P w = .ok (.tuple #[tmps.getD t undef, tmps.getD u undef, tmps.getD v undef, tmps.getD x undef]) w := by simp [results, h]
theorem results_tmp5 {fn : Func} {t u v x y : Tmp} (h : fn.results = #[.tmp t, .tmp u, .tmp v, .tmp x, .tmp y]) (tmps : Array Value) (P : Program) (w : World) :
    (results fn tmps).run P w = .ok (.tuple #[tmps.getD t undef, tmps.getD u undef, tmps.getD v undef, tmps.getD x undef, tmps.getD y undef]) w := by simp [results, h]

theorem beq_nat (a b : Nat) : ((a : Int) == (b : Int)) = (a == b) := by rw [Bool.eq_iff_iff]; simp only [beq_iff_eq, Int.natCast_inj]

/-- a quiet call behind quiet regions -/
theorem quiet_add {P : Program} {f : FuncId} {args : Array Value} {w : World} {a n : Nat} {v : Value}
    (h : Calls P f args (w.drewN (a + n)) fun e w' => e = .returned v ∧ ∃ m, w' = (w.drewN (a + n)).drewN m) :
    Calls P f args (w.drewN (a + n)) fun e w'' => e = .returned v ∧ ∃ m, w'' = w.drewN (a + m) :=
  h.mono fun _ _ ⟨he, m, hm⟩ => ⟨he, n + m, by rw [hm, World.drewN_drewN, Nat.add_assoc]⟩

/-- Block g is just the cells cs of element type t, none frozen. -/
def Blk (w : World) (g : Nat) (t : TypeId) (cs : Array Value) : Prop := w.heap[g]? = some (.cells cs t (0, 0))

section
variable {w w' : World} {g : Nat} {t : TypeId} {cs : Array Value}
theorem Blk.lt (h : Blk w g t cs) : g < w.heap.size := by
  rcases Nat.lt_or_ge g w.heap.size with hlt | hge
  · exact hlt
  · unfold Blk at h; rw [Array.getElem?_eq_none hge] at h; cases h
theorem Blk.cell (h : Blk w g t cs) (i : Nat) : w.cell? ⟨g, i, none⟩ = cs[i]? := cell_of_row w g i cs t (0, 0) h
theorem Blk.frozen (h : Blk w g t cs) (i : Nat) : w.frozen? ⟨g, i, none⟩ = false := by
  unfold Blk at h
  simp [World.frozen?, h]
theorem Blk.new (w : World) (t : TypeId) (cs : Array Value) : Blk (w.alloc (.cells cs t)) w.heap.size t cs := heap_alloc_new w _
theorem Blk.drew (h : Blk w g t cs) : Blk w.drew g t cs := h
theorem Blk.alloc (h : Blk w g t cs) (o : Obj) : Blk (w.alloc o) g t cs := (Below.heap_alloc w o g h.lt).trans h
theorem Blk.set_ (h : Blk w g t cs) (i : Nat) (u : Value) : Blk (w.setCell ⟨g, i, none⟩ u) g t (cs.setIfInBounds i u) := by
  unfold Blk at h ⊢
  simp [World.setCell, Array.getElem?_modify, h]
theorem Blk.far (h : Blk w g t cs) {p : Addr} (hp : g ≠ p.block) (u : Value) : Blk (w.setCell p u) g t cs := (Below.heap_setCell w p u g hp).trans h
theorem Blk.ne_ {g' : Nat} {t' : TypeId} {cs' : Array Value} (h : Blk w g t cs) (h' : Blk w g' t' cs') (hne : t ≠ t') : g ≠ g' := by
  rintro rfl
  unfold Blk at h h'
  rw [h] at h'
  injection h' with h'
  injection h' with _ ht
  exact hne ht
end

/-- w' is w, but for the blocks of F, and new ones. -/
structure Mod (F : List Nat) (w w' : World) : Prop where
  os : w'.os = w.os
  tape : w'.tape = w.tape
  output : w'.output = w.output
  size : w.heap.size ≤ w'.heap.size
  block : ∀ k, k < w.heap.size → k ∉ F → w'.heap[k]? = w.heap[k]?

section
variable {F G : List Nat} {a b c w w' : World}
theorem Mod.refl (F : List Nat) (w : World) : Mod F w w := ⟨rfl, rfl, rfl, Nat.le_refl _, fun _ _ _ => rfl⟩
theorem Mod.trans (h : Mod F a b) (k : Mod G b c) (hG : ∀ x ∈ G, x ∈ F ∨ a.heap.size ≤ x) : Mod F a c :=
  ⟨k.os.trans h.os, k.tape.trans h.tape, k.output.trans h.output, Nat.le_trans h.size k.size, fun i hi hn =>
    (k.block i (Nat.lt_of_lt_of_le hi h.size) (fun hg => by rcases hG i hg with h1 | h1; exact hn h1; omega)).trans (h.block i hi hn)⟩
theorem Mod.mono (h : Mod F a b) (hF : ∀ x ∈ F, x ∈ G ∨ a.heap.size ≤ x) : Mod G a b :=
  ⟨h.os, h.tape, h.output, h.size, fun i hi hn => h.block i hi (fun hf => by rcases hF i hf with h1 | h1; exact hn h1; omega)⟩
theorem Mod.alloc (h : Mod F a w) (o : Obj) : Mod F a (w.alloc o) :=
  ⟨h.os, h.tape, h.output, Nat.le_trans h.size (by simp), fun i hi hn => (Below.heap_alloc w o i (Nat.lt_of_lt_of_le hi h.size)).trans (h.block i hi hn)⟩
theorem Mod.drew (h : Mod F a w) : Mod F a w.drew := ⟨h.os, h.tape, h.output, h.size, h.block⟩
theorem Mod.drewN (h : Mod F a w) (n : Nat) : Mod F a (w.drewN n) := ⟨h.os, h.tape, h.output, h.size, h.block⟩
theorem Mod.setCell (h : Mod F a w) {p : Addr} (hp : p.block ∈ F ∨ a.heap.size ≤ p.block) (u : Value) : Mod F a (w.setCell p u) :=
  ⟨h.os, h.tape, h.output, by simpa [World.setCell] using h.size, fun i hi hn => (Below.heap_setCell w p u i (by
    rintro rfl
    rcases hp with hp | hp
    · exact hn hp
    · omega)).trans (h.block i hi hn)⟩
theorem Mod.grown (h : Mod F a w) {row : Option Nat} (hg : w.grownBy w' row) (hr : ∀ k, row = some k → k ∈ F ∨ a.heap.size ≤ k) : Mod F a w' :=
  ⟨hg.os.trans h.os, hg.tape.trans h.tape, hg.output.trans h.output, Nat.le_trans h.size hg.size, fun i hi hn =>
    (hg.block i (Nat.lt_of_lt_of_le hi h.size) (fun e => by rcases hr i e.symm with h1 | h1; exact hn h1; omega)).trans (h.block i hi hn)⟩
theorem Mod.of_grown {row : Option Nat} (hg : w.grownBy w' row) : Mod row.toList w w' :=
  (Mod.refl _ w).grown hg (fun k hk => by simp [hk])
theorem Mod.cell (h : Mod F a w) {p : Addr} (hp : p.block < a.heap.size) (hn : p.block ∉ F) : w.cell? p = a.cell? p := World.cell?_of_block (h.block p.block hp hn)
theorem Mod.frozen (h : Mod F a w) {p : Addr} (hp : p.block < a.heap.size) (hn : p.block ∉ F) : w.frozen? p = a.frozen? p := World.frozen?_of_block (h.block p.block hp hn)
theorem Mod.blk (h : Mod F a w) {g : Nat} {t : TypeId} {cs : Array Value} (hb : Blk a g t cs) (hn : g ∉ F) : Blk w g t cs := (h.block g hb.lt hn).trans hb
theorem Mod.below {B : Nat} (h : Mod F a w) (hB : B ≤ a.heap.size) (hF : ∀ x ∈ F, B ≤ x) : Below B a w :=
  ⟨h.os, h.tape, h.output, h.size, fun k hk => h.block k (by omega) (fun hf => by have := hF k hf; omega)⟩
theorem Mod.of_below (h : Below a.heap.size a w) : Mod F a w := ⟨h.os, h.tape, h.output, h.size, fun k hk _ => h.block k hk⟩
end

section
variable {F : List Nat} {a w w' : World} {base : Nat} {e : TypeId} {size n : Nat} {v : Value} {xs : List Value}
theorem own_lt (h : w.ownsRow base e size v n xs) : ∀ k, v.ownBlock = some k → k < w.heap.size := fun k hk => (h.lt k hk).2
theorem Mod.own (h : Mod F a w) (ho : a.ownsRow base e size v n xs) (hn : ∀ k, v.ownBlock = some k → k ∉ F) : w.ownsRow base e size v n xs := by
  refine ⟨ho.1, ?_⟩
  rcases ho.2 with h0 | ⟨g, cap, cur, hv, hg, hh, r⟩
  · exact .inl h0
  · exact .inr ⟨g, cap, cur, hv, hg, (h.block g (Blk.lt hh) (hn g (by rw [hv]; rfl))).trans hh, r⟩
theorem own_far (ho : w.ownsRow base e size v n xs) {p : Addr} (hn : ∀ k, v.ownBlock = some k → k ≠ p.block) (u : Value) : (w.setCell p u).ownsRow base e size v n xs :=
  ((Mod.refl [p.block] w).setCell (p := p) (.inl (by simp)) u).own ho (fun k hk => by have := hn k hk; simpa using this)
theorem own_blk_ne {g : Nat} {t : TypeId} {cs : Array Value} (h : w.ownsRow base e size v n xs) (hg : Blk w g t cs) (hne : e ≠ t) : ∀ k, v.ownBlock = some k → k ≠ g := by
  rintro k hk rfl
  rcases h.2 with ⟨rfl, _⟩ | ⟨g', cap, cur, rfl, _, hh, _⟩
  · simp [Value.ownBlock] at hk
  · have : g' = k := by simpa [Value.ownBlock] using hk
    subst this
    exact Blk.ne_ (t := e) hh hg hne rfl
end

/-- the block under an owned slice -/
theorem own_block {w : World} {base : Nat} {e : TypeId} {g n' cap n : Nat} {xs : List Value} (h : w.ownsRow base e 1 (.slice (some ⟨g, 0, none⟩) n' cap) n xs) :
    ∃ cur, Blk w g e cur ∧ ∀ (j : Nat) (x : Value), xs[j]? = some x → cur[j]? = some x := by
  rcases h.2 with ⟨h0, _⟩ | ⟨g', cap', cur, hv, _, hg, _, _, _, htake⟩
  · cases h0
  · cases hv
    refine ⟨cur, hg, fun j x hx => ?_⟩
    rw [← htake, List.getElem?_take] at hx
    split at hx
    · simpa using hx
    · cases hx

/-! ### append, of whatever source -/
/-- What an append of x onto rows of e yields: m elements, the cells news. -/
structure AppSrc (P : Program) (t tx e : TypeId) (size : Nat) (z : Value) (x : Value) (m : Nat) (news : List Value) (w : World) : Prop where
  len : news.length = m * size
  room : ∀ (ty : TypeId) (g sLen sCap : Nat) (cur : Array Value), w.heap[g]? = some (.cells cur e (0, 0)) → sLen + m ≤ sCap → sLen * size + news.length ≤ cur.size →
    (Builtin.append_ #[t, tx] ty #[.slice (some ⟨g, 0, none⟩) sLen sCap, x]).run P w =
      .ok (.slice (some ⟨g, 0, none⟩) (sLen + m) sCap) (w.setRow g (cur.toList.take (sLen * size) ++ news ++ cur.toList.drop (sLen * size + news.length)).toArray)
  grow : ∀ (ty : TypeId) (base : Option Addr) (sLen sCap : Nat) (olds : List Value), (Builtin.firstCells size sLen (.slice base sLen sCap)).run P w.drew = .ok olds.toArray w.drew →
    sCap < sLen + m → sLen + m ≤ maxLen → (∃ bytes, (∀ i, P.info? e = some i → i.bytes = bytes) ∧ (sLen + m) * bytes ≤ 140737488355328) →
    (Builtin.append_ #[t, tx] ty #[.slice base sLen sCap, x]).run P w =
      .ok (.slice (some ⟨w.heap.size, 0, none⟩) (sLen + m) (grownCap w (sLen + m) sCap e))
        (w.drew.alloc (.cells ((olds ++ news).toArray ++ Builtin.zeroCells z.cells (grownCap w (sLen + m) sCap e - (sLen + m))) e))
  none0 : ∀ (ty : TypeId), m = 0 → (Builtin.append_ #[t, tx] ty #[.slice none 0 0, x]).run P w = .ok (.slice none 0 0) w

section
variable {P : Program} {w : World} {t tx e : TypeId} {i : TypeInfo} {z : Value} {size : Nat}

theorem AppSrc.of_src (ht : P.underlying t = some (.slice e)) (hi : P.info? e = some i) (hz : i.zero = some z) (hsize : i.size = size) {x : Value} {m : Nat} {news : List Value}
    (hs : Src P size tx x m news w) : AppSrc P t tx e size z x m news w := by
  subst hsize
  refine ⟨hs.newsLen, ?_, ?_, ?_⟩
  · intro ty g sLen sCap cur hg hroom hfit
    have hst := run_storeCells_at P g (sLen * i.size) e news 0 cur w hg (by simpa using hfit) hs.one
    simp only [Nat.add_zero] at hst
    rcases hs.kind with ⟨e', hk⟩ | hk <;> simp [Builtin.append_, run_underlying ht, run_underlying hk, sizeOf, typeInfo, hi, hs.len, hroom, hs.cells, Addr.add_lit, hst]
  · rintro ty base sLen sCap olds hold hg h63 ⟨bytes, hb, hb2⟩
    have := hb i hi
    subst this
    exact run_append_grow_src w t tx ty e i z ht hi hz base sLen sCap olds hold x m news hs hg (by simp only [maxLen] at h63; omega) (growslice_fits hg hb2)
  · intro ty hm
    subst hm
    have hn : news = [] := List.eq_nil_of_length_eq_zero (by simpa using hs.newsLen)
    subst hn
    have hc := hs.cells
    rcases hs.kind with ⟨e', hk⟩ | hk <;> simp [Builtin.append_, run_underlying ht, run_underlying hk, sizeOf, typeInfo, hi, hs.len, hc]

theorem AppSrc.zeros {tn : TypeId} {kq kn : IntKind} (ht : P.underlying t = some (.slice e)) (htn : P.underlying tn = some (.int kn)) (hi : P.info? e = some i) (hz : i.zero = some z)
    (hsize : i.size = 1) (hzs : z.cells = #[z]) (h1 : z.oneCell' = true) (m : Nat) (hm : m ≤ maxLen) (hb : m * i.bytes ≤ 281474976710656) : AppSrc P t tn e 1 z (.int kq m) m (List.replicate m z) w := by
  have hzc : (Builtin.zeroCells z.cells m) = (List.replicate m z).toArray := by
    rw [hzs]
    unfold Builtin.zeroCells
    apply Array.ext'
    simp only [Array.toList_map, List.size_toArray, List.length_cons, List.length_nil, Nat.zero_add, Nat.mul_one, Array.toList_range]
    apply List.ext_getElem
    · simp
    · intro j h1 h2
      simp [Nat.mod_one]
  have hw : IntKind.i64.wrap (m : Int) = m := by rw [IntKind.wrap_i64]; simp only [maxLen] at hm; omega
  have h48i : ¬ (281474976710656 < (m : Int) * (i.bytes : Int)) := by rw [← Int.natCast_mul]; omega
  have hneg : ¬ ((m : Int) < 0) := by omega
  have hlen : (List.replicate m z).length = m * 1 := by simp
  have hw0 : IntKind.i64.wrap 0 = 0 := by rw [IntKind.wrap_i64]; rfl
  refine ⟨hlen, ?_, ?_, ?_⟩
  · intro ty g sLen sCap cur hg hroom hfit
    rw [Nat.mul_one] at hfit
    have hst := run_storeCells_at P g sLen e (List.replicate m z) 0 cur w hg (by simpa using hfit) (fun v hv => by rw [List.eq_of_mem_replicate hv]; exact h1)
    simp only [Nat.add_zero] at hst
    by_cases h0 : m = 0
    · subst h0
      simp at hst
      have hr0 : sLen ≤ sCap := by omega
      simp [Builtin.append_, run_underlying ht, run_underlying htn, sizeOf, typeInfo, hi, hsize, asInt, asIntOf, hw0, hr0, Addr.add_lit, hst]
    · simp [Builtin.append_, run_underlying ht, run_underlying htn, sizeOf, typeInfo, zeroValue, hi, hz, hsize, asInt, asIntOf, hw, hneg, h48i, hroom, h0, hzc, Addr.add_lit, hst]
  · rintro ty base sLen sCap olds hold hg h63 ⟨bytes, hb3, hb2⟩
    have := hb3 i hi
    subst this
    by_cases h0 : m = 0
    · subst h0
      have hn : ¬ (sLen ≤ sCap) := by omega
      have h63' : ¬ (9223372036854775807 < (sLen : Int)) := by simp only [maxLen] at h63; omega
      have h48' : ¬ (281474976710656 < Builtin.nextslicecap sLen sCap * i.bytes) := by have := growslice_fits hg hb2; simp at this; omega
      simp [Builtin.append_, run_underlying ht, run_underlying htn, sizeOf, typeInfo, zeroValue, hi, hz, hsize, asInt, asIntOf, hw0, hn, h63', h48', Question.forced, hold, newRow, grownCap]
    · have := Lib.run_append_grow_zeros (P := P) w t tn ty e i z kq kn ht htn hi hz base sLen sCap olds (by rw [hsize]; exact hold) m (by omega) (by omega) hg (by simp only [maxLen] at h63; omega) hb (growslice_fits hg hb2)
      rw [this, hzc]
      congr 4
      apply Array.ext'
      simp
  · intro ty h0
    subst h0
    simp [Builtin.append_, run_underlying ht, run_underlying htn, sizeOf, typeInfo, hi, asInt, asIntOf, hw0]

/-- THE LAW: some value, in some world. -/
theorem run_app (ty : TypeId) (base : Nat) (hi : P.info? e = some i) (hsize : i.size = size) (hzs : z.cells.size = size)
    (v : Value) (n : Nat) (xs : List Value) (hown : w.ownsRow base e size v n xs) {x : Value} {m : Nat} {news : List Value} (hs : AppSrc P t tx e size z x m news w)
    (h63 : n + m ≤ maxLen) (hbytes : (n + m) * i.bytes ≤ 140737488355328) (hbase : base ≤ w.heap.size) :
    ∃ v' w', (Builtin.append_ #[t, tx] ty #[v, x]).run P w = .ok v' w' ∧ w'.ownsRow base e size v' (n + m) (xs ++ news) ∧ w.grownBy w' v.ownBlock ∧ (v'.ownBlock = v.ownBlock ∨ v'.ownBlock = some w.heap.size) := by
  subst hsize
  have hlen : (xs ++ news).length = (n + m) * i.size := by rw [List.length_append, hown.1, hs.len, Nat.add_mul]
  have grown : ∀ (old : Nat), old < n + m → ∀ (row : Option Nat),
      (w.drew.alloc (.cells ((xs ++ news).toArray ++ Builtin.zeroCells z.cells (grownCap w (n + m) old e - (n + m))) e)).ownsRow base e i.size
        (.slice (some ⟨w.heap.size, 0, none⟩) (n + m) (grownCap w (n + m) old e)) (n + m) (xs ++ news) ∧
      w.grownBy (w.drew.alloc (.cells ((xs ++ news).toArray ++ Builtin.zeroCells z.cells (grownCap w (n + m) old e - (n + m))) e)) row := by
    intro old ho row
    have hge := grownCap_ge w (n + m) old e
    have hcm : grownCap w (n + m) old e ≤ maxLen := grownCap_le_maxLen w (n + m) old e h63
    refine ⟨⟨hlen, .inr ⟨w.heap.size, _, _, rfl, hbase, heap_alloc_new w.drew _, hge, hcm, ?_, ?_⟩⟩, ⟨rfl, rfl, rfl, by simp, fun k hk _ => Below.heap_alloc w.drew _ k (by simpa using hk)⟩⟩
    · rw [Array.size_append, List.size_toArray, hlen, size_zeroCells, hzs, ← Nat.add_mul]
      congr 1
      omega
    · rw [Array.toList_append, ← hlen]
      exact List.take_left
  rcases hown.2 with ⟨rfl, rfl⟩ | ⟨g, cap, cur, rfl, hbg, hg, hnc, hcm, hcs, htake⟩
  · have hx : xs = [] := List.eq_nil_of_length_eq_zero (by simpa using hown.1)
    subst hx
    by_cases hm : m = 0
    · have hn : news = [] := List.eq_nil_of_length_eq_zero (by rw [hs.len, hm]; simp)
      exact ⟨_, _, hs.none0 ty hm, by rw [hm, hn]; simpa using World.ownsRow_nil w base e i.size, ⟨rfl, rfl, rfl, Nat.le_refl _, fun _ _ _ => rfl⟩, .inl rfl⟩
    · have hr := hs.grow ty none 0 0 [] (by simp [Builtin.firstCells]) (by omega) h63 ⟨i.bytes, fun j hj => by rw [hi] at hj; cases hj; rfl, hbytes⟩
      have hgr := grown 0 (by omega) (Value.ownBlock (.slice none 0 0))
      exact ⟨_, _, hr, hgr.1, hgr.2, .inr rfl⟩
  · by_cases hroom : n + m ≤ cap
    · have hfit : n * i.size + news.length ≤ cur.size := by rw [hs.len, hcs, ← Nat.add_mul]; exact Nat.mul_le_mul_right _ hroom
      have hr := hs.room ty g n cap cur hg hroom hfit
      refine ⟨_, _, hr, ⟨hlen, .inr ⟨g, cap, _, rfl, hbg, setRow_heap w g cur _ e _ hg, hroom, hcm, ?_, ?_⟩⟩, ⟨rfl, rfl, rfl, by simp, fun k _ hk => setRow_other w g k _ (fun e => hk (by simp [Value.ownBlock, e]))⟩, .inl rfl⟩
      · simp only [List.size_toArray, List.length_append, List.length_take, List.length_drop, Array.length_toList]
        omega
      · rw [htake, ← hlen]
        exact List.take_left
    · have holds : ∀ j u, xs[j]? = some u → w.cell? ((⟨g, 0, none⟩ : Addr).add j) = some u := hown.cells (g := g) rfl
      have hr := hs.grow ty (some ⟨g, 0, none⟩) n cap xs (run_firstCells_some w.drew i.size n ⟨g, 0, none⟩ n cap xs hown.1 (by simpa using holds)) (by omega) h63 ⟨i.bytes, fun j hj => by rw [hi] at hj; cases hj; rfl, hbytes⟩
      have hgr := grown cap (by omega) (Value.ownBlock (.slice (some ⟨g, 0, none⟩) n cap))
      exact ⟨_, _, hr, hgr.1, hgr.2, .inr rfl⟩
end

end Go.Proofs.YtbjmcnmcodbkdaaDoor

/-
  varints, plain: bytes of a number, the short form, taking one off. No program.
-/
namespace Go.Proofs.YtbjmcnmcodbkdaaDoor
open Go.RowKit

/-- k bytes of n, the highest first -/
def be (n : Nat) : Nat → List UInt8
  | 0 => []
  | k + 1 => UInt8.ofNat (n / 256 ^ k % 256) :: be n k
/-- bytes, as a number, behind a -/
def numF (a : Nat) (l : List UInt8) : Nat := l.foldl (fun a c => a * 256 + c.toNat) a

theorem be_length (n k : Nat) : (be n k).length = k := by
  induction k with
  | zero => rfl
  | succ k ih => simp [be, ih]
theorem be_get (n k j : Nat) (h : j < k) : (be n k)[j]? = some (UInt8.ofNat (n / 256 ^ (k - 1 - j) % 256)) := by
  induction k generalizing j with
  | zero => omega
  | succ k ih =>
    cases j with
    | zero => simp [be]
    | succ j =>
      simp only [be, List.getElem?_cons_succ]
      rw [ih j (by omega), show k + 1 - 1 - (j + 1) = k - 1 - j by omega]
theorem numF_cons (a : Nat) (c : UInt8) (l : List UInt8) : numF a (c :: l) = numF (a * 256 + c.toNat) l := rfl
theorem numF_eq (a : Nat) (l : List UInt8) : numF a l = a * 256 ^ l.length + numF 0 l := by
  induction l generalizing a with
  | nil => simp [numF]
  | cons c l ih =>
    rw [numF_cons, numF_cons, ih, ih (0 * 256 + c.toNat), List.length_cons, Nat.pow_succ, Nat.add_mul, Nat.zero_mul, Nat.zero_add, ← Nat.add_assoc]
    congr 2
    rw [Nat.mul_assoc, Nat.mul_comm 256]
theorem numF_lt (l : List UInt8) : numF 0 l < 256 ^ l.length := by
  induction l with
  | nil => simp [numF]
  | cons c l ih =>
    rw [numF_cons, numF_eq, List.length_cons, Nat.pow_succ]
    have := c.toNat_lt
    have h2 : (0 * 256 + c.toNat) * 256 ^ l.length ≤ 255 * 256 ^ l.length := Nat.mul_le_mul_right _ (by omega)
    have := Nat.mul_comm (256 ^ l.length) 256
    omega
theorem numF_be (a n k : Nat) : numF a (be n k) = a * 256 ^ k + n % 256 ^ k := by
  induction k generalizing a with
  | zero => simp [numF, be, Nat.mod_one]
  | succ k ih =>
    rw [be, numF_cons, ih]
    have h1 : (UInt8.ofNat (n / 256 ^ k % 256)).toNat = n / 256 ^ k % 256 := by simp [UInt8.toNat_ofNat']
    rw [h1, Nat.add_mul, Nat.add_assoc, Nat.mul_assoc, Nat.pow_succ, Nat.mul_comm 256 (256 ^ k)]
    congr 1
    rw [Nat.mod_mul, Nat.add_comm, Nat.mul_comm]
theorem be_numF (l : List UInt8) (a : Nat) : be (a * 256 ^ l.length + numF 0 l) l.length = l := by
  induction l generalizing a with
  | nil => rfl
  | cons c l ih =>
    rw [List.length_cons, be]
    have h1 : numF 0 (c :: l) = c.toNat * 256 ^ l.length + numF 0 l := by rw [numF_cons, numF_eq]; congr 2; omega
    have h2 := numF_lt l
    have hp : 0 < 256 ^ l.length := Nat.pow_pos (by omega)
    have h3 : a * 256 ^ (l.length + 1) + numF 0 (c :: l) = (a * 256 + c.toNat) * 256 ^ l.length + numF 0 l := by
      rw [h1, Nat.pow_succ, Nat.add_mul, ← Nat.add_assoc]
      congr 2
      rw [Nat.mul_assoc, Nat.mul_comm 256]
    rw [h3, ih]
    congr 1
    have h4 : ((a * 256 + c.toNat) * 256 ^ l.length + numF 0 l) / 256 ^ l.length = a * 256 + c.toNat := by
      rw [Nat.mul_comm, Nat.mul_add_div hp, Nat.div_eq_of_lt h2, Nat.add_zero]
    rw [h4]
    have := c.toNat_lt
    rw [show (a * 256 + c.toNat) % 256 = c.toNat by omega]
    simp
theorem be_mod (n k : Nat) : be (n % 256 ^ k) k = be n k := by
  have h := be_numF (be n k) 0
  rw [be_length, numF_be] at h
  simpa using h

/-- the mark of the short form -/
def vk (n : Nat) : Nat := if n < 64 then 0 else if n < 16384 then 1 else if n < 1073741824 then 2 else 3
/-- how many bytes a mark says -/
def vmany (k : Nat) : Nat := match k with | 0 => 1 | 1 => 2 | 2 => 4 | _ => 8
/-- the mark, in a number of so many bytes -/
def vmark (k : Nat) : Nat := match k with | 0 => 0 | 1 => 16384 | 2 => 2147483648 | _ => 13835058055282163712
def vlay (n k : Nat) : List UInt8 := be (n + vmark k) (vmany k)
def vput (n : Nat) : List UInt8 := vlay n (vk n)
def vsize (n : Nat) : Nat := vmany (vk n)
/-- what Put tells -/
def vputS (n : Nat) : List UInt8 := if 4611686018427387903 < n then [] else vput n
def vputE (n : Nat) : Int := if 4611686018427387903 < n then 3 else 0

structure VTake where
  n : Nat
  rest : List UInt8
  e : Int
def vtake (s : List UInt8) : VTake :=
  match s with
  | [] => ⟨0, [], 2⟩
  | c :: t => if s.length < vmany (c.toNat / 64) then ⟨0, [], 2⟩ else ⟨numF (c.toNat % 64) (t.take (vmany (c.toNat / 64) - 1)), t.drop (vmany (c.toNat / 64) - 1), 0⟩

theorem vk_le (n : Nat) : vk n ≤ 3 := by unfold vk; repeat' split
                                         all_goals omega
theorem vsize_pos (n : Nat) : 1 ≤ vsize n ∧ vsize n ≤ 8 := by
  unfold vsize vk
  repeat' split
  all_goals simp [vmany]
theorem vput_length (n : Nat) : (vput n).length = vsize n := be_length _ _
theorem vput_ne (n : Nat) : vput n ≠ [] := by
  intro h
  have := vput_length n
  rw [h] at this
  have := vsize_pos n
  simp at *
  omega

theorem vtake_put (n : Nat) (hn : n < 4611686018427387904) (r : List UInt8) : vtake (vput n ++ r) = ⟨n, r, 0⟩ := by
  have key : ∀ k, vk n = k → n < 4611686018427387904 → ∃ m, vmany k = m + 1 ∧ (n + vmark k) / 256 ^ m % 256 / 64 = k ∧ (n + vmark k) / 256 ^ m % 256 % 64 * 256 ^ m + (n + vmark k) % 256 ^ m = n := by
    intro k hk h
    unfold vk at hk
    split at hk
    · subst hk; exact ⟨0, rfl, by simp [vmark]; omega, by simp [vmark]; omega⟩
    · split at hk
      · subst hk; exact ⟨1, rfl, by simp [vmark]; omega, by simp [vmark]; omega⟩
      · split at hk
        · subst hk; exact ⟨3, rfl, by simp [vmark]; omega, by simp [vmark]; omega⟩
        · subst hk; exact ⟨7, rfl, by simp [vmark]; omega, by simp [vmark]; omega⟩
  obtain ⟨m, h1, h2, h3⟩ := key _ rfl hn
  unfold vput vlay
  rw [h1, be, List.cons_append]
  have hc : (UInt8.ofNat ((n + vmark (vk n)) / 256 ^ m % 256)).toNat = (n + vmark (vk n)) / 256 ^ m % 256 := by simp [UInt8.toNat_ofNat']
  unfold vtake
  simp only [hc, h2, h1, Nat.add_sub_cancel]
  rw [if_neg (by simp [be_length])]
  have e1 : (be (n + vmark (vk n)) m ++ r).take m = be (n + vmark (vk n)) m := by
    rw [List.take_append_of_le_length (by rw [be_length]; omega), List.take_of_length_le (by rw [be_length]; omega)]
  have e2 : (be (n + vmark (vk n)) m ++ r).drop m = r := by
    rw [List.drop_append_of_le_length (by rw [be_length]; omega), List.drop_of_length_le (by rw [be_length]; omega), List.nil_append]
  rw [e1, e2, numF_be, h3]

/-- what is taken: so many bytes, a number that fits -/
theorem vtake_some {s : List UInt8} {n : Nat} {r : List UInt8} (h : vtake s = ⟨n, r, 0⟩) :
    ∃ k, k ≤ 3 ∧ s.length = r.length + vmany k ∧ n < 4611686018427387904 ∧ s = vlay n k ++ r ∧ vk n ≤ k := by
  unfold vtake at h
  split at h
  · cases h
  · rename_i c t
    split at h
    · cases h
    · rename_i hlen
      have hcl := c.toNat_lt
      obtain ⟨k, hk⟩ : ∃ k, c.toNat / 64 = k := ⟨_, rfl⟩
      have hk3 : k ≤ 3 := by omega
      rw [hk] at h hlen
      obtain ⟨m, hm⟩ : ∃ m, vmany k = m + 1 := by
        match k, hk3 with
        | 0, _ => exact ⟨0, rfl⟩
        | 1, _ => exact ⟨1, rfl⟩
        | 2, _ => exact ⟨3, rfl⟩
        | 3, _ => exact ⟨7, rfl⟩
      rw [hm, Nat.add_sub_cancel] at h
      simp only [VTake.mk.injEq, and_true] at h
      obtain ⟨h1, h2⟩ := h
      have htl : m ≤ t.length := by simp at hlen; omega
      have hl : (t.take m).length = m := by rw [List.length_take]; omega
      have hlt := numF_lt (t.take m)
      rw [numF_eq, hl] at h1
      rw [hl] at hlt
      obtain ⟨z, hz⟩ : ∃ z, numF 0 (t.take m) = z := ⟨_, rfl⟩
      rw [hz] at h1 hlt
      have hbz : be z m = t.take m := by
        have := be_numF (t.take m) 0
        rw [hl, hz, Nat.zero_mul, Nat.zero_add] at this
        exact this
      have key : (n + vmark k) = c.toNat * 256 ^ m + z ∧ n < 4611686018427387904 ∧ vk n ≤ k := by
        unfold vk
        match k, hk3, hm, hk with
        | 0, _, hm, hk =>
          obtain rfl : m = 0 := by simp [vmany] at hm; omega
          have h0 : n < 64 := by simp at h1 hlt; omega
          rw [if_pos h0]
          simp [vmark] at h1 hlt hk ⊢
          omega
        | 1, _, hm, hk =>
          obtain rfl : m = 1 := by simp [vmany] at hm; omega
          simp [vmark] at *
          refine ⟨by omega, by omega, ?_⟩
          repeat' split
          all_goals omega
        | 2, _, hm, hk =>
          obtain rfl : m = 3 := by simp [vmany] at hm; omega
          simp [vmark] at *
          refine ⟨by omega, by omega, ?_⟩
          repeat' split
          all_goals omega
        | 3, _, hm, hk =>
          obtain rfl : m = 7 := by simp [vmany] at hm; omega
          simp [vmark] at *
          refine ⟨by omega, by omega, ?_⟩
          repeat' split
          all_goals omega
      refine ⟨k, hk3, ?_, key.2.1, ?_, key.2.2⟩
      · rw [hm, ← h2, List.length_cons, List.length_drop]; omega
      · unfold vlay
        rw [hm, key.1, be, ← h2]
        have hp : 0 < 256 ^ m := Nat.pow_pos (by omega)
        have e1 : (c.toNat * 256 ^ m + z) / 256 ^ m = c.toNat := by
          rw [Nat.mul_comm, Nat.mul_add_div hp, Nat.div_eq_of_lt hlt, Nat.add_zero]
        have e2 : be (c.toNat * 256 ^ m + z) m = t.take m := by
          rw [← hbz, ← be_mod, Nat.mul_comm, Nat.mul_add_mod, be_mod]
        rw [e1, e2, show c.toNat % 256 = c.toNat by omega, List.cons_append, List.take_append_drop]
        simp
theorem vtake_e (s : List UInt8) : (vtake s).e = 0 ∨ ((vtake s).e = 2 ∧ (vtake s).n = 0 ∧ (vtake s).rest = []) := by
  unfold vtake
  split
  · exact .inr ⟨rfl, rfl, rfl⟩
  · split
    · exact .inr ⟨rfl, rfl, rfl⟩
    · exact .inl rfl
/-- the short form is the one of its size -/
theorem vlay_short {n k : Nat} (hk : k ≤ 3) (h : vsize n = vmany k) : vlay n k = vput n := by
  unfold vput
  unfold vsize at h
  have := vk_le n
  have : vk n = k := by
    generalize vk n = j at *
    match j, k, this, hk, h with
    | 0, 0, _, _, _ => rfl
    | 1, 1, _, _, _ => rfl
    | 2, 2, _, _, _ => rfl
    | 3, 3, _, _, _ => rfl
    | 0, 1, _, _, h => simp [vmany] at h
    | 0, 2, _, _, h => simp [vmany] at h
    | 0, 3, _, _, h => simp [vmany] at h
    | 1, 0, _, _, h => simp [vmany] at h
    | 1, 2, _, _, h => simp [vmany] at h
    | 1, 3, _, _, h => simp [vmany] at h
    | 2, 0, _, _, h => simp [vmany] at h
    | 2, 1, _, _, h => simp [vmany] at h
    | 2, 3, _, _, h => simp [vmany] at h
    | 3, 0, _, _, h => simp [vmany] at h
    | 3, 1, _, _, h => simp [vmany] at h
    | 3, 2, _, _, h => simp [vmany] at h
  rw [this]
theorem be_add (n c k : Nat) : be (n + c * 256 ^ k) k = be n k := by
  rw [← be_mod, Nat.add_mul_mod_self_right, be_mod]
/-- the short form: a mark on the first byte -/
theorem vlay_eq {n k : Nat} (hk : k ≤ 3) (hv : vk n ≤ k) (hn : n < 4611686018427387904) : ∃ m b, vmany k = m + 1 ∧ m ≤ 7 ∧ n / 256 ^ m % 256 = b ∧ b < 64 ∧ vlay n k = UInt8.ofNat (b + k * 64) :: be n m := by
  unfold vk at hv
  match k, hk, hv with
  | 0, _, hv =>
    have h0 : n < 64 := by
      split at hv
      · assumption
      · split at hv
        · omega
        · split at hv <;> omega
    refine ⟨0, n, rfl, by omega, by simp; omega, h0, ?_⟩
    unfold vlay
    simp only [vmany, vmark, be, Nat.pow_zero, Nat.div_one, Nat.add_zero, Nat.zero_mul]
    rw [show n % 256 = n by omega]
  | 1, _, hv =>
    have h0 : n < 16384 := by
      split at hv
      · omega
      · split at hv
        · assumption
        · split at hv <;> omega
    refine ⟨1, n / 256 ^ 1 % 256, rfl, by omega, rfl, by simp; omega, ?_⟩
    have e := be_add n 64 1
    show UInt8.ofNat ((n + 16384) / 256 ^ 1 % 256) :: be (n + 16384) 1 = _
    rw [show n + 16384 = n + 64 * 256 ^ 1 by omega, e]
    congr 2
    simp; omega
  | 2, _, hv =>
    have h0 : n < 1073741824 := by
      split at hv
      · omega
      · split at hv
        · omega
        · split at hv <;> omega
    refine ⟨3, n / 256 ^ 3 % 256, rfl, by omega, rfl, by simp; omega, ?_⟩
    have e := be_add n 128 3
    show UInt8.ofNat ((n + 2147483648) / 256 ^ 3 % 256) :: be (n + 2147483648) 3 = _
    rw [show n + 2147483648 = n + 128 * 256 ^ 3 by omega, e]
    congr 2
    simp; omega
  | 3, _, hv =>
    refine ⟨7, n / 256 ^ 7 % 256, rfl, by omega, rfl, by simp; omega, ?_⟩
    have e := be_add n 192 7
    show UInt8.ofNat ((n + 13835058055282163712) / 256 ^ 7 % 256) :: be (n + 13835058055282163712) 7 = _
    rw [show n + 13835058055282163712 = n + 192 * 256 ^ 7 by omega, e]
    congr 2
    simp; omega
/-- the first number that doesn't fit by a mark -/
def vbound (k : Nat) : Nat := match k with | 0 => 64 | 1 => 16384 | 2 => 1073741824 | _ => 4611686018427387904
theorem vk_step {n j : Nat} (hj : j < 3) (h : j ≤ vk n) : (n < vbound j → vk n = j) ∧ (¬ n < vbound j → j + 1 ≤ vk n) := by
  unfold vk at h ⊢
  match j, hj with
  | 0, _ => simp only [vbound]; constructor <;> intro h2 <;> (repeat' split) <;> omega
  | 1, _ => simp only [vbound]; constructor <;> intro h2 <;> (repeat' split at h) <;> (repeat' split) <;> omega
  | 2, _ => simp only [vbound]; constructor <;> intro h2 <;> (repeat' split at h) <;> (repeat' split) <;> omega
end Go.Proofs.YtbjmcnmcodbkdaaDoor

/-
  frames, plain: which may be, and their bytes. No program.
-/
namespace Go.Proofs.YtbjmcnmcodbkdaaDoor
open Go.RowKit

structure Fr where
  kind : Nat
  a : Nat
  b : Nat
  c : Nat
  fin : Bool
  data : ByteArray
  more : ByteArray
  list : List (Nat × Nat)
def fr0 : Fr := ⟨0, 0, 0, 0, false, ⟨#[]⟩, ⟨#[]⟩, []⟩
theorem Fr.ext' {f g : Fr} (h1 : f.kind = g.kind) (h2 : f.a = g.a) (h3 : f.b = g.b) (h4 : f.c = g.c) (h5 : f.fin = g.fin) (h6 : f.data = g.data) (h7 : f.more = g.more) (h8 : f.list = g.list) : f = g := by
  obtain ⟨_, _, _, _, _, _, _, _⟩ := f
  obtain ⟨_, _, _, _, _, _, _, _⟩ := g
  simp only at h1 h2 h3 h4 h5 h6 h7 h8
  subst h1 h2 h3 h4 h5 h6 h7 h8
  rfl

/-- how many numbers, is there a text, how many bytes -/
structure Shp where
  n : Nat
  t : Bool
  x : Nat
def fshape (k : Nat) : Option Shp :=
  if k = 1 ∨ k = 30 then some ⟨0, false, 0⟩
  else if k = 4 then some ⟨3, false, 0⟩
  else if k = 5 ∨ k = 17 ∨ k = 21 then some ⟨2, false, 0⟩
  else if k = 16 ∨ k = 18 ∨ k = 19 ∨ k = 20 ∨ k = 22 ∨ k = 23 ∨ k = 25 then some ⟨1, false, 0⟩
  else if k = 6 ∨ k = 29 then some ⟨1, true, 0⟩
  else if k = 28 then some ⟨2, true, 0⟩
  else if k = 7 then some ⟨0, true, 0⟩
  else if k = 26 ∨ k = 27 then some ⟨0, false, 8⟩
  else none

def rngOk : Option Nat → List (Nat × Nat) → Bool
  | _, [] => true
  | prev, r :: t => decide (r.1 ≤ r.2) && decide (r.2 < 4611686018427387904) && (match prev with | none => true | some p => decide (2 ≤ p) && decide (r.2 ≤ p - 2)) && rngOk (some r.1) t
def rngs (l : List (Nat × Nat)) : Bool := rngOk none l && (decide (1 ≤ l.length) && decide (l.length ≤ 64))
def facks (f : Fr) : Bool :=
  (if f.kind = 3 then decide (f.more.size = 8) && decide (numF 0 f.more.data.toList < 4611686018427387904) else decide (f.b = 0) && decide (f.c = 0) && decide (f.more.size = 0)) &&
    (!f.fin && decide (f.data.size = 0) && rngs f.list)
def flimits (f : Fr) : Bool :=
  if f.kind = 18 ∨ f.kind = 19 ∨ f.kind = 22 ∨ f.kind = 23 then decide (f.a ≤ 1152921504606846976)
  else if f.kind = 7 then decide (f.data.size ≠ 0)
  else if f.kind = 6 then decide (f.a + f.data.size < 4611686018427387904)
  else true
def fown (f : Fr) : Bool :=
  if f.kind = 0 then decide (1 ≤ f.a) && decide (f.a ≤ 16384) && decide (f.list = []) && decide (f.b = 0) && decide (f.c = 0) && !f.fin && decide (f.data.size = 0) && decide (f.more.size = 0)
  else if f.kind = 2 ∨ f.kind = 3 then facks f
  else if f.kind = 8 then decide (f.list = []) && decide (f.c = 0) && decide (f.more.size = 0) && decide (f.b + f.data.size < 4611686018427387904)
  else if f.kind = 24 then decide (f.list = []) && decide (f.c = 0) && !f.fin && decide (f.b ≤ f.a) && decide (1 ≤ f.data.size) && decide (f.data.size ≤ 20) && decide (f.more.size = 16)
  else false
def fclear (s : Shp) (f : Fr) : Bool :=
  (decide (1 ≤ s.n) || decide (f.a = 0)) && (decide (2 ≤ s.n) || decide (f.b = 0)) && (decide (3 ≤ s.n) || decide (f.c = 0)) && !f.fin && (s.t || decide (0 < s.x) || decide (f.data.size = 0)) && decide (f.more.size = 0) && decide (f.list = [])
def fmay (f : Fr) : Bool :=
  decide (f.a < 4611686018427387904) && decide (f.b < 4611686018427387904) && decide (f.c < 4611686018427387904) && decide (f.data.size ≤ 16384) &&
    match fshape f.kind with
    | none => fown f
    | some s => fclear s f && (decide (s.x = 0) || decide (f.data.size = s.x)) && flimits f

def ftext (s : ByteArray) : List UInt8 := vputS s.size ++ s.data.toList
/-- the bytes of ranges behind one -/
def rbytes : Nat → List (Nat × Nat) → List UInt8
  | _, [] => []
  | p, r :: t => vputS (p - r.2 - 2) ++ (vputS (r.2 - r.1) ++ rbytes r.1 t)
def fack (f : Fr) : List UInt8 := match f.list with
  | [] => []
  | r :: t => vputS f.kind ++ (vputS r.2 ++ (vputS f.a ++ (vputS t.length ++ (vputS (r.2 - r.1) ++ (rbytes r.1 t ++ (if f.kind = 3 then vputS f.b ++ (vputS f.c ++ vputS (numF 0 f.more.data.toList)) else []))))))
def fstream (f : Fr) : List UInt8 := vputS (10 + (if f.b = 0 then 0 else 4) + (if f.fin then 1 else 0)) ++ (vputS f.a ++ ((if f.b = 0 then [] else vputS f.b) ++ ftext f.data))
def fcid (f : Fr) : List UInt8 := vputS 24 ++ (vputS f.a ++ (vputS f.b ++ (UInt8.ofNat f.data.size :: (f.data.data.toList ++ f.more.data.toList))))
def fway (f : Fr) : List UInt8 :=
  if f.kind = 0 then List.replicate f.a 0
  else if f.kind = 8 then fstream f
  else if f.kind = 24 then fcid f
  else fack f
def fnums (n : Nat) (f : Fr) : List UInt8 := (([f.a, f.b, f.c].take n).map vputS).flatten
def ftail (s : Shp) (f : Fr) : List UInt8 := if s.t then ftext f.data else if 0 < s.x then f.data.data.toList else []
def fbytes (f : Fr) : List UInt8 := match fshape f.kind with
  | some s => vputS f.kind ++ (fnums s.n f ++ ftail s f)
  | none => fway f
/-- what Write tells -/
def fwS (f : Fr) : List UInt8 := if fmay f then fbytes f else []
def fwE (f : Fr) : Int := if fmay f then 0 else 2
end Go.Proofs.YtbjmcnmcodbkdaaDoor

/-
  varints: the walks: high, laid, least, Put, Size, Take.
-/
namespace Go.Proofs.YtbjmcnmcodbkdaaDoor
open Go.RowKit

def bv (c : UInt8) : Value := .int .u8 (c.toNat : Int)
theorem rbool {a b : Bool} (h : a = b) : Ending.returned (.bool a) = .returned (.bool b) := by rw [h]
def str (l : List UInt8) : Value := .string ⟨l.toArray⟩

/-- the bytes of n that are set behind j rounds -/
def hcells (n k j : Nat) : Array Value := ((List.range k).map fun m => if k ≤ m + j then Value.int .u8 ((n / 256 ^ (k - 1 - m) % 256 : Nat) : Int) else .int .u8 0).toArray
theorem hcells_size (n k j : Nat) : (hcells n k j).size = k := by simp [hcells]
theorem hcells_zero (n k : Nat) : hcells n k 0 = Array.replicate k (.int .u8 0) := by
  apply Array.ext
  · simp [hcells]
  · intro i h1 h2
    simp [hcells] at h1 ⊢
    omega
theorem hcells_set (n k j : Nat) (h : j < k) : (hcells n k j).setIfInBounds (k - 1 - j) (.int .u8 ((n / 256 ^ j % 256 : Nat) : Int)) = hcells n k (j + 1) := by
  apply Array.ext
  · simp [hcells]
  · intro i h1 h2
    simp only [Array.size_setIfInBounds, hcells_size] at h1
    rw [Array.getElem_setIfInBounds]
    by_cases e : k - 1 - j = i
    · rw [if_pos e]
      simp only [hcells, List.getElem_toArray, List.getElem_map, List.getElem_range]
      rw [if_pos (by omega), show k - 1 - i = j by omega]
    · rw [if_neg e]
      simp only [hcells, List.getElem_toArray, List.getElem_map, List.getElem_range]
      by_cases h3 : k ≤ i + j
      · rw [if_pos h3, if_pos (by omega)]
      · rw [if_neg h3, if_neg (by omega)]
    · simpa [hcells_size] using h1
theorem hcells_all (n k : Nat) : hcells n k k = ((be n k).map bv).toArray := by
  apply Array.ext
  · simp [hcells, be_length]
  · intro i h1 h2
    rw [hcells_size] at h1
    simp only [hcells, List.getElem_toArray, List.getElem_map, List.getElem_range]
    rw [if_pos (by omega)]
    have := be_get n k i h1
    rw [List.getElem?_eq_getElem (by rw [be_length]; exact h1)] at this
    rw [Option.some.inj this]
    simp [bv, UInt8.toNat_ofNat']

theorem madeCells_one (z : Value) (n : Nat) : madeCells #[z] n = Array.replicate n z := by
  apply Array.ext'
  rw [toList_madeCells_one]; simp
theorem u8info : (Tryd.prog.info? 5).map (fun i => (i.zero, i.size, i.bytes)) = some (some (.int .u8 0), 1, 1) := by kernel_rfl

set_option maxRecDepth 100000 in
set_option maxHeartbeats 1000000 in
theorem high_any (w : World) (n : Nat) (k : Nat) (hk : k ≤ 8) :
    Calls Tryd.prog 96 #[.int .u64 n, .int .i64 k] w fun e w' =>
      e = .returned (.slice (some ⟨w.heap.size, 0, none⟩) k k) ∧ Blk w' w.heap.size 5 ((be n k).map bv).toArray ∧ Mod [] w w' := by
  have hmk := fun w => (Go.run_make_row' (P := Tryd.prog) 55 5 (.int .u8 0) 1 Tryd.underlying55 u8info rfl .i64 .i64 k (by omega) (by omega) w).trans (by rw [madeCells_one])
  go_enter Tryd.func96, Tryd.ntmps96
  go_wp2_with fail
  have hb0 : Blk (w.alloc (.cells (Array.replicate k (.int .u8 0)) 5)) w.heap.size 5 (hcells n k 0) := by rw [hcells_zero]; exact Blk.new w _ _
  have hm0 : Mod [] w (w.alloc (.cells (Array.replicate k (.int .u8 0)) 5)) := (Mod.refl _ _).alloc _
  go_loopw [0, 11] (fun x i wr => ∃ j : Nat, j ≤ k ∧ i = .int .i64 (j : Int) ∧ x = .int .u64 ((n / 256 ^ j : Nat) : Int) ∧ Blk wr w.heap.size 5 (hcells n k j) ∧ Mod [] w wr) (fun _ i _ => k - (intOf i).toNat)
  case atStart => exact ⟨0, by omega, rfl, by simp, hb0, hm0⟩
  case round =>
    obtain ⟨j, hj, rfl, rfl, hb, hm⟩ := hrel
    clear hb0 hm0
    have c0 := hb.cell (k - 1 - j)
    have hlt := hb.lt
    have hfz := hb.frozen (k - 1 - j)
    by_cases h : j < k
    · have h1 : ((k : Int) - 1 - j) = ((k - 1 - j : Nat) : Int) := by omega
      have hc : (hcells n k j)[k - 1 - j]? = some ((hcells n k j)[k - 1 - j]'(by rw [hcells_size]; omega)) := Array.getElem?_eq_getElem _
      rw [hc] at c0
      have hset := hb.set_ (k - 1 - j) (.int .u8 ((n / 256 ^ j % 256 : Nat) : Int))
      rw [hcells_set n k j h] at hset
      have hpw : n / 256 ^ (j + 1) = n / 256 ^ j / 256 := by rw [Nat.pow_succ, Nat.div_div_eq_div_mul]
      obtain ⟨N, hN⟩ : ∃ N, n / 256 ^ j = N := ⟨_, rfl⟩
      rw [hN] at hset hpw ⊢
      have HPw := hide hpw
      have HSet := hide (show Blk (wr.setCell ⟨w.heap.size, k - 1 - j, none⟩ (.int .u8 ((N : Int) % 256))) w.heap.size 5 (hcells n k (j + 1)) by
        rw [show ((N : Int) % 256) = ((N % 256 : Nat) : Int) by omega]; exact hset)
      clear hN hpw hset hb
      go_wp2_with fail
      go_roundw
      case rel => exact ⟨j + 1, by omega, by go_num, by rw [HPw.out]; congr 1, HSet.out, hm.setCell (.inr (Nat.le_refl _)) _⟩
      case measure => simp [intOf]; omega
    · have : j = k := by omega
      subst this
      rw [hcells_all] at hb
      have HB := hide hb
      clear hb c0
      go_wp2_with fail
      go_ret
      exact ⟨rfl, HB.out, hm⟩

theorem conv_bytes (w : World) (g : Nat) (l : List UInt8) (R : List Value) (c : Nat) (h : Blk w g 5 (l.map bv ++ R).toArray) :
    (convert 55 9 (.slice (some ⟨g, 0, none⟩) l.length c)).run Tryd.prog w = .ok (str l) w :=
  run_convert_bytes_back (P := Tryd.prog) w 55 9 5 ⟨g, 0, none⟩ c l Tryd.underlying55 Tryd.underlying5 Tryd.underlying9 (fun j hj => by
    rw [Addr.add_lit, Nat.zero_add, h.cell j]
    rw [List.getElem?_toArray, List.getElem?_append_left (by simpa using hj)]
    simp [bv, hj])

theorem or_mark (b k : Nat) (hb : b < 64) (hk : k ≤ 3) : bits .or .u8 (b : Int) ((k * 64 : Nat) : Int) = ((b + k * 64 : Nat) : Int) := by
  rw [u8_or_nat b (k * 64) (by omega) (by omega)]
  congr 1
  have key : ∀ (b : Fin 64) (k : Fin 4), b.val ||| (k.val * 64) = b.val + k.val * 64 := by decide
  exact key ⟨b, hb⟩ ⟨k, by omega⟩

set_option maxRecDepth 100000 in
set_option maxHeartbeats 1000000 in
theorem laid_any (w : World) (n : Nat) (k : Nat) (hk : k ≤ 3) (hn : n < 4611686018427387904) (hv : vk n ≤ k) :
    Calls Tryd.prog 87 #[.int .u64 n, .int .i64 k] w fun e w' => e = .returned (str (vlay n k)) ∧ Mod [] w w' := by
  obtain ⟨m, b, hm, hm7, hb, hb64, hlay⟩ := vlay_eq hk hv hn
  have hsh : (2 : Int) ^ k = (m : Int) + 1 := by
    match k, hk, hm with
    | 0, _, hm => obtain rfl : m = 0 := by simp [vmany] at hm; omega
                  rfl
    | 1, _, hm => obtain rfl : m = 1 := by simp [vmany] at hm; omega
                  rfl
    | 2, _, hm => obtain rfl : m = 3 := by simp [vmany] at hm; omega
                  rfl
    | 3, _, hm => obtain rfl : m = 7 := by simp [vmany] at hm; omega
                  rfl
  have hhi := high_any w n (m + 1) (by omega)
  obtain ⟨B, hB⟩ : ∃ B, b + k * 64 = B := ⟨_, rfl⟩
  have hor : bits .or .u8 (b : Int) ((k : Int) * 64) = B := by
    rw [← hB, ← or_mark b k hb64 hk]; congr 1
  have hB256 : B < 256 := by omega
  rw [hB] at hlay
  have e1 : ((m + 1 : Nat) : Int) = (m : Int) + 1 := by omega
  rw [e1] at hhi
  have hk64 : IntKind.u8.wrap ((k : Int) * 64) = ((k * 64 : Nat) : Int) := by
    rw [IntWalk.u8_in _ (by omega)]; omega
  have HHi := hide hhi
  have HLay := hide hlay
  have HB := hide hb
  have Hm := hide hm
  clear hhi hlay hb hv hm e1 hB
  go_enter Tryd.func87, Tryd.ntmps87
  go_wp2_with fail
  refine HHi.out.mono ?_
  rintro e w1 ⟨rfl, hbk, m1⟩
  have c0 := hbk.cell 0
  have hlt := hbk.lt
  have hfz := hbk.frozen 0
  have c0' : w1.cell? ⟨w.heap.size, 0, none⟩ = some (.int .u8 (b : Int)) := by
    rw [c0, be, HB.out]
    simp [bv, UInt8.toNat_ofNat']; omega
  clear c0
  have hset := hbk.set_ 0 (.int .u8 (B : Int))
  have hcs : (((be n (m + 1)).map bv).toArray).setIfInBounds 0 (.int .u8 (B : Int)) = ((vlay n k).map bv ++ []).toArray := by
    rw [HLay.out, be]
    simp [bv, UInt8.toNat_ofNat']; omega
  rw [hcs] at hset
  have hcv := conv_bytes _ _ _ _ (m + 1) hset
  have hll : (vlay n k).length = m + 1 := by unfold vlay; rw [be_length, Hm.out]
  rw [hll] at hcv
  clear hcs hset hbk
  go_wp2_with fail
  go_ret
  exact ⟨rfl, m1.setCell (.inr (Nat.le_refl _)) _⟩

set_option maxHeartbeats 1000000 in
theorem fits_any (w : World) (n : Nat) (k : Nat) (hk : k < 3) (v : Bool) (hv : decide (n < vbound k) = v) :
    Calls Tryd.prog 89 #[.int .u64 n, .int .i64 k] w fun e w' => e = .returned (.bool v) ∧ w' = w := by
  subst hv
  match k, hk with
  | 0, _ =>
    go_enter Tryd.func89, Tryd.ntmps89
    go_wp2_with fail
    go_ret
    exact ⟨rbool (decide_eq_decide.2 (by show _ ↔ n < 64; omega)), rfl⟩
  | 1, _ =>
    go_enter Tryd.func89, Tryd.ntmps89
    go_wp2_with fail
    go_ret
    exact ⟨rbool (decide_eq_decide.2 (by show _ ↔ n < 16384; omega)), rfl⟩
  | 2, _ =>
    go_enter Tryd.func89, Tryd.ntmps89
    go_wp2_with fail
    go_ret
    exact ⟨rbool (decide_eq_decide.2 (by show _ ↔ n < 1073741824; omega)), rfl⟩

set_option maxHeartbeats 1000000 in
theorem least_any (w : World) (n : Nat) :
    Calls Tryd.prog 79 #[.int .u64 n] w fun e w' => e = .returned (.int .i64 (vk n : Nat)) ∧ w' = w := by
  go_enter Tryd.func79, Tryd.ntmps79
  go_wp2_with fail
  go_loopw [3] (fun i wr => ∃ j : Nat, j ≤ vk n ∧ i = .int .i64 (j : Int) ∧ wr = w) (fun i _ => 3 - (intOf i).toNat)
  case atStart => exact ⟨0, by omega, rfl, by trivial⟩
  case round =>
    obtain ⟨j, hj, rfl, rfl⟩ := hrel
    have h3 := vk_le n
    by_cases h : j < 3
    · obtain ⟨s1, s2⟩ := vk_step h hj
      cases hv : decide (n < vbound j)
      · have hs := s2 (by simpa using hv)
        have HS := hide hs
        clear s1 s2 hs
        go_wp2_with fail
        refine (fits_any _ n j h false hv).mono ?_
        rintro e w1 ⟨rfl, rfl⟩
        go_wp2_with fail
        go_roundw
        case rel => exact ⟨j + 1, HS.out, by go_num, by trivial⟩
        case measure => simp [intOf]; omega
      · have hs := s1 (by simpa using hv)
        have HS := hide hs
        clear s1 s2 hs
        go_wp2_with fail
        refine (fits_any _ n j h true hv).mono ?_
        rintro e w1 ⟨rfl, rfl⟩
        go_wp2_with fail
        go_ret
        exact ⟨by rw [HS.out]; rfl, rfl⟩
    · have hs : vk n = j := by omega
      have HS := hide hs
      clear hs hj h3
      go_wp2_with fail
      go_ret
      exact ⟨by rw [HS.out]; rfl, rfl⟩

theorem vk_pow (n : Nat) : (2 : Int) ^ vk n = (vsize n : Nat) := by
  have := vk_le n
  unfold vsize
  generalize vk n = k at *
  match k, this with
  | 0, _ => rfl
  | 1, _ => rfl
  | 2, _ => rfl
  | 3, _ => rfl

set_option maxHeartbeats 1000000 in
theorem vput_any (w : World) (n : Nat) :
    Calls Tryd.prog 74 #[.int .u64 n] w fun e w' => e = .returned (.tuple #[str (vputS n), .int .i64 (vputE n)]) ∧ Mod [] w w' := by
  by_cases h : 4611686018427387903 < n
  · have h' : (4611686018427387903 : Int) < n := by omega
    have H1 : Hid (vputS n = [] ∧ vputE n = 3) := hide ⟨if_pos h, if_pos h⟩
    go_enter Tryd.func74, Tryd.ntmps74
    go_wp2_with fail
    go_ret2
    exact ⟨by rw [H1.out.1, H1.out.2]; rfl, Mod.refl _ _⟩
  · have h' : ¬ (4611686018427387903 : Int) < n := by omega
    have H1 : Hid (vputS n = vput n ∧ vputE n = 0) := hide ⟨if_neg h, if_neg h⟩
    obtain ⟨k, hk⟩ : ∃ k, vk n = k := ⟨_, rfl⟩
    have hk3 := vk_le n
    have hl := least_any w n
    have hly := laid_any w n k (by omega) (by omega) (by omega)
    have HLn : Hid (vlay n k = vput n) := hide (by unfold vput; rw [hk])
    rw [hk] at hl
    have HL := hide hl
    have HLy := hide hly
    rw [hk] at hk3
    clear hl hly hk
    go_enter Tryd.func74, Tryd.ntmps74
    go_wp2_with fail
    refine HL.out.mono ?_
    rintro e w1 ⟨rfl, rfl⟩
    go_wp2_with fail
    refine HLy.out.mono ?_
    rintro e w2 ⟨rfl, m1⟩
    rw [HLn.out]
    go_wp2_with fail
    go_ret2
    exact ⟨by rw [H1.out.1, H1.out.2]; rfl, m1⟩

def vsizeS (n : Nat) : Nat := if 4611686018427387903 < n then 0 else vsize n
set_option maxHeartbeats 1000000 in
theorem vsize_any (w : World) (n : Nat) :
    Calls Tryd.prog 61 #[.int .u64 n] w fun e w' => e = .returned (.int .i64 (vsizeS n : Nat)) ∧ w' = w := by
  by_cases h : 4611686018427387903 < n
  · have h' : (4611686018427387903 : Int) < n := by omega
    have H1 : Hid (vsizeS n = 0) := hide (if_pos h)
    go_enter Tryd.func61, Tryd.ntmps61
    go_wp2_with fail
    go_ret
    exact ⟨by rw [H1.out]; rfl, rfl⟩
  · have h' : ¬ (4611686018427387903 : Int) < n := by omega
    have H1 : Hid (vsizeS n = vsize n) := hide (if_neg h)
    obtain ⟨k, hk⟩ : ∃ k, vk n = k := ⟨_, rfl⟩
    have hl := least_any w n
    have hp := vk_pow n
    have hk3 := vk_le n
    rw [hk] at hl hp hk3
    have hvs := vsize_pos n
    have HL := hide hl
    clear hl hk
    go_enter Tryd.func61, Tryd.ntmps61
    go_wp2_with fail
    refine HL.out.mono ?_
    rintro e w1 ⟨rfl, rfl⟩
    go_wp2_with fail
    go_ret
    exact ⟨by rw [H1.out]; rfl, rfl⟩
end Go.Proofs.YtbjmcnmcodbkdaaDoor

/-
  varints: the walk of Take.
-/
namespace Go.Proofs.YtbjmcnmcodbkdaaDoor
open Go.RowKit

set_option maxRecDepth 100000 in
set_option maxHeartbeats 2000000 in
theorem vtake_any (w : World) (x : ByteArray) :
    Calls Tryd.prog 60 #[.string x] w fun e w' => e = .returned (.tuple #[.int .u64 ((vtake x.data.toList).n : Nat), str (vtake x.data.toList).rest, .int .i64 (vtake x.data.toList).e]) ∧ Mod [] w w' := by
  by_cases h0 : x.toList.isEmpty = true
  · have H1 : Hid (vtake x.data.toList = ⟨0, [], 2⟩) := hide (by
      rw [List.isEmpty_iff, Lib.toList_data] at h0
      rw [h0]; rfl)
    go_enter Tryd.func60, Tryd.ntmps60
    go_wp2_with fail
    refine bodyPost_ret (results_tmp3 rfl _ _ _) rfl ?_
    exact ⟨by rw [H1.out]; rfl, Mod.refl _ _⟩
  · have h0' : x.toList.isEmpty = false := by simpa using h0
    obtain ⟨c, t, hx⟩ : ∃ c t, x.data.toList = c :: t := by
      cases hl : x.data.toList with
      | nil => rw [Lib.toList_data, hl] at h0; exact absurd rfl h0
      | cons c t => exact ⟨c, t, rfl⟩
    have hsz : x.size = t.length + 1 := by
      have e : x.data.toList.length = x.size := Array.length_toList
      rw [hx] at e; simp at e; omega
    have hsz0 : (0 : Int) < x.size := by omega
    have hx0 : x[0]'(by omega) = c := by
      have e : x.data.toList[0]? = some c := by rw [hx]; rfl
      rw [List.getElem?_eq_getElem (by rw [hx]; simp)] at e
      have e2 := Option.some.inj e
      rw [← e2]
      simp [ByteArray.getElem_eq_getElem_data]
    have hcl := c.toNat_lt
    obtain ⟨k, hk⟩ : ∃ k, c.toNat / 64 = k := ⟨_, rfl⟩
    obtain ⟨r, hr⟩ : ∃ r, c.toNat % 64 = r := ⟨_, rfl⟩
    have hk3 : k ≤ 3 := by omega
    have hr63 : r ≤ 63 := by omega
    have hk' : (c.toNat : Int) / 64 = k := by omega
    have hand : bits .and .u8 (c.toNat : Int) 63 = r := by
      have e := u8_and_nat c.toNat 63 (by omega) (by omega)
      rw [show (63 : Nat) = 2 ^ 6 - 1 from rfl, Nat.and_two_pow_sub_one_eq_mod, show 2 ^ 6 = 64 from rfl, hr] at e
      exact e
    obtain ⟨m, hm, hm7⟩ : ∃ m, vmany k = m + 1 ∧ m ≤ 7 := by
      match k, hk3 with
      | 0, _ => exact ⟨0, rfl, by omega⟩
      | 1, _ => exact ⟨1, rfl, by omega⟩
      | 2, _ => exact ⟨3, rfl, by omega⟩
      | 3, _ => exact ⟨7, rfl, by omega⟩
    have hsh : (2 : Int) ^ k = (m : Int) + 1 := by
      match k, hk3, hm with
      | 0, _, hm => obtain rfl : m = 0 := by simp [vmany] at hm; omega
                    rfl
      | 1, _, hm => obtain rfl : m = 1 := by simp [vmany] at hm; omega
                    rfl
      | 2, _, hm => obtain rfl : m = 3 := by simp [vmany] at hm; omega
                    rfl
      | 3, _, hm => obtain rfl : m = 7 := by simp [vmany] at hm; omega
                    rfl
    have HV : Hid (vtake x.data.toList = if t.length + 1 < m + 1 then ⟨0, [], 2⟩ else ⟨numF r (t.take m), t.drop m, 0⟩) := hide (by
      rw [hx]
      unfold vtake
      simp only [hk, hr, hm, Nat.add_sub_cancel, List.length_cons])
    clear hk hr hcl
    by_cases htm : t.length < m
    · have HV2 : Hid (vtake x.data.toList = ⟨0, [], 2⟩) := hide (by rw [HV.out, if_pos (by omega)])
      clear HV
      go_enter Tryd.func60, Tryd.ntmps60
      go_wp2_with fail
      refine bodyPost_ret (results_tmp3 rfl _ _ _) rfl ?_
      exact ⟨by rw [HV2.out]; rfl, Mod.refl _ _⟩
    have HV2 : Hid (vtake x.data.toList = ⟨numF r (t.take m), t.drop m, 0⟩) := hide (by rw [HV.out, if_neg (by omega)])
    obtain ⟨D, hD⟩ : ∃ D, t.take m = D := ⟨_, rfl⟩
    have hDl : D.length = m := by rw [← hD, List.length_take]; omega
    obtain ⟨Y, hY⟩ : ∃ Y, x.extract 1 (m + 1) = Y := ⟨_, rfl⟩
    have hYD : Y.data.toList = D := by
      rw [← hY, Lib.extract_data, hx, List.drop_one, List.tail_cons, Nat.add_sub_cancel, hD]
    have hYs : Y.size = m := by
      rw [← hDl, ← hYD]; exact Array.length_toList.symm
    have hrest : x.extract (m + 1) (t.length + 1) = ⟨(t.drop m).toArray⟩ := by
      apply ByteArray.ext
      apply Array.ext'
      rw [Lib.extract_data, hx, List.drop_succ_cons, List.take_of_length_le (by rw [List.length_drop]; omega)]
    have hcv := Lib.run_convert_string_bytes (P := Tryd.prog) w 9 55 5 Y Tryd.underlying9 Tryd.underlying55 Tryd.underlying5
    obtain ⟨cap, hcap⟩ : ∃ cap, grownCap w Y.size 0 5 = cap := ⟨_, rfl⟩
    rw [hcap, hYs] at hcv
    have hcell : ∀ j (h : j < D.length), (Lib.bytesWorld w 5 Y).cell? ⟨w.heap.size, j, none⟩ = some (.int .u8 (D[j].toNat : Int)) := fun j h => by
      rw [Lib.bytesWorld_cell w _ _ _ (by omega), hYD]
      simp [h]
    have hmod : Mod [] w (Lib.bytesWorld w 5 Y) := ⟨rfl, rfl, rfl, by rw [Lib.bytesWorld_size]; omega, fun j hj _ => Lib.bytesWorld_at_old w _ _ j hj⟩
    have hszb := Lib.bytesWorld_size w 5 Y
    obtain ⟨wb, hwb⟩ : ∃ wb, Lib.bytesWorld w 5 Y = wb := ⟨_, rfl⟩
    rw [hwb] at hcv hcell hmod hszb
    rw [hD] at HV2
    have HCell := hide hcell
    have HRest := hide hrest
    have htm' : m ≤ t.length := by omega
    clear HV htm hD hYD hcap hwb hcell hrest
    go_enter Tryd.func60, Tryd.ntmps60
    go_wp2_with fail
    go_loopw [6, 33] (fun n i wr => ∃ j : Nat, j ≤ m ∧ i = .int .i64 (j : Int) ∧ n = .int .u64 (numF r (D.take j) : Nat) ∧ wr = wb) (fun _ i _ => m - (intOf i).toNat)
    case atStart => exact ⟨0, by omega, rfl, rfl, by trivial⟩
    case round =>
      obtain ⟨j, hj, rfl, rfl, rfl⟩ := hrel
      by_cases h : j < m
      · have c0 := HCell.out j (by omega)
        obtain ⟨d, hd⟩ : ∃ d, D[j]'(by omega) = d := ⟨_, rfl⟩
        rw [hd] at c0
        have hnext : numF r (D.take (j + 1)) = numF r (D.take j) * 256 + d.toNat := by
          rw [← List.take_append_getElem (by omega), hd]
          simp [numF]
        have hbound : numF r (D.take j) < 64 * 256 ^ j := by
          rw [numF_eq]
          have h1 := numF_lt (D.take j)
          have h2 : (D.take j).length = j := by rw [List.length_take]; omega
          rw [h2] at h1 ⊢
          have h3 : r * 256 ^ j ≤ 63 * 256 ^ j := Nat.mul_le_mul_right _ hr63
          omega
        have hp : (256 : Nat) ^ j ≤ 256 ^ 6 := Nat.pow_le_pow_right (by omega) (by omega)
        obtain ⟨N, hN⟩ : ∃ N, numF r (D.take j) = N := ⟨_, rfl⟩
        rw [hN] at hnext hbound ⊢
        have hNb : N < 18014398509481984 := by
          have : (256 : Nat) ^ 6 = 281474976710656 := rfl
          omega
        have hd256 := d.toNat_lt
        have hor : bits .or .u64 ((N : Int) * 256) (d.toNat : Int) = (N : Int) * 256 + d.toNat := by
          have e := bits_or_u64_nat (N * 256) d.toNat (by omega) (by omega)
          have e2 := Nat.shiftLeft_add_eq_or_of_lt (b := d.toNat) (i := 8) (by omega) N
          rw [Nat.shiftLeft_eq, show 2 ^ 8 = 256 from rfl] at e2
          rw [← e2] at e
          simpa using e
        have HNext := hide hnext
        clear hnext hbound hp hN hd
        go_wp2_with fail
        go_roundw
        case rel => exact ⟨j + 1, by omega, by go_num, by rw [HNext.out]; go_num, by trivial⟩
        case measure => simp [intOf]; omega
      · have hjm : j = m := by omega
        subst hjm
        rw [List.take_of_length_le (by omega)]
        obtain ⟨N, hN⟩ : ∃ N, numF r D = N := ⟨_, rfl⟩
        rw [hN] at HV2 ⊢
        clear hN
        go_wp2_with fail
        go_quiet (fail)
        go_wp2_with fail
        refine bodyPost_ret (results_tmp3 rfl _ _ _) rfl ?_
        exact ⟨by rw [HV2.out, HRest.out]; rfl, hmod.drewN _⟩
end Go.Proofs.YtbjmcnmcodbkdaaDoor

/-
  short varints, plain.
-/
namespace Go.Proofs.YtbjmcnmcodbkdaaDoor
open Go.RowKit

structure Short where
  n : Nat
  rest : List UInt8
  ok : Bool
def short (s : List UInt8) : Short := ⟨(vtake s).n, (vtake s).rest, decide ((vtake s).e = 0) && (vsizeS (vtake s).n == s.length - (vtake s).rest.length)⟩

theorem vtake_rest (s : List UInt8) : (vtake s).rest.length ≤ s.length := by
  unfold vtake
  split
  · simp
  · split
    · simp
    · simp; omega
theorem vtake_rest_lt (s : List UInt8) (h : s ≠ []) : (vtake s).rest.length < s.length := by
  unfold vtake
  split
  · exact absurd rfl h
  · split
    · simp
    · simp; omega
theorem vtake_n_lt (s : List UInt8) : (vtake s).n < 4611686018427387904 := by
  rcases vtake_e s with h | h
  · obtain ⟨k, _, _, h2, _⟩ := vtake_some (n := (vtake s).n) (r := (vtake s).rest) (s := s) (by rw [← h])
    exact h2
  · omega

theorem short_rest_le (s : List UInt8) : (short s).rest.length ≤ s.length := vtake_rest s
theorem short_rest_lt (s : List UInt8) (h : s ≠ []) : (short s).rest.length < s.length := vtake_rest_lt s h
theorem short_n_lt (s : List UInt8) : (short s).n < 4611686018427387904 := vtake_n_lt s

theorem vputS_le (n : Nat) : (vputS n).length ≤ 8 := by
  unfold vputS
  split
  · simp
  · rw [vput_length]; exact (vsize_pos n).2
theorem short_put {n : Nat} (hn : n < 4611686018427387904) (r : List UInt8) : short (vput n ++ r) = ⟨n, r, true⟩ := by
  unfold short
  rw [vtake_put n hn r]
  have h1 : vsizeS n = vsize n := if_neg (by omega)
  simp [h1, vput_length]
theorem vputS_eq {n : Nat} (hn : n < 4611686018427387904) : vputS n = vput n := if_neg (by omega)
theorem short_some {s : List UInt8} (h : (short s).ok = true) : s = vput (short s).n ++ (short s).rest ∧ (short s).n < 4611686018427387904 := by
  have hn := short_n_lt s
  unfold short at h hn ⊢
  simp only [Bool.and_eq_true, decide_eq_true_eq, beq_iff_eq] at h hn ⊢
  obtain ⟨k, hk, hlen, hb, hs, hv⟩ := vtake_some (s := s) (n := (vtake s).n) (r := (vtake s).rest) (by rw [← h.1])
  have h1 : vsizeS (vtake s).n = vsize (vtake s).n := if_neg (by omega)
  have h2 := vlay_short hk (n := (vtake s).n) (by rw [h1] at h; omega)
  rw [h2] at hs
  exact ⟨hs, hb⟩


theorem bytes_len (S : ByteArray) : S.data.toList.length = S.size := Array.length_toList
theorem bytes_eq {S T : ByteArray} (h : S.data.toList = T.data.toList) : S = T := by
  apply ByteArray.ext; apply Array.ext'; exact h
theorem eta_bytes (v : ByteArray) : (⟨v.data.toList.toArray⟩ : ByteArray) = v := by
  apply ByteArray.ext; simp
theorem empty_size (s : ByteArray) : s.toList.isEmpty = decide (s.size = 0) := by
  have e : s.data.toList.length = s.size := Array.length_toList
  rw [Lib.toList_data, ← e]
  cases s.data.toList <;> simp
theorem size0 {S : ByteArray} (h : S.size = 0) : S = ⟨#[]⟩ := bytes_eq (List.eq_nil_of_length_eq_zero (by rw [bytes_len]; exact h))

def pnum (s : List UInt8) : Option (Nat × List UInt8) := if (short s).ok then some ((short s).n, (short s).rest) else none
def ptake (n : Nat) (s : List UInt8) : Option (List UInt8 × List UInt8) := if n ≤ s.length then some (s.take n, s.drop n) else none
def ptext (s : List UInt8) : Option (List UInt8 × List UInt8) := (pnum s).bind fun x => ptake x.1 x.2
theorem pnum_put {n : Nat} (hn : n < 4611686018427387904) (r : List UInt8) : pnum (vputS n ++ r) = some (n, r) := by
  unfold pnum
  rw [vputS_eq hn, short_put hn]; rfl
theorem pnum_some {s : List UInt8} {n : Nat} {r : List UInt8} (h : pnum s = some (n, r)) : s = vputS n ++ r ∧ n < 4611686018427387904 := by
  unfold pnum at h
  split at h
  · rename_i ho
    obtain ⟨h1, h2⟩ := short_some ho
    simp only [Option.some.injEq, Prod.mk.injEq] at h
    obtain ⟨rfl, rfl⟩ := h
    rw [vputS_eq h2]
    exact ⟨h1, h2⟩
  · cases h
theorem ptake_put (d r : List UInt8) : ptake d.length (d ++ r) = some (d, r) := by
  unfold ptake
  rw [if_pos (by simp)]
  simp
theorem ptake_some {n : Nat} {s d r : List UInt8} (h : ptake n s = some (d, r)) : s = d ++ r ∧ d.length = n := by
  unfold ptake at h
  split at h
  · simp only [Option.some.injEq, Prod.mk.injEq] at h
    obtain ⟨rfl, rfl⟩ := h
    exact ⟨(List.take_append_drop n s).symm, by rw [List.length_take]; omega⟩
  · cases h
theorem ptext_put (d r : List UInt8) (hd : d.length < 4611686018427387904) : ptext (vputS d.length ++ (d ++ r)) = some (d, r) := by
  unfold ptext
  rw [pnum_put hd]
  exact ptake_put d r
theorem ptext_some {s d r : List UInt8} (h : ptext s = some (d, r)) : s = vputS d.length ++ (d ++ r) ∧ d.length < 4611686018427387904 := by
  unfold ptext at h
  obtain ⟨⟨n, t⟩, h1, h2⟩ := Option.bind_eq_some_iff.1 h
  obtain ⟨rfl, h3⟩ := pnum_some h1
  obtain ⟨h4, h5⟩ := ptake_some h2
  simp only at h4 h5
  subst h5
  rw [h4]
  exact ⟨rfl, h3⟩
end Go.Proofs.YtbjmcnmcodbkdaaDoor

/-
  frames, plain: reading; what is written is read as it was.
-/
namespace Go.Proofs.YtbjmcnmcodbkdaaDoor
open Go.RowKit

def pnums : Nat → List UInt8 → Option (List Nat × List UInt8)
  | 0, s => some ([], s)
  | n + 1, s => (pnum s).bind fun x => (pnums n x.2).map fun y => (x.1 :: y.1, y.2)
/-- ranges: so many more behind the first -/
def prng : Nat → Nat → List UInt8 → Option (List (Nat × Nat) × List UInt8)
  | 0, high, s => (pnum s).bind fun x => if high < x.1 then none else some ([(high - x.1, high)], x.2)
  | k + 1, high, s => (pnum s).bind fun x => if high < x.1 then none else (pnum x.2).bind fun y => if high - x.1 < y.1 + 2 then none else
      (prng k (high - x.1 - y.1 - 2) y.2).map fun z => ((high - x.1, high) :: z.1, z.2)
def packs (s : List UInt8) : Option ((Nat × List (Nat × Nat)) × List UInt8) :=
  (pnum s).bind fun h => (pnum h.2).bind fun a => (pnum a.2).bind fun m => if 64 ≤ m.1 then none else (prng m.1 h.1 m.2).map fun z => ((a.1, z.1), z.2)
def packed (k : Nat) (s : List UInt8) : Option (Fr × List UInt8) :=
  (packs s).bind fun x => if k = 3 then (pnum x.2).bind fun b => (pnum b.2).bind fun c => (pnum c.2).map fun m => (⟨k, x.1.1, b.1, c.1, false, ⟨#[]⟩, ⟨(be m.1 8).toArray⟩, x.1.2⟩, m.2)
    else some (⟨k, x.1.1, 0, 0, false, ⟨#[]⟩, ⟨#[]⟩, x.1.2⟩, x.2)
def pstream (k : Nat) (s : List UInt8) : Option (Fr × List UInt8) :=
  (pnum s).bind fun a => (if k / 4 % 2 = 1 then (pnum a.2).bind fun b => if b.1 = 0 then none else some b else some (0, a.2)).bind fun b =>
    if k / 2 % 2 = 0 then none else (ptext b.2).map fun d => (⟨8, a.1, b.1, 0, decide (k % 2 = 1), ⟨d.1.toArray⟩, ⟨#[]⟩, []⟩, d.2)
def pcid (s : List UInt8) : Option (Fr × List UInt8) :=
  (pnum s).bind fun a => (pnum a.2).bind fun b => match b.2 with
    | [] => none
    | n :: t => (ptake n.toNat t).bind fun d => (ptake 16 d.2).map fun m => (⟨24, a.1, b.1, 0, false, ⟨d.1.toArray⟩, ⟨m.1.toArray⟩, []⟩, m.2)
def pshape (k : Nat) (sh : Shp) (s : List UInt8) : Option (Fr × List UInt8) :=
  (pnums sh.n s).bind fun x =>
    if sh.t then (ptext x.2).map fun d => (⟨k, x.1.getD 0 0, x.1.getD 1 0, x.1.getD 2 0, false, ⟨d.1.toArray⟩, ⟨#[]⟩, []⟩, d.2)
    else if 0 < sh.x then (ptake sh.x x.2).map fun d => (⟨k, x.1.getD 0 0, x.1.getD 1 0, x.1.getD 2 0, false, ⟨d.1.toArray⟩, ⟨#[]⟩, []⟩, d.2)
    else some (⟨k, x.1.getD 0 0, x.1.getD 1 0, x.1.getD 2 0, false, ⟨#[]⟩, ⟨#[]⟩, []⟩, x.2)
def zeros (s : List UInt8) : Nat := (s.takeWhile (· == 0)).length
def ppad (s : List UInt8) : Fr × List UInt8 := (⟨0, min (zeros s) 16383 + 1, 0, 0, false, ⟨#[]⟩, ⟨#[]⟩, []⟩, s.drop (min (zeros s) 16383))
def pframe (s : List UInt8) : Option (Fr × List UInt8) :=
  (pnum s).bind fun x => match fshape x.1 with
    | some sh => pshape x.1 sh x.2
    | none => if x.1 = 0 then some (ppad x.2) else if x.1 = 2 ∨ x.1 = 3 then packed x.1 x.2 else if 8 ≤ x.1 ∧ x.1 < 16 then pstream x.1 x.2 else if x.1 = 24 then pcid x.2 else none
def fread (s : List UInt8) : Option (Fr × List UInt8) := (pframe s).bind fun x => if fmay x.1 then some x else none

/-! ### there -/
theorem pnums_put : ∀ (ns : List Nat) (r : List UInt8), (∀ n ∈ ns, n < 4611686018427387904) → pnums ns.length ((ns.map vputS).flatten ++ r) = some (ns, r)
  | [], r, _ => rfl
  | n :: ns, r, h => by
    rw [List.length_cons, List.map_cons, List.flatten_cons, List.append_assoc, pnums, pnum_put (h n (by simp))]
    simp only [Option.bind_some]
    rw [pnums_put ns r (fun m hm => h m (by simp [hm]))]
    rfl
theorem pnums_some : ∀ (n : Nat) (s : List UInt8) (ns : List Nat) (r : List UInt8), pnums n s = some (ns, r) → ns.length = n ∧ s = (ns.map vputS).flatten ++ r ∧ ∀ n ∈ ns, n < 4611686018427387904
  | 0, s, ns, r, h => by
    simp only [pnums, Option.some.injEq, Prod.mk.injEq] at h
    obtain ⟨rfl, rfl⟩ := h
    exact ⟨rfl, rfl, by simp⟩
  | n + 1, s, ns, r, h => by
    rw [pnums] at h
    obtain ⟨⟨m, t⟩, h1, h2⟩ := Option.bind_eq_some_iff.1 h
    obtain ⟨⟨ms, r2⟩, h3, h4⟩ := Option.map_eq_some_iff.1 h2
    simp only [Prod.mk.injEq] at h4
    obtain ⟨rfl, rfl⟩ := h4
    obtain ⟨rfl, h5⟩ := pnum_some h1
    obtain ⟨h6, h7, h8⟩ := pnums_some n _ _ _ h3
    simp only at h7
    refine ⟨by simp [h6], by rw [h7]; simp, ?_⟩
    intro k hk
    rcases List.mem_cons.1 hk with rfl | hk
    · exact h5
    · exact h8 k hk
theorem fmay_parts {f : Fr} (h : fmay f = true) : f.a < 4611686018427387904 ∧ f.b < 4611686018427387904 ∧ f.c < 4611686018427387904 ∧ f.data.size ≤ 16384 ∧
    (match fshape f.kind with | none => fown f | some s => fclear s f && (decide (s.x = 0) || decide (f.data.size = s.x)) && flimits f) = true := by
  unfold fmay at h
  simp only [Bool.and_eq_true, decide_eq_true_eq] at h
  exact ⟨h.1.1.1.1, h.1.1.1.2, h.1.1.2, h.1.2, h.2⟩
theorem fshape_lt {k : Nat} {s : Shp} (h : fshape k = some s) : k < 31 ∧ s.n ≤ 3 ∧ k ≠ 0 := by
  unfold fshape at h
  repeat' split at h
  all_goals first | (cases h; done) | (cases h; exact ⟨by omega, by simp, by omega⟩)
theorem take3 {a b c n : Nat} (h : n ≤ 3) (h1 : 1 ≤ n ∨ a = 0) (h2 : 2 ≤ n ∨ b = 0) (h3 : 3 ≤ n ∨ c = 0) :
    ([a, b, c].take n).getD 0 0 = a ∧ ([a, b, c].take n).getD 1 0 = b ∧ ([a, b, c].take n).getD 2 0 = c ∧ ([a, b, c].take n).length = n := by
  match n, h with
  | 0, _ => refine ⟨?_, ?_, ?_, rfl⟩ <;> (simp; omega)
  | 1, _ => refine ⟨rfl, ?_, ?_, rfl⟩ <;> (simp; omega)
  | 2, _ => refine ⟨rfl, rfl, ?_, rfl⟩ ; (simp; omega)
  | 3, _ => exact ⟨rfl, rfl, rfl, rfl⟩
theorem fclear_parts {s : Shp} {f : Fr} (h : fclear s f = true) : (1 ≤ s.n ∨ f.a = 0) ∧ (2 ≤ s.n ∨ f.b = 0) ∧ (3 ≤ s.n ∨ f.c = 0) ∧ f.fin = false ∧ (s.t = true ∨ 0 < s.x ∨ f.data.size = 0) ∧ f.more.size = 0 ∧ f.list = [] := by
  unfold fclear at h
  simp only [Bool.and_eq_true, Bool.or_eq_true, decide_eq_true_eq, Bool.not_eq_true'] at h
  obtain ⟨⟨⟨⟨⟨⟨h1, h2⟩, h3⟩, h4⟩, h5⟩, h6⟩, h7⟩ := h
  exact ⟨h1, h2, h3, h4, by rcases h5 with (h | h) | h <;> simp [h], h6, h7⟩
theorem pshape_put {f : Fr} {s : Shp} (hn : s.n ≤ 3) (ha : f.a < 4611686018427387904) (hb : f.b < 4611686018427387904) (hc : f.c < 4611686018427387904) (hd : f.data.size ≤ 16384)
    (hcl : fclear s f = true) (hx : s.x = 0 ∨ f.data.size = s.x) (r : List UInt8) : pshape f.kind s (fnums s.n f ++ (ftail s f ++ r)) = some (f, r) := by
  obtain ⟨c1, c2, c3, c4, c5, c6, c7⟩ := fclear_parts hcl
  obtain ⟨t1, t2, t3, t4⟩ := take3 hn c1 c2 c3
  have hnum := pnums_put ([f.a, f.b, f.c].take s.n) (ftail s f ++ r) (fun n hn => by
    have := List.mem_of_mem_take hn
    simp at this
    rcases this with rfl | rfl | rfl <;> assumption)
  rw [t4] at hnum
  unfold pshape fnums
  rw [hnum]
  simp only [Option.bind_some]
  rw [t1, t2, t3]
  have hm := size0 c6
  unfold ftail
  cases ht : s.t
  · simp only [Bool.false_eq_true, if_false]
    by_cases h0 : 0 < s.x
    · rw [if_pos h0, if_pos h0]
      have e : s.x = f.data.data.toList.length := by rw [bytes_len]; omega
      rw [e, ptake_put]
      simp only [Option.map_some, eta_bytes]
      rw [← hm, ← c7, ← c4]
    · rw [if_neg h0, if_neg h0]
      have hz : f.data.size = 0 := by
        rcases c5 with h | h | h
        · rw [ht] at h; cases h
        · omega
        · exact h
      rw [← size0 hz]
      simp only [List.nil_append]
      have hm2 : f.more = f.data := by rw [hm, ← size0 hz]
      conv => rhs; rw [show f = ⟨f.kind, f.a, f.b, f.c, f.fin, f.data, f.more, f.list⟩ from rfl]
      rw [hm2, c7, c4]
  · simp only [if_true]
    unfold ftext
    rw [List.append_assoc]
    have e : f.data.size = f.data.data.toList.length := (bytes_len _).symm
    rw [e, ptext_put _ _ (by rw [bytes_len]; omega)]
    simp only [Option.map_some, eta_bytes]
    rw [← hm, ← c7, ← c4]
theorem rngOk_cons {prev : Option Nat} {r : Nat × Nat} {t : List (Nat × Nat)} (h : rngOk prev (r :: t) = true) : r.1 ≤ r.2 ∧ r.2 < 4611686018427387904 ∧ (∀ p, prev = some p → 2 ≤ p ∧ r.2 ≤ p - 2) ∧ rngOk (some r.1) t = true := by
  unfold rngOk at h
  simp only [Bool.and_eq_true, decide_eq_true_eq] at h
  refine ⟨h.1.1.1, h.1.1.2, ?_, h.2⟩
  rintro p rfl
  simpa using h.1.2
theorem prng_put : ∀ (t : List (Nat × Nat)) (r : Nat × Nat) (rest : List UInt8), r.1 ≤ r.2 → r.2 < 4611686018427387904 → rngOk (some r.1) t = true →
    prng t.length r.2 (vputS (r.2 - r.1) ++ (rbytes r.1 t ++ rest)) = some (r :: t, rest)
  | [], r, rest, h1, h2, _ => by
    rw [List.length_nil, prng, pnum_put (by omega)]
    simp only [Option.bind_some, rbytes, List.nil_append]
    rw [if_neg (by omega), show r.2 - (r.2 - r.1) = r.1 by omega]
  | q :: t, r, rest, h1, h2, h3 => by
    obtain ⟨q1, q2, q3, q4⟩ := rngOk_cons h3
    obtain ⟨q5, q6⟩ := q3 _ rfl
    rw [List.length_cons, prng, pnum_put (by omega)]
    simp only [Option.bind_some]
    rw [if_neg (by omega), rbytes, List.append_assoc, pnum_put (by omega)]
    simp only [Option.bind_some]
    rw [if_neg (by omega), show r.2 - (r.2 - r.1) - (r.1 - q.2 - 2) - 2 = q.2 by omega, List.append_assoc, prng_put t q rest q1 q2 q4]
    simp only [Option.map_some]
    rw [show r.2 - (r.2 - r.1) = r.1 by omega]
theorem prng_some : ∀ (k high : Nat) (s : List UInt8) (l : List (Nat × Nat)) (rest : List UInt8), high < 4611686018427387904 → prng k high s = some (l, rest) →
    ∃ r t, l = r :: t ∧ t.length = k ∧ r.2 = high ∧ r.1 ≤ r.2 ∧ rngOk (some r.1) t = true ∧ s = vputS (r.2 - r.1) ++ (rbytes r.1 t ++ rest)
  | 0, high, s, l, rest, hh, h => by
    rw [prng] at h
    obtain ⟨⟨m, u⟩, h1, h2⟩ := Option.bind_eq_some_iff.1 h
    obtain ⟨rfl, h3⟩ := pnum_some h1
    simp only at h2
    split at h2
    · cases h2
    · cases h2
      refine ⟨_, [], rfl, rfl, rfl, by simp, rfl, ?_⟩
      simp only [rbytes, List.nil_append]
      rw [show high - (high - m) = m by omega]
  | k + 1, high, s, l, rest, hh, h => by
    rw [prng] at h
    obtain ⟨⟨m, u⟩, h1, h2⟩ := Option.bind_eq_some_iff.1 h
    obtain ⟨rfl, h3⟩ := pnum_some h1
    simp only at h2
    split at h2
    · cases h2
    · obtain ⟨⟨g, v⟩, h4, h5⟩ := Option.bind_eq_some_iff.1 h2
      obtain ⟨rfl, h6⟩ := pnum_some h4
      simp only at h5
      split at h5
      · cases h5
      · obtain ⟨⟨l2, r2⟩, h7, h8⟩ := Option.map_eq_some_iff.1 h5
        simp only [Prod.mk.injEq] at h8
        obtain ⟨rfl, rfl⟩ := h8
        obtain ⟨q, t, rfl, h9, h10, h11, h12, rfl⟩ := prng_some k _ _ _ _ (by omega) h7
        refine ⟨_, q :: t, rfl, by simp [h9], rfl, by simp, ?_, ?_⟩
        · unfold rngOk
          simp only [Bool.and_eq_true, decide_eq_true_eq]
          exact ⟨⟨⟨h11, by omega⟩, by omega, by omega⟩, h12⟩
        · simp only [rbytes]
          rw [show high - (high - m) = m by omega, show high - m - q.2 - 2 = g by omega]
          simp only [List.append_assoc]
end Go.Proofs.YtbjmcnmcodbkdaaDoor

/-
  frames, plain: a frame is read as itself; what is read is written as it was.
-/
namespace Go.Proofs.YtbjmcnmcodbkdaaDoor
open Go.RowKit

theorem rngs_parts {l : List (Nat × Nat)} (h : rngs l = true) : ∃ r t, l = r :: t ∧ t.length ≤ 63 ∧ r.1 ≤ r.2 ∧ r.2 < 4611686018427387904 ∧ rngOk (some r.1) t = true := by
  unfold rngs at h
  simp only [Bool.and_eq_true, decide_eq_true_eq] at h
  obtain ⟨h1, h2, h3⟩ := h
  cases l with
  | nil => simp at h2
  | cons r t =>
    obtain ⟨q1, q2, _, q4⟩ := rngOk_cons h1
    exact ⟨r, t, rfl, by simp at h3; omega, q1, q2, q4⟩
theorem rngs_mk {r : Nat × Nat} {t : List (Nat × Nat)} (h1 : t.length ≤ 63) (h2 : r.1 ≤ r.2) (h3 : r.2 < 4611686018427387904) (h4 : rngOk (some r.1) t = true) : rngs (r :: t) = true := by
  unfold rngs rngOk
  simp only [Bool.and_eq_true, decide_eq_true_eq, List.length_cons]
  exact ⟨⟨⟨⟨h2, h3⟩, trivial⟩, h4⟩, by omega, by omega⟩
theorem packs_put {r : Nat × Nat} {t : List (Nat × Nat)} {a : Nat} (ha : a < 4611686018427387904) (h1 : t.length ≤ 63) (h2 : r.1 ≤ r.2) (h3 : r.2 < 4611686018427387904) (h4 : rngOk (some r.1) t = true) (rest : List UInt8) :
    packs (vputS r.2 ++ (vputS a ++ (vputS t.length ++ (vputS (r.2 - r.1) ++ (rbytes r.1 t ++ rest))))) = some ((a, r :: t), rest) := by
  unfold packs
  rw [pnum_put h3]
  simp only [Option.bind_some]
  rw [pnum_put ha]
  simp only [Option.bind_some]
  rw [pnum_put (by omega)]
  simp only [Option.bind_some]
  rw [if_neg (by omega), prng_put t r rest h2 h3 h4]
  rfl
theorem packs_some {s rest : List UInt8} {a : Nat} {l : List (Nat × Nat)} (h : packs s = some ((a, l), rest)) :
    ∃ r t, l = r :: t ∧ a < 4611686018427387904 ∧ rngs l = true ∧ s = vputS r.2 ++ (vputS a ++ (vputS t.length ++ (vputS (r.2 - r.1) ++ (rbytes r.1 t ++ rest)))) := by
  unfold packs at h
  obtain ⟨⟨hi, s1⟩, h1, h2⟩ := Option.bind_eq_some_iff.1 h
  obtain ⟨rfl, b1⟩ := pnum_some h1
  obtain ⟨⟨a', s2⟩, h3, h4⟩ := Option.bind_eq_some_iff.1 h2
  obtain ⟨rfl, b2⟩ := pnum_some h3
  obtain ⟨⟨m, s3⟩, h5, h6⟩ := Option.bind_eq_some_iff.1 h4
  obtain ⟨rfl, b3⟩ := pnum_some h5
  simp only at h6
  split at h6
  · cases h6
  · obtain ⟨⟨l', r'⟩, h7, h8⟩ := Option.map_eq_some_iff.1 h6
    simp only [Prod.mk.injEq] at h8
    obtain ⟨⟨rfl, rfl⟩, rfl⟩ := h8
    obtain ⟨r, t, rfl, h9, rfl, h11, h12, rfl⟩ := prng_some _ _ _ _ _ b1 h7
    subst h9
    exact ⟨r, t, rfl, b2, rngs_mk (by omega) h11 b1 h12, rfl⟩
theorem zeros_app (n : Nat) (r : List UInt8) : zeros (List.replicate n 0 ++ r) = n + zeros r := by
  unfold zeros
  induction n with
  | zero => simp
  | succ n ih =>
    rw [List.replicate_succ, List.cons_append, List.takeWhile_cons_of_pos (by rfl), List.length_cons, ih]
    omega
theorem zeros_take : ∀ (r : List UInt8) (n : Nat), n ≤ zeros r → r.take n = List.replicate n 0
  | r, 0, _ => by simp
  | [], n + 1, h => by simp [zeros] at h
  | c :: r, n + 1, h => by
    unfold zeros at h
    by_cases hc : c = 0
    · subst hc
      rw [List.takeWhile_cons_of_pos (by rfl), List.length_cons] at h
      rw [List.take_succ_cons, List.replicate_succ, zeros_take r n (by unfold zeros; omega)]
    · rw [List.takeWhile_cons_of_neg (by simpa using hc)] at h
      simp at h
/-- what follows doesn't go on with a padding -/
def NoZero (f : Fr) (r : List UInt8) : Prop := f.kind = 0 → f.a = 16384 ∨ zeros r = 0
theorem vputS0 : vputS 0 = [0] := by decide +kernel
theorem own_cases {f : Fr} (h : fown f = true) : f.kind = 0 ∨ f.kind = 2 ∨ f.kind = 3 ∨ f.kind = 8 ∨ f.kind = 24 := by
  unfold fown at h
  by_cases h0 : f.kind = 0
  · exact .inl h0
  · rw [if_neg h0] at h
    by_cases h2 : f.kind = 2 ∨ f.kind = 3
    · omega
    · rw [if_neg h2] at h
      by_cases h8 : f.kind = 8
      · omega
      · rw [if_neg h8] at h
        by_cases h24 : f.kind = 24
        · omega
        · rw [if_neg h24] at h; cases h
theorem own0 {f : Fr} (hk : f.kind = 0) (h : fown f = true) : 1 ≤ f.a ∧ f.a ≤ 16384 ∧ f = ⟨0, f.a, 0, 0, false, ⟨#[]⟩, ⟨#[]⟩, []⟩ := by
  unfold fown at h
  rw [if_pos hk] at h
  simp only [Bool.and_eq_true, decide_eq_true_eq, Bool.not_eq_true'] at h
  obtain ⟨⟨⟨⟨⟨⟨⟨h1, h2⟩, h3⟩, h4⟩, h5⟩, h6⟩, h7⟩, h8⟩ := h
  exact ⟨h1, h2, Fr.ext' hk rfl h4 h5 h6 (size0 h7) (size0 h8) h3⟩
theorem own8 {f : Fr} (hk : f.kind = 8) (h : fown f = true) : f.b + f.data.size < 4611686018427387904 ∧ f = ⟨8, f.a, f.b, 0, f.fin, f.data, ⟨#[]⟩, []⟩ := by
  unfold fown at h
  rw [if_neg (by omega), if_neg (by omega), if_pos hk] at h
  simp only [Bool.and_eq_true, decide_eq_true_eq] at h
  obtain ⟨⟨⟨h1, h2⟩, h3⟩, h4⟩ := h
  exact ⟨h4, Fr.ext' hk rfl rfl h2 rfl rfl (size0 h3) h1⟩
theorem own24 {f : Fr} (hk : f.kind = 24) (h : fown f = true) : f.b ≤ f.a ∧ 1 ≤ f.data.size ∧ f.data.size ≤ 20 ∧ f.more.size = 16 ∧ f = ⟨24, f.a, f.b, 0, false, f.data, f.more, []⟩ := by
  unfold fown at h
  rw [if_neg (by omega), if_neg (by omega), if_neg (by omega), if_pos hk] at h
  simp only [Bool.and_eq_true, decide_eq_true_eq, Bool.not_eq_true'] at h
  obtain ⟨⟨⟨⟨⟨⟨h1, h2⟩, h3⟩, h4⟩, h5⟩, h6⟩, h7⟩ := h
  exact ⟨h4, h5, h6, h7, Fr.ext' hk rfl rfl h2 h3 rfl rfl h1⟩
theorem ownA {f : Fr} (hk : f.kind = 2 ∨ f.kind = 3) (h : fown f = true) : rngs f.list = true ∧ f.fin = false ∧ f.data = ⟨#[]⟩ ∧ (f.kind = 2 → f.b = 0 ∧ f.c = 0 ∧ f.more = ⟨#[]⟩) ∧ (f.kind = 3 → f.more.size = 8 ∧ numF 0 f.more.data.toList < 4611686018427387904) := by
  unfold fown at h
  rw [if_neg (by omega), if_pos hk] at h
  unfold facks at h
  simp only [Bool.and_eq_true, decide_eq_true_eq, Bool.not_eq_true'] at h
  obtain ⟨h1, ⟨h2, h3⟩, h4⟩ := h
  refine ⟨h4, h2, size0 h3, fun h5 => ?_, fun h5 => ?_⟩
  · rw [if_neg (by omega)] at h1
    simp only [Bool.and_eq_true, decide_eq_true_eq] at h1
    exact ⟨h1.1.1, h1.1.2, size0 h1.2⟩
  · rw [if_pos h5] at h1
    simpa using h1
theorem shape_none {k : Nat} (h : k = 0 ∨ k = 2 ∨ k = 3 ∨ (8 ≤ k ∧ k < 16) ∨ k = 24) : fshape k = none := by
  unfold fshape
  repeat rw [if_neg (by omega)]
theorem own_shape {f : Fr} (h : fown f = true) : fshape f.kind = none := shape_none (by have := own_cases h; omega)

/-- a frame is read as itself -/
theorem pframe_put {f : Fr} (h : fmay f = true) (r : List UInt8) (hz : NoZero f r) : pframe (fbytes f ++ r) = some (f, r) := by
  obtain ⟨ha, hb, hc, hd, hm⟩ := fmay_parts h
  unfold fbytes
  cases hs : fshape f.kind with
  | some s =>
    rw [hs] at hm
    simp only [Bool.and_eq_true, Bool.or_eq_true, decide_eq_true_eq] at hm
    obtain ⟨⟨h1, h2⟩, _⟩ := hm
    obtain ⟨hk, hn, _⟩ := fshape_lt hs
    simp only
    unfold pframe
    rw [List.append_assoc, pnum_put (by omega)]
    simp only [Option.bind_some]
    rw [hs]
    simp only
    rw [List.append_assoc, pshape_put hn ha hb hc hd h1 h2]
  | none =>
    rw [hs] at hm
    simp only at hm ⊢
    unfold fway
    by_cases h0 : f.kind = 0
    · rw [if_pos h0]
      obtain ⟨a1, a2, e⟩ := own0 h0 hm
      obtain ⟨n, hn⟩ : ∃ n, f.a = n + 1 := ⟨f.a - 1, by omega⟩
      have e1 : List.replicate f.a (0 : UInt8) ++ r = vputS 0 ++ (List.replicate n 0 ++ r) := by rw [hn, List.replicate_succ, vputS0]; rfl
      unfold pframe
      rw [e1, pnum_put (by omega)]
      simp only [Option.bind_some]
      rw [shape_none (.inl rfl)]
      simp only [if_true]
      unfold ppad
      rw [zeros_app]
      have hmin : min (n + zeros r) 16383 = n := by
        rcases hz h0 with h1 | h1 <;> omega
      rw [hmin, List.drop_left' (by simp)]
      conv => rhs; rw [e]
      rw [hn]
    · rw [if_neg h0]
      by_cases h8 : f.kind = 8
      · rw [if_pos h8]
        obtain ⟨b1, e⟩ := own8 h8 hm
        unfold fstream
        have hk16 : 10 + (if f.b = 0 then 0 else 4) + (if f.fin then 1 else 0) < 16 := by split <;> split <;> omega
        have hk8 : 8 ≤ 10 + (if f.b = 0 then 0 else 4) + (if f.fin then 1 else 0) := by omega
        have hb4 : (10 + (if f.b = 0 then 0 else 4) + (if f.fin then 1 else 0)) / 4 % 2 = if f.b = 0 then 0 else 1 := by split <;> split <;> rfl
        have hb2 : (10 + (if f.b = 0 then 0 else 4) + (if f.fin then 1 else 0)) / 2 % 2 = 1 := by split <;> split <;> rfl
        have hb1 : decide ((10 + (if f.b = 0 then 0 else 4) + (if f.fin then 1 else 0)) % 2 = 1) = f.fin := by cases f.fin <;> split <;> rfl
        obtain ⟨k, hk⟩ : ∃ k, 10 + (if f.b = 0 then 0 else 4) + (if f.fin then 1 else 0) = k := ⟨_, rfl⟩
        rw [hk] at hk16 hk8 hb4 hb2 hb1 ⊢
        unfold pframe
        rw [List.append_assoc, pnum_put (by omega)]
        simp only [Option.bind_some]
        rw [shape_none (by omega)]
        simp only
        rw [if_neg (by omega), if_neg (by omega), if_pos ⟨hk8, hk16⟩]
        unfold pstream
        rw [List.append_assoc, pnum_put ha]
        simp only [Option.bind_some]
        have htx : ptext (ftext f.data ++ r) = some (f.data.data.toList, r) := by
          unfold ftext
          have e : f.data.size = f.data.data.toList.length := (bytes_len _).symm
          rw [List.append_assoc, e, ptext_put _ _ (by rw [bytes_len]; omega)]
        rw [hb4, hb2, hb1]
        by_cases hb0 : f.b = 0
        · rw [if_pos hb0, if_pos hb0, if_neg (by omega)]
          simp only [Option.bind_some, List.nil_append]
          rw [if_neg (by omega), htx]
          simp only [Option.map_some, eta_bytes]
          conv => rhs; rw [e]
          rw [hb0]
        · rw [if_neg hb0, if_neg hb0, if_pos rfl, List.append_assoc, pnum_put hb]
          simp only [Option.bind_some]
          rw [if_neg hb0]
          simp only [Option.bind_some]
          rw [if_neg (by omega), htx]
          simp only [Option.map_some, eta_bytes]
          conv => rhs; rw [e]
      · rw [if_neg h8]
        by_cases h24 : f.kind = 24
        · rw [if_pos h24]
          obtain ⟨b1, b2, b3, b4, e⟩ := own24 h24 hm
          unfold fcid pframe
          rw [List.append_assoc, pnum_put (by omega)]
          simp only [Option.bind_some]
          rw [shape_none (by omega)]
          simp only
          rw [if_neg (by omega), if_neg (by omega), if_neg (by omega), if_pos trivial]
          unfold pcid
          rw [List.append_assoc, pnum_put ha]
          simp only [Option.bind_some]
          rw [List.append_assoc, pnum_put hb]
          simp only [Option.bind_some, List.cons_append]
          have e1 : (UInt8.ofNat f.data.size).toNat = f.data.data.toList.length := by rw [bytes_len, UInt8.toNat_ofNat']; omega
          rw [e1, List.append_assoc, ptake_put]
          simp only [Option.bind_some]
          have e2 : (16 : Nat) = f.more.data.toList.length := by rw [bytes_len, b4]
          rw [e2, ptake_put]
          simp only [Option.map_some, eta_bytes]
          conv => rhs; rw [e]
        · rw [if_neg h24]
          have hk : f.kind = 2 ∨ f.kind = 3 := by have := own_cases hm; omega
          obtain ⟨o1, o2, o3, o4, o5⟩ := ownA hk hm
          obtain ⟨q, t, hl, ht, q1, q2, q3⟩ := rngs_parts o1
          unfold fack
          rw [hl]
          simp only
          unfold pframe
          rw [List.append_assoc, pnum_put (by omega)]
          simp only [Option.bind_some]
          rw [shape_none (by omega)]
          simp only
          rw [if_neg (by omega), if_pos hk]
          unfold packed
          simp only [List.append_assoc]
          rw [packs_put ha ht q1 q2 q3]
          simp only [Option.bind_some]
          by_cases h3 : f.kind = 3
          · obtain ⟨m1, m2⟩ := o5 h3
            rw [if_pos h3, if_pos h3]
            simp only [List.append_assoc]
            rw [pnum_put hb]
            simp only [Option.bind_some]
            rw [pnum_put hc]
            simp only [Option.bind_some]
            rw [pnum_put m2]
            simp only [Option.map_some]
            have e1 : be (numF 0 f.more.data.toList) 8 = f.more.data.toList := by
              have := be_numF f.more.data.toList 0
              rw [bytes_len, m1, Nat.zero_mul, Nat.zero_add] at this
              exact this
            rw [e1, eta_bytes]
            congr 2
            exact Fr.ext' rfl rfl rfl rfl o2.symm o3.symm rfl hl.symm
          · rw [if_neg h3, if_neg h3]
            obtain ⟨z1, z2, z3⟩ := o4 (by omega)
            simp only [List.nil_append]
            congr 2
            exact Fr.ext' rfl rfl z1.symm z2.symm o2.symm o3.symm z3.symm hl.symm
end Go.Proofs.YtbjmcnmcodbkdaaDoor
