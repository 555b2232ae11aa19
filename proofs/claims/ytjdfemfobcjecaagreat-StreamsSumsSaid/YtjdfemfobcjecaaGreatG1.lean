/-
  Contracts and plain laws that the proofs of this seat share, part 1 of 11: StrD, Mem, Ob, ObRun, ObRead, ObDone, ObEach.
-/
import Derived.WalkKit
import Derived.WalkSpells
import Derived.WalkLawsBesides
import Derived.Deep.AppendSrc
import Derived.Lib.AppendZerosOnto
import Derived.Maps.AppendAt
import Derived.Deep.QuietTactic
import Derived.BigQuiet
import Derived.Lib.Bytealg
import Derived.Lib.IndexLaws
import Derived.Test.YtjdfemfobcjecaaGreatProg
import Derived.Lib.BytesEntry
import Derived.Shelf.Bytes.SlCountOne
import Derived.Shelf.Bytes.SlIndexAt
import Derived.Laws.Externs
import Derived.Deep.RegionHeld3

/-
  A text as a value; endings that differ in a number.
-/
namespace Go.Proofs.YtjdfemfobcjecaaGreat
open Go.RowKit
def str (l : List UInt8) : Value := .string ⟨l.toArray⟩
theorem ret_bool {a b : Bool} (h : a = b) : Ending.returned (.bool a) = .returned (.bool b) := by rw [h]
theorem ret_i64 {a b : Int} (h : a = b) : Ending.returned (.int .i64 a) = .returned (.int .i64 b) := by rw [h]
end Go.Proofs.YtjdfemfobcjecaaGreat

/-
  Memory words: a block that is known whole; worlds that differ only in some blocks.
-/
namespace Go.Proofs.YtjdfemfobcjecaaGreat
open Go.RowKit

theorem hide {p : Prop} (h : p) : Hid p := h

theorem results_tmp4 {fn : Func} {t u v x : Tmp} (h : fn.results = #[.tmp t, .tmp u, .tmp v, .tmp x]) (tmps : Array Value) (P : Program) (w : World) :
    (results fn tmps).run P w = .ok (.tuple #[tmps.getD t undef, tmps.getD u undef, tmps.getD v undef, tmps.getD x undef]) w := by simp [results, h]
theorem results_tmp5 {fn : Func} {t u v x y : Tmp} (h : fn.results = #[.tmp t, .tmp u, .tmp v, .tmp x, .tmp y]) (tmps : Array Value) (P : Program) (w : World) :
    (results fn tmps).run P w = .ok (.tuple #[tmps.getD t undef, tmps.getD u undef, tmps.getD v undef, tmps.getD x undef, tmps.getD y undef]) w := by simp [results, h]

theorem beq_nat (a b : Nat) : ((a : Int) == (b : Int)) = (a == b) := by rw [Bool.eq_iff_iff]; simp only [beq_iff_eq, Int.natCast_inj]

/-- a quiet call behind quiet regions -/
theorem quiet_add {P : Program} {f : FuncId} {args : Array Value} {w : World} {a n : Nat} {v : Value}
    (h : Calls P f args (w.drewN (a + n)) fun e w' => e = .returned v ∧ ∃ m, w' = (w.drewN (a + n)).drewN m) :
    Calls P f args (w.drewN (a + n)) fun e w'' => e = .returned v ∧ ∃ m, w'' = w.drewN (a + m) :=
  h.mono fun _ _ ⟨he, m, hm⟩ => ⟨he, n + m, by rw [hm, World.drewN_drewN, Nat.add_assoc]⟩

/-- Block g is just the cells cs of element type t, none frozen. -/
def Blk (w : World) (g : Nat) (t : TypeId) (cs : Array Value) : Prop := w.heap[g]? = some (.cells cs t (0, 0))

section
variable {w w' : World} {g : Nat} {t : TypeId} {cs : Array Value}
theorem Blk.lt (h : Blk w g t cs) : g < w.heap.size := by
  rcases Nat.lt_or_ge g w.heap.size with hlt | hge
  · exact hlt
  · unfold Blk at h; rw [Array.getElem?_eq_none hge] at h; cases h
theorem Blk.cell (h : Blk w g t cs) (i : Nat) : w.cell? ⟨g, i, none⟩ = cs[i]? := cell_of_row w g i cs t (0, 0) h
theorem Blk.frozen (h : Blk w g t cs) (i : Nat) : w.frozen? ⟨g, i, none⟩ = false := by
  unfold Blk at h
  simp [World.frozen?, h]
theorem Blk.new (w : World) (t : TypeId) (cs : Array Value) : Blk (w.alloc (.cells cs t)) w.heap.size t cs := heap_alloc_new w _
theorem Blk.drew (h : Blk w g t cs) : Blk w.drew g t cs := h
theorem Blk.alloc (h : Blk w g t cs) (o : Obj) : Blk (w.alloc o) g t cs := (Below.heap_alloc w o g h.lt).trans h
theorem Blk.set_ (h : Blk w g t cs) (i : Nat) (u : Value) : Blk (w.setCell ⟨g, i, none⟩ u) g t (cs.setIfInBounds i u) := by
  unfold Blk at h ⊢
  simp [World.setCell, Array.getElem?_modify, h]
theorem Blk.far (h : Blk w g t cs) {p : Addr} (hp : g ≠ p.block) (u : Value) : Blk (w.setCell p u) g t cs := (Below.heap_setCell w p u g hp).trans h
theorem Blk.ne_ {g' : Nat} {t' : TypeId} {cs' : Array Value} (h : Blk w g t cs) (h' : Blk w g' t' cs') (hne : t ≠ t') : g ≠ g' := by
  rintro rfl
  unfold Blk at h h'
  rw [h] at h'
  injection h' with h'
  injection h' with _ ht
  exact hne ht
end

/-- w' is w, but for the blocks of F, and new ones. -/
structure Mod (F : List Nat) (w w' : World) : Prop where
  os : w'.os = w.os
  tape : w'.tape = w.tape
  output : w'.output = w.output
  size : w.heap.size ≤ w'.heap.size
  block : ∀ k, k < w.heap.size → k ∉ F → w'.heap[k]? = w.heap[k]?

section
variable {F G : List Nat} {a b c w w' : World}
theorem Mod.refl (F : List Nat) (w : World) : Mod F w w := ⟨rfl, rfl, rfl, Nat.le_refl _, fun _ _ _ => rfl⟩
theorem Mod.trans (h : Mod F a b) (k : Mod G b c) (hG : ∀ x ∈ G, x ∈ F ∨ a.heap.size ≤ x) : Mod F a c :=
  ⟨k.os.trans h.os, k.tape.trans h.tape, k.output.trans h.output, Nat.le_trans h.size k.size, fun i hi hn =>
    (k.block i (Nat.lt_of_lt_of_le hi h.size) (fun hg => by rcases hG i hg with h1 | h1; exact hn h1; omega)).trans (h.block i hi hn)⟩
theorem Mod.mono (h : Mod F a b) (hF : ∀ x ∈ F, x ∈ G ∨ a.heap.size ≤ x) : Mod G a b :=
  ⟨h.os, h.tape, h.output, h.size, fun i hi hn => h.block i hi (fun hf => by rcases hF i hf with h1 | h1; exact hn h1; omega)⟩
theorem Mod.alloc (h : Mod F a w) (o : Obj) : Mod F a (w.alloc o) :=
  ⟨h.os, h.tape, h.output, Nat.le_trans h.size (by simp), fun i hi hn => (Below.heap_alloc w o i (Nat.lt_of_lt_of_le hi h.size)).trans (h.block i hi hn)⟩
theorem Mod.drew (h : Mod F a w) : Mod F a w.drew := ⟨h.os, h.tape, h.output, h.size, h.block⟩
theorem Mod.drewN (h : Mod F a w) (n : Nat) : Mod F a (w.drewN n) := ⟨h.os, h.tape, h.output, h.size, h.block⟩
theorem Mod.setCell (h : Mod F a w) {p : Addr} (hp : p.block ∈ F ∨ a.heap.size ≤ p.block) (u : Value) : Mod F a (w.setCell p u) :=
  ⟨h.os, h.tape, h.output, by simpa [World.setCell] using h.size, fun i hi hn => (Below.heap_setCell w p u i (by
    rintro rfl
    rcases hp with hp | hp
    · exact hn hp
    · omega)).trans (h.block i hi hn)⟩
theorem Mod.grown (h : Mod F a w) {row : Option Nat} (hg : w.grownBy w' row) (hr : ∀ k, row = some k → k ∈ F ∨ a.heap.size ≤ k) : Mod F a w' :=
  ⟨hg.os.trans h.os, hg.tape.trans h.tape, hg.output.trans h.output, Nat.le_trans h.size hg.size, fun i hi hn =>
    (hg.block i (Nat.lt_of_lt_of_le hi h.size) (fun e => by rcases hr i e.symm with h1 | h1; exact hn h1; omega)).trans (h.block i hi hn)⟩
theorem Mod.of_grown {row : Option Nat} (hg : w.grownBy w' row) : Mod row.toList w w' :=
  (Mod.refl _ w).grown hg (fun k hk => by simp [hk])
theorem Mod.cell (h : Mod F a w) {p : Addr} (hp : p.block < a.heap.size) (hn : p.block ∉ F) : w.cell? p = a.cell? p := World.cell?_of_block (h.block p.block hp hn)
theorem Mod.frozen (h : Mod F a w) {p : Addr} (hp : p.block < a.heap.size) (hn : p.block ∉ F) : w.frozen? p = a.frozen? p := World.frozen?_of_block (h.block p.block hp hn)
theorem Mod.blk (h : Mod F a w) {g : Nat} {t : TypeId} {cs : Array Value} (hb : Blk a g t cs) (hn : g ∉ F) : Blk w g t cs := (h.block g hb.lt hn).trans hb
theorem Mod.below {B : Nat} (h : Mod F a w) (hB : B ≤ a.heap.size) (hF : ∀ x ∈ F, B ≤ x) : Below B a w :=
  ⟨h.os, h.tape, h.output, h.size, fun k hk => h.block k (by omega) (fun hf => by have := hF k hf; omega)⟩
theorem Mod.of_below (h : Below a.heap.size a w) : Mod F a w := ⟨h.os, h.tape, h.output, h.size, fun k hk _ => h.block k hk⟩
end

section
variable {F : List Nat} {a w w' : World} {base : Nat} {e : TypeId} {size n : Nat} {v : Value} {xs : List Value}
theorem own_lt (h : w.ownsRow base e size v n xs) : ∀ k, v.ownBlock = some k → k < w.heap.size := fun k hk => (h.lt k hk).2
theorem Mod.own (h : Mod F a w) (ho : a.ownsRow base e size v n xs) (hn : ∀ k, v.ownBlock = some k → k ∉ F) : w.ownsRow base e size v n xs := by
  refine ⟨ho.1, ?_⟩
  rcases ho.2 with h0 | ⟨g, cap, cur, hv, hg, hh, r⟩
  · exact .inl h0
  · exact .inr ⟨g, cap, cur, hv, hg, (h.block g (Blk.lt hh) (hn g (by rw [hv]; rfl))).trans hh, r⟩
theorem own_far (ho : w.ownsRow base e size v n xs) {p : Addr} (hn : ∀ k, v.ownBlock = some k → k ≠ p.block) (u : Value) : (w.setCell p u).ownsRow base e size v n xs :=
  ((Mod.refl [p.block] w).setCell (p := p) (.inl (by simp)) u).own ho (fun k hk => by have := hn k hk; simpa using this)
theorem own_blk_ne {g : Nat} {t : TypeId} {cs : Array Value} (h : w.ownsRow base e size v n xs) (hg : Blk w g t cs) (hne : e ≠ t) : ∀ k, v.ownBlock = some k → k ≠ g := by
  rintro k hk rfl
  rcases h.2 with ⟨rfl, _⟩ | ⟨g', cap, cur, rfl, _, hh, _⟩
  · simp [Value.ownBlock] at hk
  · have : g' = k := by simpa [Value.ownBlock] using hk
    subst this
    exact Blk.ne_ (t := e) hh hg hne rfl
end

/-- the block under an owned slice -/
theorem own_block {w : World} {base : Nat} {e : TypeId} {g n' cap n : Nat} {xs : List Value} (h : w.ownsRow base e 1 (.slice (some ⟨g, 0, none⟩) n' cap) n xs) :
    ∃ cur, Blk w g e cur ∧ ∀ (j : Nat) (x : Value), xs[j]? = some x → cur[j]? = some x := by
  rcases h.2 with ⟨h0, _⟩ | ⟨g', cap', cur, hv, _, hg, _, _, _, htake⟩
  · cases h0
  · cases hv
    refine ⟨cur, hg, fun j x hx => ?_⟩
    rw [← htake, List.getElem?_take] at hx
    split at hx
    · simpa using hx
    · cases hx

/-! ### append, of whatever source -/
/-- What an append of x onto rows of e yields: m elements, the cells news. -/
structure AppSrc (P : Program) (t tx e : TypeId) (size : Nat) (z : Value) (x : Value) (m : Nat) (news : List Value) (w : World) : Prop where
  len : news.length = m * size
  room : ∀ (ty : TypeId) (g sLen sCap : Nat) (cur : Array Value), w.heap[g]? = some (.cells cur e (0, 0)) → sLen + m ≤ sCap → sLen * size + news.length ≤ cur.size →
    (Builtin.append_ #[t, tx] ty #[.slice (some ⟨g, 0, none⟩) sLen sCap, x]).run P w =
      .ok (.slice (some ⟨g, 0, none⟩) (sLen + m) sCap) (w.setRow g (cur.toList.take (sLen * size) ++ news ++ cur.toList.drop (sLen * size + news.length)).toArray)
  grow : ∀ (ty : TypeId) (base : Option Addr) (sLen sCap : Nat) (olds : List Value), (Builtin.firstCells size sLen (.slice base sLen sCap)).run P w.drew = .ok olds.toArray w.drew →
    sCap < sLen + m → sLen + m ≤ maxLen → (∃ bytes, (∀ i, P.info? e = some i → i.bytes = bytes) ∧ (sLen + m) * bytes ≤ 140737488355328) →
    (Builtin.append_ #[t, tx] ty #[.slice base sLen sCap, x]).run P w =
      .ok (.slice (some ⟨w.heap.size, 0, none⟩) (sLen + m) (grownCap w (sLen + m) sCap e))
        (w.drew.alloc (.cells ((olds ++ news).toArray ++ Builtin.zeroCells z.cells (grownCap w (sLen + m) sCap e - (sLen + m))) e))
  none0 : ∀ (ty : TypeId), m = 0 → (Builtin.append_ #[t, tx] ty #[.slice none 0 0, x]).run P w = .ok (.slice none 0 0) w

section
variable {P : Program} {w : World} {t tx e : TypeId} {i : TypeInfo} {z : Value} {size : Nat}

theorem AppSrc.of_src (ht : P.underlying t = some (.slice e)) (hi : P.info? e = some i) (hz : i.zero = some z) (hsize : i.size = size) {x : Value} {m : Nat} {news : List Value}
    (hs : Src P size tx x m news w) : AppSrc P t tx e size z x m news w := by
  subst hsize
  refine ⟨hs.newsLen, ?_, ?_, ?_⟩
  · intro ty g sLen sCap cur hg hroom hfit
    have hst := run_storeCells_at P g (sLen * i.size) e news 0 cur w hg (by simpa using hfit) hs.one
    simp only [Nat.add_zero] at hst
    rcases hs.kind with ⟨e', hk⟩ | hk <;> simp [Builtin.append_, run_underlying ht, run_underlying hk, sizeOf, typeInfo, hi, hs.len, hroom, hs.cells, Addr.add_lit, hst]
  · rintro ty base sLen sCap olds hold hg h63 ⟨bytes, hb, hb2⟩
    have := hb i hi
    subst this
    exact run_append_grow_src w t tx ty e i z ht hi hz base sLen sCap olds hold x m news hs hg (by simp only [maxLen] at h63; omega) (growslice_fits hg hb2)
  · intro ty hm
    subst hm
    have hn : news = [] := List.eq_nil_of_length_eq_zero (by simpa using hs.newsLen)
    subst hn
    have hc := hs.cells
    rcases hs.kind with ⟨e', hk⟩ | hk <;> simp [Builtin.append_, run_underlying ht, run_underlying hk, sizeOf, typeInfo, hi, hs.len, hc]

theorem AppSrc.zeros {tn : TypeId} {kq kn : IntKind} (ht : P.underlying t = some (.slice e)) (htn : P.underlying tn = some (.int kn)) (hi : P.info? e = some i) (hz : i.zero = some z)
    (hsize : i.size = 1) (hzs : z.cells = #[z]) (h1 : z.oneCell' = true) (m : Nat) (hm : m ≤ maxLen) (hb : m * i.bytes ≤ 281474976710656) : AppSrc P t tn e 1 z (.int kq m) m (List.replicate m z) w := by
  have hzc : (Builtin.zeroCells z.cells m) = (List.replicate m z).toArray := by
    rw [hzs]
    unfold Builtin.zeroCells
    apply Array.ext'
    simp only [Array.toList_map, List.size_toArray, List.length_cons, List.length_nil, Nat.zero_add, Nat.mul_one, Array.toList_range]
    apply List.ext_getElem
    · simp
    · intro j h1 h2
      simp [Nat.mod_one]
  have hw : IntKind.i64.wrap (m : Int) = m := by rw [IntKind.wrap_i64]; simp only [maxLen] at hm; omega
  have h48i : ¬ (281474976710656 < (m : Int) * (i.bytes : Int)) := by rw [← Int.natCast_mul]; omega
  have hneg : ¬ ((m : Int) < 0) := by omega
  have hlen : (List.replicate m z).length = m * 1 := by simp
  have hw0 : IntKind.i64.wrap 0 = 0 := by rw [IntKind.wrap_i64]; rfl
  refine ⟨hlen, ?_, ?_, ?_⟩
  · intro ty g sLen sCap cur hg hroom hfit
    rw [Nat.mul_one] at hfit
    have hst := run_storeCells_at P g sLen e (List.replicate m z) 0 cur w hg (by simpa using hfit) (fun v hv => by rw [List.eq_of_mem_replicate hv]; exact h1)
    simp only [Nat.add_zero] at hst
    by_cases h0 : m = 0
    · subst h0
      simp at hst
      have hr0 : sLen ≤ sCap := by omega
      simp [Builtin.append_, run_underlying ht, run_underlying htn, sizeOf, typeInfo, hi, hsize, asInt, asIntOf, hw0, hr0, Addr.add_lit, hst]
    · simp [Builtin.append_, run_underlying ht, run_underlying htn, sizeOf, typeInfo, zeroValue, hi, hz, hsize, asInt, asIntOf, hw, hneg, h48i, hroom, h0, hzc, Addr.add_lit, hst]
  · rintro ty base sLen sCap olds hold hg h63 ⟨bytes, hb3, hb2⟩
    have := hb3 i hi
    subst this
    by_cases h0 : m = 0
    · subst h0
      have hn : ¬ (sLen ≤ sCap) := by omega
      have h63' : ¬ (9223372036854775807 < (sLen : Int)) := by simp only [maxLen] at h63; omega
      have h48' : ¬ (281474976710656 < Builtin.nextslicecap sLen sCap * i.bytes) := by have := growslice_fits hg hb2; simp at this; omega
      simp [Builtin.append_, run_underlying ht, run_underlying htn, sizeOf, typeInfo, zeroValue, hi, hz, hsize, asInt, asIntOf, hw0, hn, h63', h48', Question.forced, hold, newRow, grownCap]
    · have := Lib.run_append_grow_zeros (P := P) w t tn ty e i z kq kn ht htn hi hz base sLen sCap olds (by rw [hsize]; exact hold) m (by omega) (by omega) hg (by simp only [maxLen] at h63; omega) hb (growslice_fits hg hb2)
      rw [this, hzc]
      congr 4
      apply Array.ext'
      simp
  · intro ty h0
    subst h0
    simp [Builtin.append_, run_underlying ht, run_underlying htn, sizeOf, typeInfo, hi, asInt, asIntOf, hw0]

/-- THE LAW: some value, in some world. -/
theorem run_app (ty : TypeId) (base : Nat) (hi : P.info? e = some i) (hsize : i.size = size) (hzs : z.cells.size = size)
    (v : Value) (n : Nat) (xs : List Value) (hown : w.ownsRow base e size v n xs) {x : Value} {m : Nat} {news : List Value} (hs : AppSrc P t tx e size z x m news w)
    (h63 : n + m ≤ maxLen) (hbytes : (n + m) * i.bytes ≤ 140737488355328) (hbase : base ≤ w.heap.size) :
    ∃ v' w', (Builtin.append_ #[t, tx] ty #[v, x]).run P w = .ok v' w' ∧ w'.ownsRow base e size v' (n + m) (xs ++ news) ∧ w.grownBy w' v.ownBlock ∧ (v'.ownBlock = v.ownBlock ∨ v'.ownBlock = some w.heap.size) := by
  subst hsize
  have hlen : (xs ++ news).length = (n + m) * i.size := by rw [List.length_append, hown.1, hs.len, Nat.add_mul]
  have grown : ∀ (old : Nat), old < n + m → ∀ (row : Option Nat),
      (w.drew.alloc (.cells ((xs ++ news).toArray ++ Builtin.zeroCells z.cells (grownCap w (n + m) old e - (n + m))) e)).ownsRow base e i.size
        (.slice (some ⟨w.heap.size, 0, none⟩) (n + m) (grownCap w (n + m) old e)) (n + m) (xs ++ news) ∧
      w.grownBy (w.drew.alloc (.cells ((xs ++ news).toArray ++ Builtin.zeroCells z.cells (grownCap w (n + m) old e - (n + m))) e)) row := by
    intro old ho row
    have hge := grownCap_ge w (n + m) old e
    have hcm : grownCap w (n + m) old e ≤ maxLen := grownCap_le_maxLen w (n + m) old e h63
    refine ⟨⟨hlen, .inr ⟨w.heap.size, _, _, rfl, hbase, heap_alloc_new w.drew _, hge, hcm, ?_, ?_⟩⟩, ⟨rfl, rfl, rfl, by simp, fun k hk _ => Below.heap_alloc w.drew _ k (by simpa using hk)⟩⟩
    · rw [Array.size_append, List.size_toArray, hlen, size_zeroCells, hzs, ← Nat.add_mul]
      congr 1
      omega
    · rw [Array.toList_append, ← hlen]
      exact List.take_left
  rcases hown.2 with ⟨rfl, rfl⟩ | ⟨g, cap, cur, rfl, hbg, hg, hnc, hcm, hcs, htake⟩
  · have hx : xs = [] := List.eq_nil_of_length_eq_zero (by simpa using hown.1)
    subst hx
    by_cases hm : m = 0
    · have hn : news = [] := List.eq_nil_of_length_eq_zero (by rw [hs.len, hm]; simp)
      exact ⟨_, _, hs.none0 ty hm, by rw [hm, hn]; simpa using World.ownsRow_nil w base e i.size, ⟨rfl, rfl, rfl, Nat.le_refl _, fun _ _ _ => rfl⟩, .inl rfl⟩
    · have hr := hs.grow ty none 0 0 [] (by simp [Builtin.firstCells]) (by omega) h63 ⟨i.bytes, fun j hj => by rw [hi] at hj; cases hj; rfl, hbytes⟩
      have hgr := grown 0 (by omega) (Value.ownBlock (.slice none 0 0))
      exact ⟨_, _, hr, hgr.1, hgr.2, .inr rfl⟩
  · by_cases hroom : n + m ≤ cap
    · have hfit : n * i.size + news.length ≤ cur.size := by rw [hs.len, hcs, ← Nat.add_mul]; exact Nat.mul_le_mul_right _ hroom
      have hr := hs.room ty g n cap cur hg hroom hfit
      refine ⟨_, _, hr, ⟨hlen, .inr ⟨g, cap, _, rfl, hbg, setRow_heap w g cur _ e _ hg, hroom, hcm, ?_, ?_⟩⟩, ⟨rfl, rfl, rfl, by simp, fun k _ hk => setRow_other w g k _ (fun e => hk (by simp [Value.ownBlock, e]))⟩, .inl rfl⟩
      · simp only [List.size_toArray, List.length_append, List.length_take, List.length_drop, Array.length_toList]
        omega
      · rw [htake, ← hlen]
        exact List.take_left
    · have holds : ∀ j u, xs[j]? = some u → w.cell? ((⟨g, 0, none⟩ : Addr).add j) = some u := hown.cells (g := g) rfl
      have hr := hs.grow ty (some ⟨g, 0, none⟩) n cap xs (run_firstCells_some w.drew i.size n ⟨g, 0, none⟩ n cap xs hown.1 (by simpa using holds)) (by omega) h63 ⟨i.bytes, fun j hj => by rw [hi] at hj; cases hj; rfl, hbytes⟩
      have hgr := grown cap (by omega) (Value.ownBlock (.slice (some ⟨g, 0, none⟩) n cap))
      exact ⟨_, _, hr, hgr.1, hgr.2, .inr rfl⟩
end

end Go.Proofs.YtjdfemfobcjecaaGreat

/-
  outbox, plain: what an outbox holds, and what its functions make of it. No program.
-/
namespace Go.Proofs.YtjdfemfobcjecaaGreat
open Go.RowKit

def cv (c : UInt8) : Value := .int .u8 (c.toNat : Int)

structure Ob where
  limit : Nat
  data : List UInt8
  st : List UInt8
  sent : Nat
  ended : Bool
  reset : Bool

def Ob.fresh (limit : Nat) : Ob := ⟨min limit 4611686018427387903, [], [], 0, false, false⟩

structure Ob.WF (o : Ob) : Prop where
  lim : o.limit ≤ 4611686018427387903
  size : o.data.length ≤ 65536
  stl : o.st.length = o.data.length + o.ended.toNat
  sent : o.sent ≤ o.data.length
  low : ∀ c ∈ o.st, c < 4

/-- how many of a list stand so, from its head -/
def runOf (how : UInt8) : List UInt8 → Nat
  | [] => 0
  | x :: r => if x = how then runOf how r + 1 else 0
def runAt (st : List UInt8) (at_ end_ : Nat) (how : UInt8) : Nat := runOf how ((st.take end_).drop at_)

theorem runOf_le (how : UInt8) (l : List UInt8) : runOf how l ≤ l.length := by
  induction l with
  | nil => simp [runOf]
  | cons x r ih => simp only [runOf]; split <;> simp <;> omega
theorem runAt_le (st : List UInt8) (a e : Nat) (how : UInt8) : runAt st a e how ≤ e - a := by
  have := runOf_le how ((st.take e).drop a)
  simp only [List.length_drop, List.length_take] at this
  unfold runAt; omega
theorem runOf_yes {how : UInt8} : ∀ {L : List UInt8} {k : Nat}, k ≤ runOf how L → L[k]? = some how → k + 1 ≤ runOf how L
  | [], k, _, h => by simp at h
  | x :: r, 0, _, h => by simp at h; simp [runOf, h]
  | x :: r, k + 1, hk, h => by
    simp only [runOf] at hk ⊢
    split
    · rename_i hx
      rw [if_pos hx] at hk
      have := runOf_yes (how := how) (L := r) (k := k) (by omega) (by simpa using h)
      omega
    · rename_i hx
      rw [if_neg hx] at hk; omega
theorem runOf_no {how : UInt8} : ∀ {L : List UInt8} {k : Nat}, k ≤ runOf how L → L[k]? ≠ some how → runOf how L = k
  | [], k, hk, _ => by simp [runOf] at hk ⊢; omega
  | x :: r, 0, _, h => by simp at h; simp [runOf, h]
  | x :: r, k + 1, hk, h => by
    simp only [runOf] at hk ⊢
    split
    · rename_i hx
      rw [if_pos hx] at hk
      have := runOf_no (how := how) (L := r) (k := k) (by omega) (by simpa using h)
      omega
    · rename_i hx
      rw [if_neg hx] at hk; omega

/-- f, at the places from i on, n of them -/
def mapAt (f : UInt8 → UInt8) (st : List UInt8) (i n : Nat) : List UInt8 := st.mapIdx fun j x => if i ≤ j ∧ j < i + n then f x else x
theorem mapAt_length (f : UInt8 → UInt8) (st : List UInt8) (i n : Nat) : (mapAt f st i n).length = st.length := by simp [mapAt]
theorem mapAt_get (f : UInt8 → UInt8) (st : List UInt8) (i n j : Nat) : (mapAt f st i n)[j]? = st[j]?.map fun x => if i ≤ j ∧ j < i + n then f x else x := by
  simp [mapAt, List.getElem?_mapIdx]
theorem mapAt_zero (f : UInt8 → UInt8) (st : List UInt8) (i : Nat) : mapAt f st i 0 = st := by
  apply List.ext_getElem?
  intro j
  rw [mapAt_get]
  cases st[j]? with
  | none => rfl
  | some x => simp; intro h1 h2; omega
theorem mapAt_next (f : UInt8 → UInt8) (st : List UInt8) (i k : Nat) : (mapAt f st i k)[i + k]? = st[i + k]? := by
  rw [mapAt_get]
  cases st[i + k]? with
  | none => rfl
  | some x => simp
theorem mapAt_succ (f : UInt8 → UInt8) (st : List UInt8) (i k : Nat) {x : UInt8} (hx : st[i + k]? = some x) : mapAt f st i (k + 1) = (mapAt f st i k).set (i + k) (f x) := by
  have hl : i + k < st.length := (List.getElem?_eq_some_iff.1 hx).1
  apply List.ext_getElem?
  intro j
  rw [mapAt_get, List.getElem?_set, mapAt_length, mapAt_get]
  by_cases hj : i + k = j
  · subst hj
    rw [if_pos rfl, if_pos hl, hx]
    simp
  · rw [if_neg hj]
    congr 1
    funext y
    by_cases h1 : i ≤ j ∧ j < i + k
    · rw [if_pos h1, if_pos (by omega)]
    · rw [if_neg h1, if_neg (by omega)]

def Ob.room (o : Ob) : Nat := min o.limit o.data.length
def Ob.lostAt (o : Ob) : Int := Lib.indexByte (o.st.take o.data.length) 2
def Ob.first (o : Ob) : Nat × Nat :=
  if 0 ≤ o.lostAt then (o.lostAt.toNat, runAt o.st o.lostAt.toNat o.data.length 2) else (o.sent, o.room - o.sent)
def Ob.waits (o : Ob) : Bool := o.ended && (o.st[o.data.length]? == some 0 || o.st[o.data.length]? == some 2)

/-- What Next does, the place and how many once known. -/
def Ob.take (o : Ob) (i n : Nat) : Ob := { o with st := mapAt (fun _ => 1) o.st i n, sent := max o.sent (i + n) }
def Ob.takeFin (o : Ob) (i n : Nat) : Bool := (i + n == o.data.length) && (o.take i n).waits
def Ob.takeEnd (o : Ob) (i n : Nat) : Ob := if o.takeFin i n then { o.take i n with st := (o.take i n).st.set o.data.length 1 } else o.take i n
def Ob.goes (o : Ob) (n : Nat) : Bool := !(decide (0 < o.first.2) && n == 0 || o.first.2 == 0 && (!o.waits || decide (o.sent < o.data.length)))
def Ob.much (o : Ob) (most : Int) : Nat := min o.first.2 (max most 0).toNat

structure Told where
  at_ : Nat
  s : List UInt8
  fin : Bool
  is_ : Bool

def Ob.nextTold (o : Ob) (most : Int) : Told :=
  if o.reset then ⟨0, [], false, false⟩ else if o.goes (o.much most) then ⟨o.first.1, (o.data.drop o.first.1).take (o.much most), o.takeFin o.first.1 (o.much most), true⟩ else ⟨0, [], false, false⟩
def Ob.next (o : Ob) (most : Int) : Ob :=
  if o.reset then o else if o.goes (o.much most) then o.takeEnd o.first.1 (o.much most) else o

def ackOf (c : UInt8) : UInt8 := if c = 1 ∨ c = 2 then 3 else c
def loseOf (c : UInt8) : UInt8 := if c = 1 then 2 else c
/-- Acked, Lost: the piece's places, and the end. -/
def Ob.each (o : Ob) (f : UInt8 → UInt8) (at_ n : Nat) (fin : Bool) : Ob :=
  { o with st := let s1 := mapAt f o.st (min at_ o.data.length) (min n (o.data.length - min at_ o.data.length)); if fin && o.ended then mapAt f s1 o.data.length 1 else s1 }
def Ob.done (o : Ob) : Bool := o.ended && (Lib.countByte o.st 3 == o.st.length)
def Ob.blocked (o : Ob) : Bool := !o.reset && (decide (o.sent < o.data.length) && decide (o.room ≤ o.sent))
def Ob.again (o : Ob) : Bool := !o.reset && decide (0 ≤ o.lostAt)
def Ob.writeErr (o : Ob) (d : List UInt8) : Int := if o.ended || o.reset then 22 else if 65536 < o.data.length + d.length then 4 else 0
def Ob.write (o : Ob) (d : List UInt8) (fin : Bool) : Ob :=
  if o.writeErr d = 0 then { o with data := o.data ++ d, st := o.st ++ List.replicate d.length 0 ++ (if fin then [0] else []), ended := fin } else o
def Ob.raise (o : Ob) (limit : Nat) : Ob := { o with limit := max o.limit (min limit 4611686018427387903) }
def Ob.resetErr (o : Ob) : Int := if o.reset || o.done then 22 else 0
def Ob.resetNow (o : Ob) : Ob := if o.reset || o.done then o else { o with reset := true }
def Ob.resetAt (o : Ob) : Nat := if o.reset || o.done then 0 else o.sent

/-! ### the bounds stay -/
theorem Ob.WF.fresh (l : Nat) : (Ob.fresh l).WF := ⟨by simp only [Ob.fresh]; omega, by simp [Ob.fresh], by simp [Ob.fresh], by simp [Ob.fresh], by simp [Ob.fresh]⟩

theorem lostAt_lt {o : Ob} {i : Nat} (h : o.lostAt = i) : i < o.data.length ∧ o.st[i]? = some 2 := by
  have h1 := (Lib.indexByte_some h).1
  rw [List.getElem?_take] at h1
  split at h1
  · exact ⟨by assumption, h1⟩
  · cases h1

theorem Ob.WF.first {o : Ob} (h : o.WF) : o.first.1 + o.first.2 ≤ o.data.length := by
  unfold Ob.first
  split
  · rename_i h0
    obtain ⟨i, hi⟩ := Int.eq_ofNat_of_zero_le h0
    have := lostAt_lt hi
    have h2 := runAt_le o.st o.lostAt.toNat o.data.length 2
    rw [hi] at h2 ⊢
    simp only [Int.toNat_natCast] at h2 ⊢
    omega
  · have := h.sent
    unfold Ob.room
    omega

theorem mapAt_low {f : UInt8 → UInt8} (hf : ∀ c, c < 4 → f c < 4) {st : List UInt8} (h : ∀ c ∈ st, c < 4) (i n : Nat) : ∀ c ∈ mapAt f st i n, c < 4 := by
  intro c hc
  obtain ⟨j, hj⟩ := List.mem_iff_getElem?.1 hc
  rw [mapAt_get] at hj
  cases hx : st[j]? with
  | none => rw [hx] at hj; cases hj
  | some x =>
    have hm := h x (List.mem_iff_getElem?.2 ⟨j, hx⟩)
    rw [hx] at hj
    simp only [Option.map_some, Option.some.injEq] at hj
    rw [← hj]
    split
    · exact hf _ hm
    · exact hm

theorem Ob.WF.take {o : Ob} (h : o.WF) {i n : Nat} (hi : i + n ≤ o.data.length) : (o.take i n).WF := by
  refine ⟨h.lim, h.size, ?_, ?_, ?_⟩
  · simp only [Ob.take, mapAt_length]; exact h.stl
  · simp only [Ob.take]; have := h.sent; omega
  · exact mapAt_low (fun _ _ => by decide) h.low _ _
theorem Ob.WF.takeEnd {o : Ob} (h : o.WF) {i n : Nat} (hi : i + n ≤ o.data.length) : (o.takeEnd i n).WF := by
  have h1 := h.take hi
  unfold Ob.takeEnd
  split
  · refine ⟨h1.lim, h1.size, ?_, h1.sent, ?_⟩
    · simp only [List.length_set]; exact h1.stl
    · intro c hc
      rcases List.mem_or_eq_of_mem_set hc with h2 | h2
      · exact h1.low c h2
      · rw [h2]; decide
  · exact h1
theorem Ob.much_le (o : Ob) (most : Int) : o.much most ≤ o.first.2 := by unfold Ob.much; omega
theorem Ob.WF.next {o : Ob} (h : o.WF) (most : Int) : (o.next most).WF := by
  unfold Ob.next
  split
  · exact h
  · split
    · exact h.takeEnd (by have := h.first; have := o.much_le most; omega)
    · exact h
theorem Ob.WF.each {o : Ob} (h : o.WF) {f : UInt8 → UInt8} (hf : ∀ c, c < 4 → f c < 4) (a n : Nat) (fin : Bool) : (o.each f a n fin).WF := by
  refine ⟨h.lim, h.size, ?_, h.sent, ?_⟩
  · simp only [Ob.each]; split <;> simp only [mapAt_length] <;> exact h.stl
  · simp only [Ob.each]
    split
    · exact mapAt_low hf (mapAt_low hf h.low _ _) _ _
    · exact mapAt_low hf h.low _ _
theorem ack_low : ∀ c : UInt8, c < 4 → ackOf c < 4 := by intro c h; unfold ackOf; split; decide; exact h
theorem lose_low : ∀ c : UInt8, c < 4 → loseOf c < 4 := by intro c h; unfold loseOf; split; decide; exact h
theorem Ob.writeErr_zero {o : Ob} {d : List UInt8} (h : o.writeErr d = 0) : o.ended = false ∧ o.reset = false ∧ o.data.length + d.length ≤ 65536 := by
  unfold Ob.writeErr at h
  cases he : o.ended <;> cases hr : o.reset <;> simp [he, hr] at h ⊢
  exact h
theorem Ob.WF.write {o : Ob} (h : o.WF) (d : List UInt8) (fin : Bool) : (o.write d fin).WF := by
  unfold Ob.write
  split
  · rename_i h0
    obtain ⟨he, hr, hl⟩ := Ob.writeErr_zero h0
    have hs := h.stl
    rw [he] at hs
    refine ⟨h.lim, by simp only [List.length_append]; omega, ?_, ?_, ?_⟩
    · cases fin <;> simp at hs ⊢ <;> omega
    · simp only [List.length_append]; have := h.sent; omega
    · intro c hc
      simp only [List.mem_append] at hc
      rcases hc with (hc | hc) | hc
      · exact h.low c hc
      · rw [List.eq_of_mem_replicate hc]; decide
      · cases fin <;> simp at hc
        rw [hc]; decide
  · exact h
theorem Ob.WF.raise {o : Ob} (h : o.WF) (l : Nat) : (o.raise l).WF := ⟨by have := h.lim; simp only [Ob.raise]; omega, h.size, h.stl, h.sent, h.low⟩
theorem Ob.WF.resetNow {o : Ob} (h : o.WF) : o.resetNow.WF := by
  unfold Ob.resetNow
  split
  · exact h
  · exact ⟨h.lim, h.size, h.stl, h.sent, h.low⟩
end Go.Proofs.YtjdfemfobcjecaaGreat

/-
  outbox: what an outbox is in memory; run, room, waits, first.
-/
namespace Go.Proofs.YtjdfemfobcjecaaGreat
open Go.RowKit

/-- An outbox in memory: its struct lies in block b, its two slices are its own. -/
structure OBox (w : World) (b : Nat) (o : Ob) (dv sv : Value) : Prop where
  blk : Blk w b 107 #[.int .u64 (o.limit : Int), dv, sv, .int .i64 (o.sent : Int), .bool o.ended, .bool o.reset]
  dat : w.ownsRow 0 5 1 dv o.data.length (o.data.map cv)
  sta : w.ownsRow 0 5 1 sv o.st.length (o.st.map cv)
  dis : ∀ k, dv.ownBlock = some k → sv.ownBlock ≠ some k
  wf : o.WF

def ofoot (b : Nat) (dv sv : Value) : List Nat := b :: (dv.ownBlock.toList ++ sv.ownBlock.toList)

theorem OBox.mod {F : List Nat} {w w' : World} {b : Nat} {o : Ob} {dv sv : Value} (h : OBox w b o dv sv) (hm : Mod F w w') (hF : ∀ k ∈ ofoot b dv sv, k ∉ F) : OBox w' b o dv sv :=
  ⟨hm.blk h.blk (hF b (by simp [ofoot])), hm.own h.dat (fun k hk => hF k (by simp [ofoot, hk])), hm.own h.sta (fun k hk => hF k (by simp [ofoot, hk])), h.dis, h.wf⟩

theorem own_form {w : World} {e : TypeId} {sv : Value} {st : List UInt8} (hown : w.ownsRow 0 e 1 sv st.length (st.map cv)) :
    (sv = .slice none 0 0 ∧ st = []) ∨
    ∃ g cap, sv = .slice (some ⟨g, 0, none⟩) st.length cap ∧ st.length ≤ cap ∧ cap ≤ 9223372036854775807 ∧ g < w.heap.size ∧ ∀ j x, st[j]? = some x → w.cell? ⟨g, j, none⟩ = some (cv x) ∧ w.frozen? ⟨g, j, none⟩ = false := by
  rcases hown.2 with ⟨h1, h0⟩ | ⟨g, cap, cur, hv, _, hg, h1, h2, h3, h4⟩
  · exact .inl ⟨h1, List.eq_nil_of_length_eq_zero h0⟩
  · refine .inr ⟨g, cap, hv, h1, by simpa [maxLen] using h2, Blk.lt hg, fun j x hx => ⟨?_, Blk.frozen hg j⟩⟩
    have := (Blk.cell hg j)
    rw [this]
    have hj : (st.map cv)[j]? = some (cv x) := by simp [hx]
    rw [← h4, List.getElem?_take] at hj
    split at hj
    · simpa using hj
    · cases hj
theorem own_at {w : World} {e : TypeId} {sv : Value} {st : List UInt8} (hown : w.ownsRow 0 e 1 sv st.length (st.map cv)) (h : 0 < st.length) :
    ∃ g cap, sv = .slice (some ⟨g, 0, none⟩) st.length cap ∧ st.length ≤ cap ∧ cap ≤ 9223372036854775807 ∧ g < w.heap.size ∧ ∀ j x, st[j]? = some x → w.cell? ⟨g, j, none⟩ = some (cv x) ∧ w.frozen? ⟨g, j, none⟩ = false := by
  rcases own_form hown with ⟨_, h0⟩ | h1
  · rw [h0] at h; simp at h
  · exact h1

section
variable {w : World} {b : Nat} {o : Ob} {dv sv : Value}
theorem OBox.c0 (h : OBox w b o dv sv) : w.cell? ⟨b, 0, none⟩ = some (.int .u64 (o.limit : Int)) := h.blk.cell 0
theorem OBox.c1 (h : OBox w b o dv sv) : w.cell? ⟨b, 1, none⟩ = some dv := h.blk.cell 1
theorem OBox.c2 (h : OBox w b o dv sv) : w.cell? ⟨b, 2, none⟩ = some sv := h.blk.cell 2
theorem OBox.c3 (h : OBox w b o dv sv) : w.cell? ⟨b, 3, none⟩ = some (.int .i64 (o.sent : Int)) := h.blk.cell 3
theorem OBox.c4 (h : OBox w b o dv sv) : w.cell? ⟨b, 4, none⟩ = some (.bool o.ended) := h.blk.cell 4
theorem OBox.c5 (h : OBox w b o dv sv) : w.cell? ⟨b, 5, none⟩ = some (.bool o.reset) := h.blk.cell 5
end

theorem beq_u8 (x y : UInt8) : ((x.toNat : Int) == (y.toNat : Int)) = (x == y) := by
  rw [Bool.eq_iff_iff]
  simp only [beq_iff_eq, Int.natCast_inj, UInt8.toNat_inj]

set_option maxHeartbeats 400000 in
theorem run_any (w : World) (b at_ end_ : Nat) (how : UInt8) (o : Ob) (dv sv : Value) (h : OBox w b o dv sv) (hend : end_ ≤ o.st.length) (hat : at_ ≤ 70000) :
    Calls Tryz.prog 104 #[.pointer (some ⟨b, 0, none⟩), .int .i64 at_, .int .i64 end_, .int .u8 how.toNat] w fun e w' =>
      e = .returned (.int .i64 (runAt o.st at_ end_ how : Nat)) ∧ w = w' := by
  have hc2 := h.c2
  have hst : o.st.length ≤ 70000 := by have := h.wf.stl; have := h.wf.size; have := Bool.toNat_le o.ended; omega
  obtain ⟨N, hN⟩ : ∃ N, N = runAt o.st at_ end_ how := ⟨_, rfl⟩
  have HN := hide hN
  clear hN
  go_enter Tryz.func104, Tryz.ntmps104
  go_wp2
  go_loop [9] (fun n => ∃ k : Nat, k ≤ N ∧ k ≤ 70000 ∧ n = .int .i64 k) (fun n => 70000 - (intOf n).toNat)
  case atStart => exact ⟨0, by omega, by omega, rfl⟩
  case round =>
    obtain ⟨k, hk, hk', rfl⟩ := hrel
    by_cases hlt : at_ + k < end_
    · obtain ⟨g, cap, rfl, h1, h2, h3, hcell⟩ := own_at h.sta (by omega)
      obtain ⟨x, hx⟩ : ∃ x, o.st[at_ + k]? = some x := ⟨_, List.getElem?_eq_getElem (by omega)⟩
      have hc := (hcell _ _ hx).1
      by_cases hx' : x = how
      · subst hx'
        have hk2 : k + 1 ≤ N := by
          rw [HN.out]; rw [HN.out] at hk
          exact runOf_yes hk (by rw [List.getElem?_drop, List.getElem?_take, if_pos hlt]; exact hx)
        clear hx hcell h
        unfold cv at hc
        go_wp2
        go_round
        case rel => exact ⟨k + 1, by omega, by omega, by go_num⟩
        case measure => simp [intOf]; omega
      · have hk2 : N = k := by
          rw [HN.out]; rw [HN.out] at hk
          exact runOf_no hk (by rw [List.getElem?_drop, List.getElem?_take, if_pos hlt, hx]; simpa using hx')
        have hne : ((x.toNat : Int) == (how.toNat : Int)) = false := by rw [beq_u8]; simpa using hx'
        clear hx hcell h
        unfold cv at hc
        have HK := hide hk2
        clear hk2
        go_wp2
        go_ret
        exact ⟨by rw [← HN.out, HK.out]; rfl, rfl⟩
    · have hk2 : N = k := by
        rw [HN.out]; rw [HN.out] at hk
        exact runOf_no hk (by rw [List.getElem?_drop, List.getElem?_take, if_neg hlt]; simp)
      have HK := hide hk2
      clear hk2
      go_wp2
      go_ret
      exact ⟨by rw [← HN.out, HK.out]; rfl, rfl⟩

theorem OBox.dv_form {w : World} {b : Nat} {o : Ob} {dv sv : Value} (h : OBox w b o dv sv) : ∃ A c, dv = .slice A o.data.length c ∧ o.data.length ≤ c ∧ c ≤ 9223372036854775807 := by
  rcases own_form h.dat with ⟨h1, h2⟩ | ⟨g, cap, h1, h3, h4, _⟩
  · exact ⟨none, 0, by rw [h1, h2]; rfl, by rw [h2]; simp, by omega⟩
  · exact ⟨_, _, h1, h3, h4⟩
theorem OBox.sv_form {w : World} {b : Nat} {o : Ob} {dv sv : Value} (h : OBox w b o dv sv) : ∃ A c, sv = .slice A o.st.length c ∧ o.st.length ≤ c ∧ c ≤ 9223372036854775807 := by
  rcases own_form h.sta with ⟨h1, h2⟩ | ⟨g, cap, h1, h3, h4, _⟩
  · exact ⟨none, 0, by rw [h1, h2]; rfl, by rw [h2]; simp, by omega⟩
  · exact ⟨_, _, h1, h3, h4⟩

theorem ret_u64 {a b : Int} (h : a = b) : Ending.returned (.int .u64 a) = .returned (.int .u64 b) := by rw [h]

set_option maxHeartbeats 400000 in
theorem room_any (w : World) (b : Nat) (o : Ob) (dv sv : Value) (h : OBox w b o dv sv) :
    Calls Tryz.prog 105 #[.pointer (some ⟨b, 0, none⟩)] w fun e w' => e = .returned (.int .i64 (o.room : Nat)) ∧ ∃ n, w' = w.drewN n := by
  have hc0 := h.c0
  have hc1 := h.c1
  have hs := h.wf.size
  have hl := h.wf.lim
  obtain ⟨A, c, rfl, _, _⟩ := h.dv_form
  have HR : Hid (((o.room : Nat) : Int) = min (o.limit : Int) o.data.length) := hide (by unfold Ob.room; omega)
  go_enter Tryz.func105, Tryz.ntmps105
  go_wp2
  go_quiet (fail)
  go_wp2
  go_ret
  exact ⟨by rw [HR.out]; rfl, _, rfl⟩

set_option maxHeartbeats 400000 in
theorem waits_any (w : World) (b : Nat) (o : Ob) (dv sv : Value) (h : OBox w b o dv sv) :
    Calls Tryz.prog 86 #[.pointer (some ⟨b, 0, none⟩)] w fun e w' => e = .returned (.bool o.waits) ∧ ∃ n, w' = w.drewN n := by
  have hc1 := h.c1
  have hc2 := h.c2
  have hc4 := h.c4
  have hs := h.wf.size
  have hst := h.wf.stl
  obtain ⟨A, c, rfl, _, _⟩ := h.dv_form
  cases he : o.ended
  · rw [he] at hc4
    have HW : Hid (o.waits = false) := hide (by simp [Ob.waits, he])
    clear he hst
    go_enter Tryz.func86, Tryz.ntmps86
    go_wp2
    go_ret
    exact ⟨by rw [HW.out]; rfl, 0, rfl⟩
  · rw [he] at hc4 hst
    simp at hst
    obtain ⟨g, cap, rfl, h1, h2, h3, hcell⟩ := own_at h.sta (by omega)
    obtain ⟨x, hx⟩ : ∃ x, o.st[o.data.length]? = some x := ⟨_, List.getElem?_eq_getElem (by omega)⟩
    have hc := (hcell _ _ hx).1
    have HW : Hid (o.waits = (x == 0 || x == 2)) := hide (by simp [Ob.waits, he, hx])
    have e0 := beq_u8 x 0
    have e2 := beq_u8 x 2
    unfold cv at hc
    have hb : o.data.length < o.st.length := by omega
    clear hcell hx he hst h
    cases h0 : (x == 0) <;> rw [h0] at e0
    · cases h2 : (x == 2) <;> rw [h2] at e2 <;> simp only [h0, h2] at HW <;> clear h0 h2
      all_goals
        have e0' : ((x.toNat : Int) == 0) = false := e0
        first
        | have e2' : ((x.toNat : Int) == 2) = false := e2
        | have e2' : ((x.toNat : Int) == 2) = true := e2
        clear e0 e2
        go_enter Tryz.func86, Tryz.ntmps86
        go_wp2
        go_ret
        exact ⟨by rw [HW.out]; rfl, 0, rfl⟩
    · simp only [h0, Bool.true_or] at HW
      have e0' : ((x.toNat : Int) == 0) = true := e0
      clear e0 e2 h0
      go_enter Tryz.func86, Tryz.ntmps86
      go_wp2
      go_ret
      exact ⟨by rw [HW.out]; rfl, 0, rfl⟩

set_option maxHeartbeats 400000 in
set_option maxRecDepth 100000 in
/-- bytes.IndexByte, at a piece of a list of bytes from its head. -/
theorem indexByte_any (w : World) (A : Option Addr) (n c : Nat) (xs : List UInt8) (how : UInt8) (hn : xs.length = n) (hA : A = none → n = 0)
    (hc : ∀ a, A = some a → a.spot = none ∧ ∀ j x, xs[j]? = some x → w.cell? ⟨a.block, a.off + j, none⟩ = some (cv x)) :
    Calls Tryz.prog 84 #[.slice A n c, .int .u8 how.toNat] w fun e w' => e = .returned (.int .i64 (Lib.indexByte xs how)) ∧ ∃ n, w' = w.drewN n := by
  have key : (Extern.BytealgIndexByte.indexByte #[.slice A n c, .int .u8 how.toNat]).run Tryz.prog w = .ok (.int .i64 (Lib.indexByte xs how)) w := by
    rcases A with _ | ⟨g, off, spot⟩
    · have h0 := hA rfl
      rw [h0] at hn
      have hx : xs = [] := List.eq_nil_of_length_eq_zero hn
      subst hx
      rw [h0]
      exact Lib.run_indexByteNil w 0 c _
    · obtain ⟨h1, h2⟩ := hc _ rfl
      simp only at h1 h2
      subst h1
      have := Lib.run_indexByteSlice (P := Tryz.prog) w g off n c (xs.map fun x => (x.toNat : Int)) (by simpa using hn) (fun i hi => by
        obtain ⟨x, hx⟩ : ∃ x, xs[i]? = some x := ⟨_, List.getElem?_eq_getElem (by omega)⟩
        rw [h2 i x hx]
        simp [cv, List.getD_eq_getElem?_getD, hx]) how.toNat
      rw [this]
      congr 2
      have e1 : Lib.bytesOf (xs.map fun x => (x.toNat : Int)) = xs := by
        simp [Lib.bytesOf, Function.comp_def]
      rw [e1]
      simp
  go_enter Tryz.func84, Tryz.ntmps84
  go_wp2
  rw [run_callFunc_extern Tryz.func103 (by kernel_rfl) (by kernel_rfl) (by kernel_rfl) (e := Extern.BytealgIndexByte.indexByte) (by kernel_rfl), key]
  simp only [Result.andThen]
  rw [Oper.upon_value]
  go_wp2
  go_ret
  exact ⟨rfl, 0, rfl⟩
end Go.Proofs.YtjdfemfobcjecaaGreat

/-
  outbox: first, Done, Blocked, Again, Limit, Ended, Size, Sent: what only reads.
-/
namespace Go.Proofs.YtjdfemfobcjecaaGreat
open Go.RowKit

set_option maxHeartbeats 400000 in
theorem sent_any (w : World) (b : Nat) (o : Ob) (dv sv : Value) (h : OBox w b o dv sv) :
    Calls Tryz.prog 68 #[.pointer (some ⟨b, 0, none⟩)] w fun e w' => e = .returned (.int .u64 (o.sent : Nat)) ∧ ∃ n, w' = w.drewN n := by
  have hc0 := h.c3
  have h1 := h.wf.sent
  have h2 := h.wf.size
  go_enter Tryz.func68, Tryz.ntmps68
  go_wp2
  go_ret
  exact ⟨rfl, 0, rfl⟩

/-- What 'bytes.IndexByte(b.state[:len(b.data)], lost)' reads. -/
theorem OBox.piece {w : World} {b : Nat} {o : Ob} {dv sv : Value} (h : OBox w b o dv sv) :
    ∃ A c, sv = .slice A o.st.length c ∧ o.st.length ≤ c ∧ c ≤ 9223372036854775807 ∧ (A = none → o.data.length = 0) ∧
      ∀ a, A = some a → a.spot = none ∧ ∀ j x, (o.st.take o.data.length)[j]? = some x → w.cell? ⟨a.block, a.off + j, none⟩ = some (cv x) := by
  rcases own_form h.sta with ⟨h1, h2⟩ | ⟨g, cap, h1, h3, h4, _, h5⟩
  · refine ⟨none, 0, by rw [h1, h2]; rfl, by rw [h2]; simp, by omega, fun _ => ?_, fun a ha => by cases ha⟩
    have := h.wf.stl
    rw [h2] at this
    simp at this
    omega
  · refine ⟨_, _, h1, h3, h4, (fun h => by cases h), fun a ha => ?_⟩
    cases ha
    refine ⟨rfl, fun j x hx => ?_⟩
    rw [List.getElem?_take] at hx
    split at hx
    · simpa using (h5 j x hx).1
    · cases hx

/-- the state's slice, cut behind the last byte's state: as the walk spells it -/
theorem lost_call (w : World) (b : Nat) (o : Ob) (dv : Value) (g cap c : Nat) (h : OBox w b o dv (.slice (some ⟨g, 0, none⟩) o.st.length cap)) :
    Calls Tryz.prog 84 #[.slice (some ⟨g, 0, none⟩) o.data.length c, .int .u8 2] w fun e w' => e = .returned (.int .i64 o.lostAt) ∧ ∃ n, w' = w.drewN n := by
  obtain ⟨A', c'', hsv', h1, h2, h3, h4⟩ := h.piece
  cases hsv'
  exact indexByte_any w _ o.data.length c (o.st.take o.data.length) 2 (by rw [List.length_take]; have := h.wf.stl; omega) h3 h4
theorem lost_call_nil (w : World) (b : Nat) (o : Ob) (dv : Value) (c : Nat) (h : OBox w b o dv (.slice none 0 0)) :
    Calls Tryz.prog 84 #[.slice none 0 c, .int .u8 2] w fun e w' => e = .returned (.int .i64 o.lostAt) ∧ ∃ n, w' = w.drewN n := by
  obtain ⟨A', c'', hsv', h1, h2, h3, h4⟩ := h.piece
  injection hsv' with hA _ _
  have h0 := h3 hA.symm
  have := indexByte_any w none 0 c (o.st.take o.data.length) 2 (by rw [h0]; simp) (fun _ => rfl) (fun a ha => by cases ha)
  exact this

theorem OBox.drewN {w : World} {b : Nat} {o : Ob} {dv sv : Value} (h : OBox w b o dv sv) (n : Nat) : OBox (w.drewN n) b o dv sv := ⟨h.blk, h.dat, h.sta, h.dis, h.wf⟩

set_option maxHeartbeats 1000000 in
theorem first_any (w : World) (b : Nat) (o : Ob) (dv sv : Value) (h : OBox w b o dv sv) :
    Calls Tryz.prog 85 #[.pointer (some ⟨b, 0, none⟩)] w fun e w' => e = .returned (.tuple #[.int .i64 (o.first.1 : Nat), .int .i64 (o.first.2 : Nat)]) ∧ ∃ n, w' = w.drewN n := by
  have hc1 := h.c1
  have hc2 := h.c2
  have hc3 := h.c3
  have hs := h.wf.size
  have hst := h.wf.stl
  have hst2 : o.data.length ≤ o.st.length := by omega
  obtain ⟨A, c, rfl, hcl, hcm⟩ := h.dv_form
  have hroom : o.room - o.sent ≤ 65536 := by unfold Ob.room; omega
  have hroom2 : o.room ≤ 65536 := by unfold Ob.room; omega
  have hsent : o.sent ≤ 65536 := by have := h.wf.sent; omega
  have hlo : -1 ≤ o.lostAt := Lib.indexByte_ge _ _
  by_cases hL : 0 ≤ o.lostAt
  · obtain ⟨i, hi⟩ := Int.eq_ofNat_of_zero_le hL
    have hi2 := (lostAt_lt hi).1
    have hf1 : o.first.1 = i := by unfold Ob.first; rw [if_pos hL, hi]; rfl
    have hf2 : o.first.2 = runAt o.st i o.data.length 2 := by unfold Ob.first; rw [if_pos hL, hi]; rfl
    have hfst : Hid (o.first.1 = i ∧ o.first.2 = runAt o.st i o.data.length 2) := hide ⟨hf1, hf2⟩
    have Hi := hide hi
    clear hf1 hf2 hi
    rcases own_form h.sta with ⟨rfl, h0⟩ | ⟨g, cap, rfl, h3, h4, _, _⟩
    · have h6 : o.st.length = 0 := by rw [h0]; rfl
      omega
    · have h5 : o.data.length ≤ cap := by omega
      clear hst
      go_enter Tryz.func85, Tryz.ntmps85
      go_wp2
      go_quiet ((go_at_call 84; exact Calls.quiet_of (lost_call _ b o _ g cap _ (h.drewN _))))
      go_wp2_with fail
      rw [Hi.out]
      refine (run_any _ b i o.data.length 2 o _ _ (h.drewN _) hst2 (by omega)).mono ?_
      rintro e w' ⟨rfl, rfl⟩
      go_wp2
      go_ret2
      exact ⟨by rw [hfst.out.1, hfst.out.2]; rfl, _, rfl⟩
  · have hf1 : o.first.1 = o.sent := by unfold Ob.first; rw [if_neg hL]
    have hf2 : ((o.first.2 : Nat) : Int) = max ((o.room : Int) - o.sent) 0 := by unfold Ob.first; rw [if_neg hL]; show ((o.room - o.sent : Nat) : Int) = _; omega
    have hfst : Hid (o.first.1 = o.sent ∧ ((o.first.2 : Nat) : Int) = max ((o.room : Int) - o.sent) 0) := hide ⟨hf1, hf2⟩
    clear hf1 hf2
    rcases own_form h.sta with ⟨rfl, h0⟩ | ⟨g, cap, rfl, h3, h4, _, _⟩
    · have hsl : o.st.length = 0 := by rw [h0]; rfl
      have hd : o.data.length = 0 := by omega
      clear hst h0
      rw [hd] at hc1
      have Hd := hide hd
      have Hs := hide hsl
      clear hd hsl hst2 hcl
      go_enter Tryz.func85, Tryz.ntmps85
      go_wp2
      go_quiet ((go_at_call 84; exact Calls.quiet_of (lost_call_nil _ b o _ _ (h.drewN _))))
      go_wp2_with fail
      go_quiet ((go_at_call 105; exact quiet_add (room_any _ b o _ _ (h.drewN _))))
      go_wp2
      go_ret2
      exact ⟨by rw [hfst.out.1, hfst.out.2]; rfl, _, World.drewN_drewN _ _ _⟩
    · have h5 : o.data.length ≤ cap := by omega
      clear hst
      go_enter Tryz.func85, Tryz.ntmps85
      go_wp2
      go_quiet ((go_at_call 84; exact Calls.quiet_of (lost_call _ b o _ g cap _ (h.drewN _))))
      go_wp2_with fail
      go_quiet ((go_at_call 105; exact quiet_add (room_any _ b o _ _ (h.drewN _))))
      go_wp2
      go_ret2
      exact ⟨by rw [hfst.out.1, hfst.out.2]; rfl, _, World.drewN_drewN _ _ _⟩

set_option maxHeartbeats 1000000 in
theorem again_any (w : World) (b : Nat) (o : Ob) (dv sv : Value) (h : OBox w b o dv sv) :
    Calls Tryz.prog 67 #[.pointer (some ⟨b, 0, none⟩)] w fun e w' => e = .returned (.bool o.again) ∧ ∃ n, w' = w.drewN n := by
  have hc1 := h.c1
  have hc2 := h.c2
  have hc5 := h.c5
  have hs := h.wf.size
  have hst := h.wf.stl
  have hst2 : o.data.length ≤ o.st.length := by omega
  obtain ⟨A, c, rfl, hcl, hcm⟩ := h.dv_form
  have hlo : -1 ≤ o.lostAt := Lib.indexByte_ge _ _
  have HA : Hid (o.again = (!o.reset && decide (0 ≤ o.lostAt))) := hide rfl
  cases hr : o.reset
  · rw [hr] at hc5
    simp only [hr] at HA
    clear hr
    rcases own_form h.sta with ⟨rfl, h0⟩ | ⟨g, cap, rfl, h3, h4, _, _⟩
    · have hsl : o.st.length = 0 := by rw [h0]; rfl
      have hd : o.data.length = 0 := by omega
      clear hst h0
      rw [hd] at hc1
      clear hd hsl hst2 hcl
      go_enter Tryz.func67, Tryz.ntmps67
      go_wp2
      go_quiet ((go_at_call 84; exact Calls.quiet_of (lost_call_nil _ b o _ _ (h.drewN _))))
      go_wp2
      go_ret
      exact ⟨by rw [HA.out]; rfl, _, rfl⟩
    · have h5 : o.data.length ≤ cap := by omega
      clear hst
      go_enter Tryz.func67, Tryz.ntmps67
      go_wp2
      go_quiet ((go_at_call 84; exact Calls.quiet_of (lost_call _ b o _ g cap _ (h.drewN _))))
      go_wp2
      go_ret
      exact ⟨by rw [HA.out]; rfl, _, rfl⟩
  · rw [hr] at hc5
    simp only [hr] at HA
    clear hr
    go_enter Tryz.func67, Tryz.ntmps67
    go_wp2
    go_quiet (fail)
    go_wp2
    go_ret
    exact ⟨by rw [HA.out]; rfl, _, rfl⟩

end Go.Proofs.YtjdfemfobcjecaaGreat

/-
  outbox: Done, Reset, Raise, New.
-/
namespace Go.Proofs.YtjdfemfobcjecaaGreat
open Go.RowKit

set_option maxRecDepth 100000 in
set_option maxHeartbeats 1000000 in
/-- bytes.Count at a separator of one byte. -/
theorem count_any (w : World) (g cap d g2 : Nat) (xs : List UInt8) (how : UInt8) (n : Nat) (hn : xs.length = n)
    (hc : ∀ j x, xs[j]? = some x → w.cell? ⟨g, j, none⟩ = some (cv x)) (hc2 : w.cell? ⟨g2, 0, none⟩ = some (.int .u8 how.toNat)) :
    Calls Tryz.prog 77 #[.slice (some ⟨g, 0, none⟩) n cap, .slice (some ⟨g2, 0, none⟩) 1 d] w fun e w' => e = .returned (.int .i64 (Lib.countByte xs how : Nat)) ∧ w' = w := by
  have key : (Extern.BytealgCount.count #[.slice (some ⟨g, 0, none⟩) n cap, .int .u8 how.toNat]).run Tryz.prog w = .ok (.int .i64 (Lib.countByte xs how : Nat)) w := by
    have := Lib.run_countSlice (P := Tryz.prog) w g 0 n cap (xs.map fun x => (x.toNat : Int)) (by simpa using hn) (fun i hi => by
      obtain ⟨x, hx⟩ : ∃ x, xs[i]? = some x := ⟨_, List.getElem?_eq_getElem (by omega)⟩
      rw [Nat.zero_add, hc i x hx]
      simp [cv, List.getD_eq_getElem?_getD, hx]) how.toNat
    rw [this]
    congr 2
    have e1 : Lib.bytesOf (xs.map fun x => (x.toNat : Int)) = xs := by
      simp [Lib.bytesOf, Function.comp_def]
    rw [e1]
    simp
  clear hc
  go_enter Tryz.func77, Tryz.ntmps77
  go_wp2
  rw [run_callFunc_extern Tryz.func89 (by kernel_rfl) (by kernel_rfl) (by kernel_rfl) (e := Extern.BytealgCount.count) (by kernel_rfl), key]
  simp only [Result.andThen]
  rw [Oper.upon_value]
  go_wp2
  go_ret
  exact ⟨rfl, rfl⟩

set_option maxHeartbeats 1000000 in
theorem done_any (w : World) (b : Nat) (o : Ob) (dv sv : Value) (h : OBox w b o dv sv) :
    Calls Tryz.prog 50 #[.pointer (some ⟨b, 0, none⟩)] w fun e w' => e = .returned (.bool o.done) ∧ Mod [] w w' := by
  have hc2 := h.c2
  have hc4 := h.c4
  have hs := h.wf.size
  have hst := h.wf.stl
  have HD : Hid (o.done = (o.ended && (Lib.countByte o.st 3 == o.st.length))) := hide rfl
  cases he : o.ended
  · rw [he] at hc4
    simp only [he] at HD
    clear he hst
    go_enter Tryz.func50, Tryz.ntmps50
    go_wp2
    go_quiet (fail)
    go_wp2
    go_ret
    exact ⟨by rw [HD.out]; rfl, (Mod.refl _ _).drewN _⟩
  · rw [he] at hc4 hst
    simp only [he, Bool.true_and] at HD
    simp at hst
    obtain ⟨g, cap, rfl, h1, h2, h3, hcell⟩ := own_at h.sta (by omega)
    have hb : b < w.heap.size := h.blk.lt
    have hcell' : ∀ j x, o.st[j]? = some x → w.cell? ⟨g, j, none⟩ = some (cv x) := fun j x hx => (hcell j x hx).1
    have hle : Lib.countByte o.st 3 ≤ o.st.length := List.count_le_length
    obtain ⟨L, hL⟩ : ∃ L, L = o.st.length := ⟨_, rfl⟩
    obtain ⟨C, hC⟩ : ∃ C, C = Lib.countByte o.st 3 := ⟨_, rfl⟩
    rw [← hL, ← hC] at hle
    rw [← hC, ← hL] at HD
    rw [← hL] at hc2
    have HC := hide hC
    have HL := hide hL
    have Hcell := hide hcell'
    clear he hcell hcell' hst h hC h1 hL
    go_enter Tryz.func50, Tryz.ntmps50
    go_wp2
    go_region_held3 (fun w' => w'.cell? ⟨b, 4, none⟩ = some (.bool true) ∧ w'.cell? ⟨b, 2, none⟩ = some (.slice (some ⟨g, 0, none⟩) L cap))
      (first | exact ⟨hc4, hc2⟩ | exact ⟨(World.cell?_alloc_lt _ _ ⟨b, 4, none⟩ hb).trans hc4, (World.cell?_alloc_lt _ _ ⟨b, 2, none⟩ hb).trans hc2⟩)
      (first | (go_at_call 77; refine (count_any _ g cap 1 w.heap.size o.st 3 L HL.out.symm ?_ ?_).mono ?_; exact (fun j x hx => (World.cell?_alloc_lt _ _ ⟨g, j, none⟩ h3).trans (Hcell.out j x hx)); exact (World.cell?_alloc_new _ _ _ _); rintro e w' ⟨rfl, rfl⟩; rw [← HC.out]))
    go_wp2
    go_ret
    refine ⟨by rw [HD.out]; exact ret_bool (beq_nat _ _), ?_⟩
    exact (((Mod.refl _ _).drew).alloc _)

/-- What an outbox's function does to memory: it is o' then; only its own blocks, and new ones. -/
def OStep (w : World) (b : Nat) (dv sv : Value) (o' : Ob) (w' : World) : Prop :=
  ∃ dv' sv', OBox w' b o' dv' sv' ∧ Mod (ofoot b dv sv) w w' ∧ ∀ k ∈ ofoot b dv' sv', k ∈ ofoot b dv sv ∨ w.heap.size ≤ k

theorem OStep.of_mod {w w' : World} {b : Nat} {o : Ob} {dv sv : Value} (h : OBox w b o dv sv) (hm : Mod [] w w') : OStep w b dv sv o w' :=
  ⟨dv, sv, h.mod hm (by simp), hm.mono (by simp), fun _ hk => .inl hk⟩

/-- A cell of the struct is written. -/
theorem OBox.set {w : World} {b : Nat} {o o' : Ob} {dv sv : Value} (h : OBox w b o dv sv) (i : Nat) (u : Value)
    (hc : (#[.int .u64 (o.limit : Int), dv, sv, .int .i64 (o.sent : Int), .bool o.ended, .bool o.reset] : Array Value).setIfInBounds i u = #[.int .u64 (o'.limit : Int), dv, sv, .int .i64 (o'.sent : Int), .bool o'.ended, .bool o'.reset])
    (hd : o'.data = o.data) (hst : o'.st = o.st) (hwf : o'.WF) : OBox (w.setCell ⟨b, i, none⟩ u) b o' dv sv := by
  have h1 := own_blk_ne h.dat h.blk (by decide)
  have h2 := own_blk_ne h.sta h.blk (by decide)
  exact ⟨hc ▸ h.blk.set_ i u, by rw [hd]; exact own_far h.dat h1 u, by rw [hst]; exact own_far h.sta h2 u, h.dis, hwf⟩

set_option maxHeartbeats 1000000 in
theorem raise_any (w : World) (b : Nat) (o : Ob) (dv sv : Value) (h : OBox w b o dv sv) (l : Nat) (hl : l ≤ 18446744073709551615) :
    Calls Tryz.prog 32 #[.pointer (some ⟨b, 0, none⟩), .int .u64 l] w fun e w' => e = .returned (.tuple #[]) ∧ OStep w b dv sv (o.raise l) w' := by
  have hc0 := h.c0
  have hf0 := h.blk.frozen 0
  have hlim := h.wf.lim
  have H : Hid (OBox (w.setCell ⟨b, 0, none⟩ (.int .u64 (max (o.limit : Int) (min (l : Int) 4611686018427387903)))) b (o.raise l) dv sv) :=
    hide (h.set 0 _ (by
      have : ((max o.limit (min l 4611686018427387903) : Nat) : Int) = max (o.limit : Int) (min (l : Int) 4611686018427387903) := by omega
      simp only [Ob.raise, this]; rfl) rfl rfl (h.wf.raise l))
  clear h
  go_enter Tryz.func32, Tryz.ntmps32
  go_wp2
  go_end0
  exact ⟨rfl, dv, sv, H.out, (Mod.refl _ _).setCell (.inl (by simp [ofoot])) _, fun _ hk => .inl hk⟩

set_option maxHeartbeats 1000000 in
theorem reset_any (w : World) (b : Nat) (o : Ob) (dv sv : Value) (h : OBox w b o dv sv) :
    Calls Tryz.prog 59 #[.pointer (some ⟨b, 0, none⟩)] w fun e w' =>
      e = .returned (.tuple #[.int .u64 (o.resetAt : Nat), .int .i64 o.resetErr]) ∧ OStep w b dv sv o.resetNow w' := by
  have hc5 := h.c5
  have hsz := h.wf.size
  have hse := h.wf.sent
  cases hr : o.reset
  · rw [hr] at hc5
    cases hd : o.done
    · have H1 : Hid (o.resetAt = o.sent ∧ o.resetErr = 0 ∧ o.resetNow = { o with reset := true }) := hide (by simp [Ob.resetAt, Ob.resetErr, Ob.resetNow, hr, hd])
      have hcall := done_any w b o dv sv h
      rw [hd] at hcall
      have Hcall := hide hcall
      clear hcall hr hd
      go_enter Tryz.func59, Tryz.ntmps59
      go_wp2_with fail
      refine Hcall.out.mono ?_
      rintro e w1 ⟨rfl, hm⟩
      have h1 := h.mod hm (by simp)
      have hc3 := h1.c3
      have hc5' := h1.c5
      have hf5 := h1.blk.frozen 5
      have Hm := hide hm
      have H2 := hide (h1.set (o' := { o with reset := true }) 5 (.bool true) rfl rfl rfl ⟨h.wf.lim, h.wf.size, h.wf.stl, h.wf.sent, h.wf.low⟩)
      clear hm h1 h hc5
      go_wp2
      go_ret2
      refine ⟨by rw [H1.out.1, H1.out.2.1]; rfl, dv, sv, by rw [H1.out.2.2]; exact H2.out, ?_, fun _ hk => .inl hk⟩
      exact (Hm.out.mono (by simp)).setCell (.inl (by simp [ofoot])) _
    · have H1 : Hid (o.resetAt = 0 ∧ o.resetErr = 22 ∧ o.resetNow = o) := hide (by simp [Ob.resetAt, Ob.resetErr, Ob.resetNow, hd])
      have hcall := done_any w b o dv sv h
      rw [hd] at hcall
      have Hcall := hide hcall
      clear hcall hr hd
      go_enter Tryz.func59, Tryz.ntmps59
      go_wp2_with fail
      refine Hcall.out.mono ?_
      rintro e w1 ⟨rfl, hm⟩
      have H2 := hide (OStep.of_mod h hm)
      clear hm h hc5
      go_wp2
      go_ret2
      exact ⟨by rw [H1.out.1, H1.out.2.1]; rfl, by rw [H1.out.2.2]; exact H2.out⟩
  · rw [hr] at hc5
    have H1 : Hid (o.resetAt = 0 ∧ o.resetErr = 22 ∧ o.resetNow = o) := hide (by simp [Ob.resetAt, Ob.resetErr, Ob.resetNow, hr])
    have H2 := hide (OStep.of_mod h (Mod.refl [] w))
    clear hr h
    go_enter Tryz.func59, Tryz.ntmps59
    go_wp2
    go_ret2
    exact ⟨by rw [H1.out.1, H1.out.2.1]; rfl, by rw [H1.out.2.2]; exact H2.out⟩

set_option maxHeartbeats 1000000 in
theorem new_any (w : World) (l : Nat) (hl : l ≤ 18446744073709551615) :
    Calls Tryz.prog 63 #[.int .u64 l] w fun e w' =>
      ∃ b, e = .returned (.pointer (some ⟨b, 0, none⟩)) ∧ OBox w' b (Ob.fresh l) (.slice none 0 0) (.slice none 0 0) ∧ Mod [] w w' ∧ w.heap.size ≤ b := by
  go_enter Tryz.func63, Tryz.ntmps63
  go_wp2
  go_ret
  refine ⟨w.heap.size, rfl, ⟨?_, World.ownsRow_nil _ _ _ _, World.ownsRow_nil _ _ _ _, by simp [Value.ownBlock], Ob.WF.fresh l⟩, (Mod.refl _ _).alloc _, Nat.le_refl _⟩
  have := Blk.new w 107 #[.int .u64 ((Ob.fresh l).limit : Int), .slice none 0 0, .slice none 0 0, .int .i64 ((Ob.fresh l).sent : Int), .bool (Ob.fresh l).ended, .bool (Ob.fresh l).reset]
  have e : ((min l 4611686018427387903 : Nat) : Int) = min (l : Int) 4611686018427387903 := by omega
  simp only [Ob.fresh, e] at this ⊢
  exact this
end Go.Proofs.YtjdfemfobcjecaaGreat

/-
  outbox: each, Acked, Lost.
-/
namespace Go.Proofs.YtjdfemfobcjecaaGreat
open Go.RowKit

theorem setCell_same {w : World} {g j : Nat} {u : Value} {t : TypeId} {cs : Array Value} (h : Blk w g t cs) (hu : cs[j]? = some u) : w.setCell ⟨g, j, none⟩ u = w := by
  have h1 : cs.setIfInBounds j u = cs := by
    apply Array.ext_getElem?
    intro i
    rw [Array.getElem?_setIfInBounds]
    split
    · rename_i hij
      subst hij
      rw [hu]
      simp [(Array.getElem?_eq_some_iff.1 hu).1]
    · rfl
  have h2 := h.set_ j u
  rw [h1] at h2
  have e : (w.setCell ⟨g, j, none⟩ u).heap = w.heap := by
    apply Array.ext_getElem?
    intro i
    by_cases hi : i = g
    · subst hi; exact h2.trans h.symm
    · exact Below.heap_setCell w ⟨g, j, none⟩ u i hi
  show { w with heap := (w.setCell ⟨g, j, none⟩ u).heap } = w
  rw [e]

/-- A byte's state is written. -/
theorem OBox.setSt {w : World} {b : Nat} {o : Ob} {dv : Value} {g L cap : Nat} (h : OBox w b o dv (.slice (some ⟨g, 0, none⟩) L cap)) (hL : L = o.st.length) (j : Nat) (c : UInt8) (hc : c < 4) :
    OBox (w.setCell ⟨g, j, none⟩ (cv c)) b { o with st := o.st.set j c } dv (.slice (some ⟨g, 0, none⟩) L cap) := by
  subst hL
  have hne : b ≠ g := fun e => own_blk_ne h.sta h.blk (by decide) g rfl e.symm
  have h2 := (h.sta.stored j (cv c)).1
  refine ⟨h.blk.far (p := ⟨g, j, none⟩) hne _, own_far h.dat (fun k hk e => h.dis k hk (by rw [e]; rfl)) _, ?_, h.dis, ⟨h.wf.lim, h.wf.size, by simpa using h.wf.stl, h.wf.sent, ?_⟩⟩
  · simpa [List.map_set] using h2
  · intro x hx
    rcases List.mem_or_eq_of_mem_set hx with h3 | h3
    · exact h.wf.low x h3
    · rw [h3]; exact hc

theorem mapAt_out (f : UInt8 → UInt8) (st : List UInt8) (i n : Nat) (h : st.length ≤ i) : mapAt f st i n = st := by
  apply List.ext_getElem?
  intro j
  rw [mapAt_get]
  cases hx : st[j]? with
  | none => rfl
  | some x =>
    have := (List.getElem?_eq_some_iff.1 hx).1
    simp; intro _ _; omega

set_option maxHeartbeats 1000000 in
theorem lose_call (w : World) (g j : Nat) (c : UInt8) (t : TypeId) (cs : Array Value) (hb : Blk w g t cs) (hc : cs[j]? = some (cv c)) :
    Calls Tryz.prog 71 #[.pointer (some ⟨g, j, none⟩)] w fun e w' => e = .returned (.tuple #[]) ∧ w' = w.setCell ⟨g, j, none⟩ (cv (loseOf c)) := by
  have hcell : w.cell? ⟨g, j, none⟩ = some (.int .u8 c.toNat) := (hb.cell j).trans hc
  have hf := hb.frozen j
  by_cases h1 : c = 1
  · subst h1
    go_enter Tryz.func71, Tryz.ntmps71
    go_wp2
    go_end0
    exact ⟨rfl, rfl⟩
  · have hs : Hid (w = w.setCell ⟨g, j, none⟩ (cv (loseOf c))) := hide (by rw [show loseOf c = c from if_neg h1, setCell_same hb hc])
    have e1 : ((c.toNat : Int) == 1) = false := (beq_u8 c 1).trans (by simpa using h1)
    go_enter Tryz.func71, Tryz.ntmps71
    go_wp2
    go_end0
    exact ⟨rfl, hs.out⟩

set_option maxHeartbeats 1000000 in
theorem ack_call (w : World) (g j : Nat) (c : UInt8) (t : TypeId) (cs : Array Value) (hb : Blk w g t cs) (hc : cs[j]? = some (cv c)) :
    Calls Tryz.prog 74 #[.pointer (some ⟨g, j, none⟩)] w fun e w' => e = .returned (.tuple #[]) ∧ w' = w.setCell ⟨g, j, none⟩ (cv (ackOf c)) := by
  have hcell : w.cell? ⟨g, j, none⟩ = some (.int .u8 c.toNat) := (hb.cell j).trans hc
  have hf := hb.frozen j
  by_cases h1 : c = 1
  · subst h1
    go_enter Tryz.func74, Tryz.ntmps74
    go_wp2
    go_end0
    exact ⟨rfl, rfl⟩
  · by_cases h2 : c = 2
    · subst h2
      go_enter Tryz.func74, Tryz.ntmps74
      go_wp2
      go_end0
      exact ⟨rfl, rfl⟩
    · have hs : Hid (w = w.setCell ⟨g, j, none⟩ (cv (ackOf c))) := hide (by rw [show ackOf c = c from if_neg (by simp [h1, h2]), setCell_same hb hc])
      have e1 : ((c.toNat : Int) == 1) = false := (beq_u8 c 1).trans (by simpa using h1)
      have e2 : ((c.toNat : Int) == 2) = false := (beq_u8 c 2).trans (by simpa using h2)
      go_enter Tryz.func74, Tryz.ntmps74
      go_wp2
      go_end0
      exact ⟨rfl, hs.out⟩

set_option maxHeartbeats 2000000 in
theorem each_lose (w : World) (b : Nat) (o : Ob) (dv sv : Value) (h : OBox w b o dv sv) (a n : Nat) (fin : Bool) (_ha : a ≤ 18446744073709551615) (hn : n ≤ 18446744073709551615) :
    Calls Tryz.prog 70 #[.pointer (some ⟨b, 0, none⟩), .int .u64 a, .int .u64 n, .bool fin, .func (.func 71) #[] #[]] w fun e w' =>
      e = .returned (.tuple #[]) ∧ OStep w b dv sv (o.each loseOf a n fin) w' := by
  have hc1 := h.c1
  have hc4 := h.c4
  have hs := h.wf.size
  have hst := h.wf.stl
  have hst2 : o.data.length ≤ o.st.length := by omega
  obtain ⟨A, c, rfl, hcl, hcm⟩ := h.dv_form
  obtain ⟨lo, hlo⟩ : ∃ lo, lo = min a o.data.length := ⟨_, rfl⟩
  obtain ⟨m, hm⟩ : ∃ m, m = min n (o.data.length - lo) := ⟨_, rfl⟩
  have hE : Hid (o.each loseOf a n fin = { o with st := if fin && o.ended then mapAt loseOf (mapAt loseOf o.st lo m) o.data.length 1 else mapAt loseOf o.st lo m }) := hide (by rw [hm, hlo]; rfl)
  have i1 : min (a : Int) o.data.length = lo := by omega
  have i2 : min (n : Int) ((o.data.length : Int) - lo) = m := by omega
  have i3 : lo ≤ o.data.length := by omega
  have i4 : lo + m ≤ o.data.length := by omega
  clear hlo hm
  have Hst := hide hst
  clear hst
  go_enter Tryz.func70, Tryz.ntmps70
  go_wp2
  clear i1 i2
  go_loopw [13] (fun k wr => ∃ j : Nat, j ≤ m ∧ k = .int .u64 ((lo + j : Nat) : Int) ∧ OBox wr b { o with st := mapAt loseOf o.st lo j } (.slice A o.data.length c) sv ∧ Mod (ofoot b (.slice A o.data.length c) sv) w wr)
    (fun k _ => 70000 - (intOf k).toNat)
  case atStart => exact ⟨0, by omega, rfl, by rw [mapAt_zero]; exact h, Mod.refl _ _⟩
  case round =>
    obtain ⟨j, hj, rfl, hbox, hmod⟩ := hrel
    clear hc1 hc4
    have hc2 := hbox.c2
    have hc4 := hbox.c4
    simp only at hc4
    by_cases hlt : j < m
    · have hsl : (mapAt loseOf o.st lo j).length = o.st.length := mapAt_length _ _ _ _
      obtain ⟨g, cap, rfl, h1, h2, h3, hcell⟩ := own_at hbox.sta (by simp only [hsl]; omega)
      simp only [hsl] at hc2 h1 hcell hbox
      obtain ⟨x, hx⟩ : ∃ x, o.st[lo + j]? = some x := ⟨_, List.getElem?_eq_getElem (by omega)⟩
      have hx' : (mapAt loseOf o.st lo j)[lo + j]? = some x := (mapAt_next _ _ _ _).trans hx
      have hx4 : x < 4 := h.wf.low x (List.mem_iff_getElem?.2 ⟨_, hx⟩)
      have hcl2 : wr.cell? ⟨g, lo + j, none⟩ = some (cv x) := (hcell _ _ hx').1
      have hB : ∃ t cs, Blk wr g t cs ∧ cs[lo + j]? = some (cv x) := by
        obtain ⟨cur, hg, _⟩ := own_block hbox.sta
        exact ⟨_, _, hg, by rw [← Blk.cell hg]; exact hcl2⟩
      obtain ⟨t, cs, hblk, hcs⟩ := hB
      have Hnext := hide (hbox.setSt (o := { o with st := mapAt loseOf o.st lo j }) (cap := cap) hsl.symm (lo + j) (loseOf x) (lose_low x hx4))
      clear hcell hbox hx' hcl2
      have Hx := hide hx
      clear hx
      have Hmod := hide hmod
      clear hmod h
      clear hsl
      go_wp2_with (go_at_call 71; refine (lose_call _ g (lo + j) x t cs hblk hcs).mono ?_; rintro e w' ⟨rfl, rfl⟩)
      go_roundw
      case rel =>
        refine ⟨j + 1, by omega, by go_num, ?_, ?_⟩
        · have := Hnext.out
          rw [mapAt_succ _ _ _ _ Hx.out]
          rw [mapAt_length]
          exact this
        · exact (Hmod.out).setCell (.inl (by simp [ofoot, Value.ownBlock])) _
      case measure => simp [intOf]; omega
    · obtain rfl : j = m := by omega
      cases hf : (fin && o.ended)
      · have hE2 : Hid (o.each loseOf a n fin = { o with st := mapAt loseOf o.st lo j }) := hide (by rw [hE.out, hf]; rfl)
        have Hmod := hide hmod
        have Hbox := hide hbox
        clear hmod hbox h
        rcases Bool.and_eq_false_iff.1 hf with rfl | hf2
        · clear hf
          go_wp2
          go_end0
          exact ⟨rfl, _, _, by rw [hE2.out]; exact Hbox.out, Hmod.out, fun _ hk => .inl hk⟩
        · rw [hf2] at hc4
          clear hf hf2
          cases fin
          all_goals
            go_wp2
            go_end0
            exact ⟨rfl, _, _, by rw [hE2.out]; exact Hbox.out, Hmod.out, fun _ hk => .inl hk⟩
      · obtain ⟨rfl, hen⟩ := Bool.and_eq_true_iff.1 hf
        rw [hen] at hc4
        have hst3 := Hst.out
        rw [hen] at hst3
        simp only [Bool.toNat_true] at hst3
        have hsl : (mapAt loseOf o.st lo j).length = o.st.length := mapAt_length _ _ _ _
        obtain ⟨g, cap, rfl, h1, h2, h3, hcell⟩ := own_at hbox.sta (by simp only [hsl]; omega)
        simp only [hsl] at hc2 h1 hcell hbox
        obtain ⟨x, hx⟩ : ∃ x, (mapAt loseOf o.st lo j)[o.data.length]? = some x := ⟨_, List.getElem?_eq_getElem (by omega)⟩
        have hx4 : x < 4 := hbox.wf.low x (List.mem_iff_getElem?.2 ⟨_, hx⟩)
        have hcl2 : wr.cell? ⟨g, o.data.length, none⟩ = some (cv x) := (hcell _ _ hx).1
        have hB : ∃ t cs, Blk wr g t cs ∧ cs[o.data.length]? = some (cv x) := by
          obtain ⟨cur, hg, _⟩ := own_block hbox.sta
          exact ⟨_, _, hg, by rw [← Blk.cell hg]; exact hcl2⟩
        obtain ⟨t, cs, hblk, hcs⟩ := hB
        have hE2 : Hid (o.each loseOf a n true = { o with st := (mapAt loseOf o.st lo j).set o.data.length (loseOf x) }) := hide (by
          rw [hE.out, hf, if_pos rfl]
          congr 1
          have := mapAt_succ loseOf (mapAt loseOf o.st lo j) o.data.length 0 hx
          rw [this, mapAt_zero]; rfl)
        have Hnext := hide (hbox.setSt (o := { o with st := mapAt loseOf o.st lo j }) (cap := cap) hsl.symm o.data.length (loseOf x) (lose_low x hx4))
        have Hmod := hide hmod
        have hb1 : o.data.length < o.st.length := by omega
        clear hcell hbox hcl2 hmod h hx hsl hst3 hen hf hE
        go_wp2_with (go_at_call 71; refine (lose_call _ g o.data.length x t cs hblk hcs).mono ?_; rintro e w' ⟨rfl, rfl⟩)
        go_end0
        refine ⟨rfl, _, _, ?_, (Hmod.out).setCell (.inl (by simp [ofoot, Value.ownBlock])) _, fun _ hk => .inl hk⟩
        rw [hE2.out]
        rw [mapAt_length]
        exact Hnext.out

set_option maxHeartbeats 1000000 in
theorem lost_any (w : World) (b : Nat) (o : Ob) (dv sv : Value) (h : OBox w b o dv sv) (a n : Nat) (fin : Bool) (ha : a ≤ 18446744073709551615) (hn : n ≤ 18446744073709551615) :
    Calls Tryz.prog 40 #[.pointer (some ⟨b, 0, none⟩), .int .u64 a, .int .u64 n, .bool fin] w fun e w' =>
      e = .returned (.tuple #[]) ∧ OStep w b dv sv (o.each loseOf a n fin) w' := by
  go_enter Tryz.func40, Tryz.ntmps40
  go_wp2_with (go_at_call 70; refine (each_lose w b o dv sv h a n fin ha hn).mono ?_; rintro e w' ⟨rfl, hstep⟩)
  go_end0
  exact ⟨rfl, hstep⟩

set_option maxHeartbeats 2000000 in
theorem each_ack (w : World) (b : Nat) (o : Ob) (dv sv : Value) (h : OBox w b o dv sv) (a n : Nat) (fin : Bool) (_ha : a ≤ 18446744073709551615) (hn : n ≤ 18446744073709551615) :
    Calls Tryz.prog 70 #[.pointer (some ⟨b, 0, none⟩), .int .u64 a, .int .u64 n, .bool fin, .func (.func 74) #[] #[]] w fun e w' =>
      e = .returned (.tuple #[]) ∧ OStep w b dv sv (o.each ackOf a n fin) w' := by
  have hc1 := h.c1
  have hc4 := h.c4
  have hs := h.wf.size
  have hst := h.wf.stl
  have hst2 : o.data.length ≤ o.st.length := by omega
  obtain ⟨A, c, rfl, hcl, hcm⟩ := h.dv_form
  obtain ⟨lo, hlo⟩ : ∃ lo, lo = min a o.data.length := ⟨_, rfl⟩
  obtain ⟨m, hm⟩ : ∃ m, m = min n (o.data.length - lo) := ⟨_, rfl⟩
  have hE : Hid (o.each ackOf a n fin = { o with st := if fin && o.ended then mapAt ackOf (mapAt ackOf o.st lo m) o.data.length 1 else mapAt ackOf o.st lo m }) := hide (by rw [hm, hlo]; rfl)
  have i1 : min (a : Int) o.data.length = lo := by omega
  have i2 : min (n : Int) ((o.data.length : Int) - lo) = m := by omega
  have i3 : lo ≤ o.data.length := by omega
  have i4 : lo + m ≤ o.data.length := by omega
  clear hlo hm
  have Hst := hide hst
  clear hst
  go_enter Tryz.func70, Tryz.ntmps70
  go_wp2
  clear i1 i2
  go_loopw [13] (fun k wr => ∃ j : Nat, j ≤ m ∧ k = .int .u64 ((lo + j : Nat) : Int) ∧ OBox wr b { o with st := mapAt ackOf o.st lo j } (.slice A o.data.length c) sv ∧ Mod (ofoot b (.slice A o.data.length c) sv) w wr)
    (fun k _ => 70000 - (intOf k).toNat)
  case atStart => exact ⟨0, by omega, rfl, by rw [mapAt_zero]; exact h, Mod.refl _ _⟩
  case round =>
    obtain ⟨j, hj, rfl, hbox, hmod⟩ := hrel
    clear hc1 hc4
    have hc2 := hbox.c2
    have hc4 := hbox.c4
    simp only at hc4
    by_cases hlt : j < m
    · have hsl : (mapAt ackOf o.st lo j).length = o.st.length := mapAt_length _ _ _ _
      obtain ⟨g, cap, rfl, h1, h2, h3, hcell⟩ := own_at hbox.sta (by simp only [hsl]; omega)
      simp only [hsl] at hc2 h1 hcell hbox
      obtain ⟨x, hx⟩ : ∃ x, o.st[lo + j]? = some x := ⟨_, List.getElem?_eq_getElem (by omega)⟩
      have hx' : (mapAt ackOf o.st lo j)[lo + j]? = some x := (mapAt_next _ _ _ _).trans hx
      have hx4 : x < 4 := h.wf.low x (List.mem_iff_getElem?.2 ⟨_, hx⟩)
      have hcl2 : wr.cell? ⟨g, lo + j, none⟩ = some (cv x) := (hcell _ _ hx').1
      have hB : ∃ t cs, Blk wr g t cs ∧ cs[lo + j]? = some (cv x) := by
        obtain ⟨cur, hg, _⟩ := own_block hbox.sta
        exact ⟨_, _, hg, by rw [← Blk.cell hg]; exact hcl2⟩
      obtain ⟨t, cs, hblk, hcs⟩ := hB
      have Hnext := hide (hbox.setSt (o := { o with st := mapAt ackOf o.st lo j }) (cap := cap) hsl.symm (lo + j) (ackOf x) (ack_low x hx4))
      clear hcell hbox hx' hcl2
      have Hx := hide hx
      clear hx
      have Hmod := hide hmod
      clear hmod h
      clear hsl
      go_wp2_with (go_at_call 74; refine (ack_call _ g (lo + j) x t cs hblk hcs).mono ?_; rintro e w' ⟨rfl, rfl⟩)
      go_roundw
      case rel =>
        refine ⟨j + 1, by omega, by go_num, ?_, ?_⟩
        · have := Hnext.out
          rw [mapAt_succ _ _ _ _ Hx.out]
          rw [mapAt_length]
          exact this
        · exact (Hmod.out).setCell (.inl (by simp [ofoot, Value.ownBlock])) _
      case measure => simp [intOf]; omega
    · obtain rfl : j = m := by omega
      cases hf : (fin && o.ended)
      · have hE2 : Hid (o.each ackOf a n fin = { o with st := mapAt ackOf o.st lo j }) := hide (by rw [hE.out, hf]; rfl)
        have Hmod := hide hmod
        have Hbox := hide hbox
        clear hmod hbox h
        rcases Bool.and_eq_false_iff.1 hf with rfl | hf2
        · clear hf
          go_wp2
          go_end0
          exact ⟨rfl, _, _, by rw [hE2.out]; exact Hbox.out, Hmod.out, fun _ hk => .inl hk⟩
        · rw [hf2] at hc4
          clear hf hf2
          cases fin
          all_goals
            go_wp2
            go_end0
            exact ⟨rfl, _, _, by rw [hE2.out]; exact Hbox.out, Hmod.out, fun _ hk => .inl hk⟩
      · obtain ⟨rfl, hen⟩ := Bool.and_eq_true_iff.1 hf
        rw [hen] at hc4
        have hst3 := Hst.out
        rw [hen] at hst3
        simp only [Bool.toNat_true] at hst3
        have hsl : (mapAt ackOf o.st lo j).length = o.st.length := mapAt_length _ _ _ _
        obtain ⟨g, cap, rfl, h1, h2, h3, hcell⟩ := own_at hbox.sta (by simp only [hsl]; omega)
        simp only [hsl] at hc2 h1 hcell hbox
        obtain ⟨x, hx⟩ : ∃ x, (mapAt ackOf o.st lo j)[o.data.length]? = some x := ⟨_, List.getElem?_eq_getElem (by omega)⟩
        have hx4 : x < 4 := hbox.wf.low x (List.mem_iff_getElem?.2 ⟨_, hx⟩)
        have hcl2 : wr.cell? ⟨g, o.data.length, none⟩ = some (cv x) := (hcell _ _ hx).1
        have hB : ∃ t cs, Blk wr g t cs ∧ cs[o.data.length]? = some (cv x) := by
          obtain ⟨cur, hg, _⟩ := own_block hbox.sta
          exact ⟨_, _, hg, by rw [← Blk.cell hg]; exact hcl2⟩
        obtain ⟨t, cs, hblk, hcs⟩ := hB
        have hE2 : Hid (o.each ackOf a n true = { o with st := (mapAt ackOf o.st lo j).set o.data.length (ackOf x) }) := hide (by
          rw [hE.out, hf, if_pos rfl]
          congr 1
          have := mapAt_succ ackOf (mapAt ackOf o.st lo j) o.data.length 0 hx
          rw [this, mapAt_zero]; rfl)
        have Hnext := hide (hbox.setSt (o := { o with st := mapAt ackOf o.st lo j }) (cap := cap) hsl.symm o.data.length (ackOf x) (ack_low x hx4))
        have Hmod := hide hmod
        have hb1 : o.data.length < o.st.length := by omega
        clear hcell hbox hcl2 hmod h hx hsl hst3 hen hf hE
        go_wp2_with (go_at_call 74; refine (ack_call _ g o.data.length x t cs hblk hcs).mono ?_; rintro e w' ⟨rfl, rfl⟩)
        go_end0
        refine ⟨rfl, _, _, ?_, (Hmod.out).setCell (.inl (by simp [ofoot, Value.ownBlock])) _, fun _ hk => .inl hk⟩
        rw [hE2.out]
        rw [mapAt_length]
        exact Hnext.out

set_option maxHeartbeats 1000000 in
theorem acked_any (w : World) (b : Nat) (o : Ob) (dv sv : Value) (h : OBox w b o dv sv) (a n : Nat) (fin : Bool) (ha : a ≤ 18446744073709551615) (hn : n ≤ 18446744073709551615) :
    Calls Tryz.prog 44 #[.pointer (some ⟨b, 0, none⟩), .int .u64 a, .int .u64 n, .bool fin] w fun e w' =>
      e = .returned (.tuple #[]) ∧ OStep w b dv sv (o.each ackOf a n fin) w' := by
  go_enter Tryz.func44, Tryz.ntmps44
  go_wp2_with (go_at_call 70; refine (each_ack w b o dv sv h a n fin ha hn).mono ?_; rintro e w' ⟨rfl, hstep⟩)
  go_end0
  exact ⟨rfl, hstep⟩
end Go.Proofs.YtjdfemfobcjecaaGreat
