/-
  json: strings.Builder: WriteString, WriteByte and String.
-/
import Derived.Test.YtkbpndohpkcikabDoorJsMem
import Derived.Shelf.Strings.BuilderK
namespace Go.Proofs.YtkbpndohpkcikabDoor
open Go.RowKit

def bldwRen : Go.Shelf.Ren := ⟨fun | 166 => 23 | 167 => 26 | 240 => 34 | 276 => 41 | 169 => 14 | n => n, fun | 0 => 0 | 3 => 3 | 4 => 4 | 5 => 5 | 9 => 9 | 20 => 20 | 37 => 39 | 70 => 38 | 72 => 41 | 75 => 55 | 80 => 43 | 127 => 61 | 164 => 75 | n => n, fun n => n⟩
theorem bldwLays : Go.Proofs.Lays.n166 Tryd.prog bldwRen := {
  mixed := by kernel_rfl,
  f166 := Tryd.func23.trans (congrArg some (by kernel_rfl)),
  f240 := Tryd.func34.trans (congrArg some (by kernel_rfl)),
  f276 := Tryd.func41.trans (congrArg some (by kernel_rfl)),
  t0 := Tryd.underlying0,
  a0 := Tryd.isAgg0,
  z0 := Tryd.sizeOf0,
  v0 := Tryd.zeroValue0,
  t3 := Tryd.underlying3,
  a3 := Tryd.isAgg3,
  z3 := Tryd.sizeOf3,
  v3 := Tryd.zeroValue3,
  t4 := Tryd.underlying4,
  a4 := Tryd.isAgg4,
  z4 := Tryd.sizeOf4,
  v4 := Tryd.zeroValue4,
  t9 := Tryd.underlying9,
  a9 := Tryd.isAgg9,
  z9 := Tryd.sizeOf9,
  v9 := Tryd.zeroValue9,
  t20 := Tryd.underlying20,
  a20 := Tryd.isAgg20,
  z20 := Tryd.sizeOf20,
  v20 := Tryd.zeroValue20,
  t37 := Tryd.underlying39,
  a37 := Tryd.isAgg39,
  z37 := Tryd.sizeOf39,
  v37 := Tryd.zeroValue39,
  t70 := Tryd.underlying38,
  a70 := Tryd.isAgg38,
  z70 := Tryd.sizeOf38,
  v70 := Tryd.zeroValue38,
  t72 := Tryd.underlying41,
  a72 := Tryd.isAgg41,
  z72 := Tryd.sizeOf41,
  v72 := Tryd.zeroValue41,
  t75 := Tryd.underlying55,
  a75 := Tryd.isAgg55,
  z75 := Tryd.sizeOf55,
  v75 := Tryd.zeroValue55,
  t164 := Tryd.underlying75,
  a164 := Tryd.isAgg75,
  z164 := Tryd.sizeOf75,
  v164 := Tryd.zeroValue75 }
theorem bldsLays : Go.Proofs.Lays.n169 Tryd.prog bldwRen := {
  mixed := by kernel_rfl,
  f169 := Tryd.func14.trans (congrArg some (by kernel_rfl)),
  t0 := Tryd.underlying0,
  a0 := Tryd.isAgg0,
  z0 := Tryd.sizeOf0,
  v0 := Tryd.zeroValue0,
  t3 := Tryd.underlying3,
  a3 := Tryd.isAgg3,
  z3 := Tryd.sizeOf3,
  v3 := Tryd.zeroValue3,
  t9 := Tryd.underlying9,
  a9 := Tryd.isAgg9,
  z9 := Tryd.sizeOf9,
  v9 := Tryd.zeroValue9,
  t37 := Tryd.underlying39,
  a37 := Tryd.isAgg39,
  z37 := Tryd.sizeOf39,
  v37 := Tryd.zeroValue39,
  t70 := Tryd.underlying38,
  a70 := Tryd.isAgg38,
  z70 := Tryd.sizeOf38,
  v70 := Tryd.zeroValue38,
  t72 := Tryd.underlying41,
  a72 := Tryd.isAgg41,
  z72 := Tryd.sizeOf41,
  v72 := Tryd.zeroValue41,
  t127 := Tryd.underlying61,
  a127 := Tryd.isAgg61,
  z127 := Tryd.sizeOf61,
  v127 := Tryd.zeroValue61 }

theorem bldbLays : Go.Proofs.Lays.n167 Tryd.prog bldwRen := {
  mixed := by kernel_rfl,
  f167 := Tryd.func26.trans (congrArg some (by kernel_rfl)),
  f240 := Tryd.func34.trans (congrArg some (by kernel_rfl)),
  f276 := Tryd.func41.trans (congrArg some (by kernel_rfl)),
  t0 := Tryd.underlying0,
  a0 := Tryd.isAgg0,
  z0 := Tryd.sizeOf0,
  v0 := Tryd.zeroValue0,
  t4 := Tryd.underlying4,
  a4 := Tryd.isAgg4,
  z4 := Tryd.sizeOf4,
  v4 := Tryd.zeroValue4,
  t5 := Tryd.underlying5,
  a5 := Tryd.isAgg5,
  z5 := Tryd.sizeOf5,
  v5 := Tryd.zeroValue5,
  t9 := Tryd.underlying9,
  a9 := Tryd.isAgg9,
  z9 := Tryd.sizeOf9,
  v9 := Tryd.zeroValue9,
  t20 := Tryd.underlying20,
  a20 := Tryd.isAgg20,
  z20 := Tryd.sizeOf20,
  v20 := Tryd.zeroValue20,
  t37 := Tryd.underlying39,
  a37 := Tryd.isAgg39,
  z37 := Tryd.sizeOf39,
  v37 := Tryd.zeroValue39,
  t70 := Tryd.underlying38,
  a70 := Tryd.isAgg38,
  z70 := Tryd.sizeOf38,
  v70 := Tryd.zeroValue38,
  t72 := Tryd.underlying41,
  a72 := Tryd.isAgg41,
  z72 := Tryd.sizeOf41,
  v72 := Tryd.zeroValue41,
  t75 := Tryd.underlying55,
  a75 := Tryd.isAgg55,
  z75 := Tryd.sizeOf55,
  v75 := Tryd.zeroValue55,
  t164 := Tryd.underlying75,
  a164 := Tryd.isAgg75,
  z164 := Tryd.sizeOf75,
  v164 := Tryd.zeroValue75 }

theorem bldX : Go.Proofs.Builder.Extra Tryd.prog bldwRen := {
  sizeBuilder := by kernel_rfl,
  liesBuilder := by kernel_rfl,
  t5 := Tryd.underlying5,
  a5 := Tryd.isAgg5,
  z5 := Tryd.sizeOf5,
  v5 := Tryd.zeroValue5,
  infoByte := by kernel_rfl,
  cellsByte := by kernel_rfl,
  sizeByte := by kernel_rfl,
  neB5 := by decide }

/-- a builder that holds the bytes l -/
def BldO (w : World) (B b : Nat) (l : List UInt8) : Prop := Lib.IsBuilderF 41 5 B b (l.map bv) w
theorem BldO.new (w : World) (B : Nat) (hB : B ≤ w.heap.size) : BldO (w.alloc (.cells #[.pointer none, .slice none 0 0] 41)) B w.heap.size [] :=
  .inl (Lib.BuilderAtF.of (T := 41) (e := 5) (p := .pointer none) (bs := []) ⟨hB, _, heap_alloc_new w _, World.ownsRow_nil _ _ _ _, by simp [Value.ownBlock]⟩)

/-- w' is w, but for bytes, the builder b, and new blocks -/
structure BStep (B b : Nat) (w w' : World) : Prop where
  below : Below B w w'
  others : Lib.OthersKept 5 (some b) w w'
theorem BStep.blk {B b g : Nat} {w w' : World} {t : TypeId} {cs : Array Value} (h : BStep B b w w') (hb : Blk w g t cs) (hg : g ≠ b) (ht : t ≠ 5) : Blk w' g t cs :=
  h.others g _ hb (fun e => hg (Option.some.inj e)) (fun c fz e => by cases e; exact ht rfl)
theorem BStep.mod {B b : Nat} {W w w' : World} (h : BStep B b w w') (hm : Mod [] W w) (hB : W.heap.size ≤ B) : Mod [] W w' :=
  ⟨h.below.os.trans hm.os, h.below.tape.trans hm.tape, h.below.output.trans hm.output, Nat.le_trans hm.size h.below.size, fun k hk _ =>
    (h.below.block k (by omega)).trans (hm.block k hk (by simp))⟩

theorem BldO.fresh {w : World} {B b : Nat} (h : Blk w b 41 #[.pointer none, .slice none 0 0]) (hB : B ≤ b) : BldO w B b [] :=
  .inl (Lib.BuilderAtF.of (T := 41) (e := 5) (p := .pointer none) (bs := []) ⟨hB, _, h, World.ownsRow_nil _ _ _ _, by simp [Value.ownBlock]⟩)
theorem BldO.mod {F : List Nat} {w w' : World} {B b : Nat} {l : List UInt8} (h : BldO w B b l) (hm : Mod F w w') (hF : ∀ g ∈ F, g ≠ b ∧ ∀ cs fz, w.heap[g]? ≠ some (.cells cs 5 fz)) : BldO w' B b l := by
  have key : ∀ p, Lib.BuilderAtF 41 5 B b p (l.map bv) w → Lib.BuilderAtF 41 5 B b p (l.map bv) w' := by
    rintro p ⟨hB, v, hb, ⟨ho1, ho2⟩, hne⟩
    refine ⟨hB, v, (hm.block b (Array.getElem?_eq_some_iff.1 hb).1 (fun hf => (hF b hf).1 rfl)).trans hb, ⟨ho1, ?_⟩, hne⟩
    rcases ho2 with h0 | ⟨g, cap, cur, fz, hv, hg, hh, rest⟩
    · exact .inl h0
    · exact .inr ⟨g, cap, cur, fz, hv, hg, (hm.block g (Array.getElem?_eq_some_iff.1 hh).1 (fun hf => (hF g hf).2 _ _ hh)).trans hh, rest⟩
  rcases h with h | h
  · exact .inl (key _ h)
  · exact .inr (key _ h)
theorem BldO.lt {w : World} {B b : Nat} {l : List UInt8} (h : BldO w B b l) : b < w.heap.size := by
  rcases h with ⟨_, v, hb, _⟩ | ⟨_, v, hb, _⟩ <;> exact (Array.getElem?_eq_some_iff.1 hb).1
theorem BldO.blk {w : World} {B b : Nat} {l : List UInt8} (h : BldO w B b l) : ∃ cs, Blk w b 41 cs := by
  rcases h with ⟨_, v, hb, _⟩ | ⟨_, v, hb, _⟩ <;> exact ⟨_, hb⟩
theorem BStep.own {B b base size n : Nat} {w w' : World} {e : TypeId} {v : Value} {xs : List Value} (h : BStep B b w w') (ho : w.ownsRow base e size v n xs) (he : e ≠ 5) (hb : ∃ cs, Blk w b 41 cs) (he2 : e ≠ 41) : w'.ownsRow base e size v n xs := by
  refine ⟨ho.1, ?_⟩
  rcases ho.2 with h0 | ⟨g, cap, cur, hv, hg, hh, r⟩
  · exact .inl h0
  · obtain ⟨cs, hb⟩ := hb
    exact .inr ⟨g, cap, cur, hv, hg, h.blk (t := e) hh (Blk.ne_ (t := e) hh hb he2) he, r⟩
theorem BStep.get {B b k : Nat} {w w' : World} {es : Array MapEntry} {c : Nat} (h : BStep B b w w') (hk : w.heap[k]? = some (.map es c)) (hb : k ≠ b) : w'.heap[k]? = some (.map es c) :=
  h.others k _ hk (fun e => hb (Option.some.inj e)) (fun _ _ e => by cases e)

theorem bwrite_any (w : World) (B b : Nat) (l : List UInt8) (s : ByteArray) (h : BldO w B b l) (hl : l.length + s.size ≤ 140737488355328) (hB : B ≤ w.heap.size) :
    Calls Tryd.prog 23 #[.pointer (some ⟨b, 0, none⟩), .string s] w fun e w' => e = .returned (.tuple #[.int .i64 s.size, .nilIface]) ∧ BldO w' B b (l ++ s.data.toList) ∧ BStep B b w w' := by
  have hc : Calls Tryd.prog 23 #[.pointer (some ⟨b, 0, none⟩), .string s] w _ := Any.Builder_WriteString_k bldwLays bldX B b (l.map bv) s w h (by simpa using hl) hB
  refine hc.mono ?_
  rintro e w' ⟨rfl, h1, h2, h3⟩
  refine ⟨rfl, ?_, ⟨h2, h3⟩⟩
  refine .inr ?_
  rw [List.map_append]
  exact h1
theorem bbyte_any (w : World) (B b : Nat) (l : List UInt8) (c : UInt8) (h : BldO w B b l) (hl : l.length + 1 ≤ 140737488355328) (hB : B ≤ w.heap.size) :
    Calls Tryd.prog 26 #[.pointer (some ⟨b, 0, none⟩), .int .u8 (c.toNat : Int)] w fun e w' => e = .returned .nilIface ∧ BldO w' B b (l ++ [c]) ∧ BStep B b w w' := by
  have hc : Calls Tryd.prog 26 #[.pointer (some ⟨b, 0, none⟩), .int .u8 (c.toNat : Int)] w _ := Any.Builder_WriteByte_k bldbLays bldX B b (l.map bv) (c.toNat : Int) w h (by simpa using hl) hB
  refine hc.mono ?_
  rintro e w' ⟨rfl, h1, h2, h3⟩
  refine ⟨rfl, ?_, ⟨h2, h3⟩⟩
  refine .inr ?_
  rw [List.map_append]
  exact h1
theorem bstring_any (w : World) (B b : Nat) (l : List UInt8) (h : BldO w B b l) (hB : B ≤ w.heap.size) :
    Calls Tryd.prog 14 #[.pointer (some ⟨b, 0, none⟩)] w fun e w' => e = .returned (str l) ∧ BStep B b w w' := by
  have hc : Calls Tryd.prog 14 #[.pointer (some ⟨b, 0, none⟩)] w _ := Any.Builder_String_any_k bldsLays bldX B b l w h hB
  refine hc.mono ?_
  rintro e w' ⟨rfl, h1, h2, h3⟩
  exact ⟨rfl, ⟨h2, h3⟩⟩
end Go.Proofs.YtkbpndohpkcikabDoor
