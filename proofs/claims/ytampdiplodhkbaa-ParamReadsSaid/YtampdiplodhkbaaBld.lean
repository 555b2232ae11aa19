/-
  strings.Builder: WriteString and String.
-/
import Derived.Test.YtampdiplodhkbaaProg
import Derived.Test.YtampdiplodhkbaaMem
import Derived.Test.YtampdiplodhkbaaVar
import Derived.Shelf.Strings.BuilderK
namespace Go.Proofs.Ytampdiplodhkbaa
open Go.RowKit

def bldwRen : Go.Shelf.Ren := ⟨fun | 166 => 32 | 240 => 43 | 276 => 52 | 169 => 34 | n => n, fun | 0 => 0 | 3 => 3 | 4 => 4 | 5 => 5 | 9 => 9 | 20 => 20 | 37 => 71 | 70 => 70 | 72 => 73 | 75 => 79 | 80 => 83 | 127 => 90 | 164 => 96 | n => n, fun n => n⟩
theorem bldwLays : Go.Proofs.Lays.n166 Try.prog bldwRen := {
  mixed := by kernel_rfl,
  f166 := Try.func32.trans (congrArg some (by kernel_rfl)),
  f240 := Try.func43.trans (congrArg some (by kernel_rfl)),
  f276 := Try.func52.trans (congrArg some (by kernel_rfl)),
  t0 := Try.underlying0,
  a0 := Try.isAgg0,
  z0 := Try.sizeOf0,
  v0 := Try.zeroValue0,
  t3 := Try.underlying3,
  a3 := Try.isAgg3,
  z3 := Try.sizeOf3,
  v3 := Try.zeroValue3,
  t4 := Try.underlying4,
  a4 := Try.isAgg4,
  z4 := Try.sizeOf4,
  v4 := Try.zeroValue4,
  t9 := Try.underlying9,
  a9 := Try.isAgg9,
  z9 := Try.sizeOf9,
  v9 := Try.zeroValue9,
  t20 := Try.underlying20,
  a20 := Try.isAgg20,
  z20 := Try.sizeOf20,
  v20 := Try.zeroValue20,
  t37 := Try.underlying71,
  a37 := Try.isAgg71,
  z37 := Try.sizeOf71,
  v37 := Try.zeroValue71,
  t70 := Try.underlying70,
  a70 := Try.isAgg70,
  z70 := Try.sizeOf70,
  v70 := Try.zeroValue70,
  t72 := Try.underlying73,
  a72 := Try.isAgg73,
  z72 := Try.sizeOf73,
  v72 := Try.zeroValue73,
  t75 := Try.underlying79,
  a75 := Try.isAgg79,
  z75 := Try.sizeOf79,
  v75 := Try.zeroValue79,
  t164 := Try.underlying96,
  a164 := Try.isAgg96,
  z164 := Try.sizeOf96,
  v164 := Try.zeroValue96 }
theorem bldsLays : Go.Proofs.Lays.n169 Try.prog bldwRen := {
  mixed := by kernel_rfl,
  f169 := Try.func34.trans (congrArg some (by kernel_rfl)),
  t0 := Try.underlying0,
  a0 := Try.isAgg0,
  z0 := Try.sizeOf0,
  v0 := Try.zeroValue0,
  t3 := Try.underlying3,
  a3 := Try.isAgg3,
  z3 := Try.sizeOf3,
  v3 := Try.zeroValue3,
  t9 := Try.underlying9,
  a9 := Try.isAgg9,
  z9 := Try.sizeOf9,
  v9 := Try.zeroValue9,
  t37 := Try.underlying71,
  a37 := Try.isAgg71,
  z37 := Try.sizeOf71,
  v37 := Try.zeroValue71,
  t70 := Try.underlying70,
  a70 := Try.isAgg70,
  z70 := Try.sizeOf70,
  v70 := Try.zeroValue70,
  t72 := Try.underlying73,
  a72 := Try.isAgg73,
  z72 := Try.sizeOf73,
  v72 := Try.zeroValue73,
  t127 := Try.underlying90,
  a127 := Try.isAgg90,
  z127 := Try.sizeOf90,
  v127 := Try.zeroValue90 }

theorem bldX : Go.Proofs.Builder.Extra Try.prog bldwRen := {
  sizeBuilder := by kernel_rfl,
  liesBuilder := by kernel_rfl,
  t5 := Try.underlying5,
  a5 := Try.isAgg5,
  z5 := Try.sizeOf5,
  v5 := Try.zeroValue5,
  infoByte := by kernel_rfl,
  cellsByte := by kernel_rfl,
  sizeByte := by kernel_rfl,
  neB5 := by decide }

/-- a builder that holds the bytes l -/
def BldO (w : World) (B b : Nat) (l : List UInt8) : Prop := Lib.IsBuilderF 73 5 B b (l.map bv) w
theorem BldO.new (w : World) (B : Nat) (hB : B ≤ w.heap.size) : BldO (w.alloc (.cells #[.pointer none, .slice none 0 0] 73)) B w.heap.size [] :=
  .inl (Lib.BuilderAtF.of (T := 73) (e := 5) (p := .pointer none) (bs := []) ⟨hB, _, heap_alloc_new w _, World.ownsRow_nil _ _ _ _, by simp [Value.ownBlock]⟩)

/-- w' is w, but for bytes, the builder b, and new blocks -/
structure BStep (B b : Nat) (w w' : World) : Prop where
  below : Below B w w'
  others : Lib.OthersKept 5 (some b) w w'
theorem BStep.blk {B b g : Nat} {w w' : World} {t : TypeId} {cs : Array Value} (h : BStep B b w w') (hb : Blk w g t cs) (hg : g ≠ b) (ht : t ≠ 5) : Blk w' g t cs :=
  h.others g _ hb (fun e => hg (Option.some.inj e)) (fun c fz e => by cases e; exact ht rfl)
theorem BStep.mod {B b : Nat} {W w w' : World} (h : BStep B b w w') (hm : Mod [] W w) (hB : W.heap.size ≤ B) : Mod [] W w' :=
  ⟨h.below.os.trans hm.os, h.below.tape.trans hm.tape, h.below.output.trans hm.output, Nat.le_trans hm.size h.below.size, fun k hk _ =>
    (h.below.block k (by omega)).trans (hm.block k hk (by simp))⟩

theorem BldO.fresh {w : World} {B b : Nat} (h : Blk w b 73 #[.pointer none, .slice none 0 0]) (hB : B ≤ b) : BldO w B b [] :=
  .inl (Lib.BuilderAtF.of (T := 73) (e := 5) (p := .pointer none) (bs := []) ⟨hB, _, h, World.ownsRow_nil _ _ _ _, by simp [Value.ownBlock]⟩)
theorem BldO.mod {F : List Nat} {w w' : World} {B b : Nat} {l : List UInt8} (h : BldO w B b l) (hm : Mod F w w') (hF : ∀ g ∈ F, g ≠ b ∧ ∀ cs fz, w.heap[g]? ≠ some (.cells cs 5 fz)) : BldO w' B b l := by
  have key : ∀ p, Lib.BuilderAtF 73 5 B b p (l.map bv) w → Lib.BuilderAtF 73 5 B b p (l.map bv) w' := by
    rintro p ⟨hB, v, hb, ⟨ho1, ho2⟩, hne⟩
    refine ⟨hB, v, (hm.block b (Array.getElem?_eq_some_iff.1 hb).1 (fun hf => (hF b hf).1 rfl)).trans hb, ⟨ho1, ?_⟩, hne⟩
    rcases ho2 with h0 | ⟨g, cap, cur, fz, hv, hg, hh, rest⟩
    · exact .inl h0
    · exact .inr ⟨g, cap, cur, fz, hv, hg, (hm.block g (Array.getElem?_eq_some_iff.1 hh).1 (fun hf => (hF g hf).2 _ _ hh)).trans hh, rest⟩
  rcases h with h | h
  · exact .inl (key _ h)
  · exact .inr (key _ h)
theorem BldO.lt {w : World} {B b : Nat} {l : List UInt8} (h : BldO w B b l) : b < w.heap.size := by
  rcases h with ⟨_, v, hb, _⟩ | ⟨_, v, hb, _⟩ <;> exact (Array.getElem?_eq_some_iff.1 hb).1
theorem BldO.blk {w : World} {B b : Nat} {l : List UInt8} (h : BldO w B b l) : ∃ cs, Blk w b 73 cs := by
  rcases h with ⟨_, v, hb, _⟩ | ⟨_, v, hb, _⟩ <;> exact ⟨_, hb⟩
theorem BStep.own {B b base size n : Nat} {w w' : World} {e : TypeId} {v : Value} {xs : List Value} (h : BStep B b w w') (ho : w.ownsRow base e size v n xs) (he : e ≠ 5) (hb : ∃ cs, Blk w b 73 cs) (he2 : e ≠ 73) : w'.ownsRow base e size v n xs := by
  refine ⟨ho.1, ?_⟩
  rcases ho.2 with h0 | ⟨g, cap, cur, hv, hg, hh, r⟩
  · exact .inl h0
  · obtain ⟨cs, hb⟩ := hb
    exact .inr ⟨g, cap, cur, hv, hg, h.blk (t := e) hh (Blk.ne_ (t := e) hh hb he2) he, r⟩
theorem BStep.get {B b k : Nat} {w w' : World} {es : Array MapEntry} {c : Nat} (h : BStep B b w w') (hk : w.heap[k]? = some (.map es c)) (hb : k ≠ b) : w'.heap[k]? = some (.map es c) :=
  h.others k _ hk (fun e => hb (Option.some.inj e)) (fun _ _ e => by cases e)

theorem bwrite_any (w : World) (B b : Nat) (l : List UInt8) (s : ByteArray) (h : BldO w B b l) (hl : l.length + s.size ≤ 140737488355328) (hB : B ≤ w.heap.size) :
    Calls Try.prog 32 #[.pointer (some ⟨b, 0, none⟩), .string s] w fun e w' => e = .returned (.tuple #[.int .i64 s.size, .nilIface]) ∧ BldO w' B b (l ++ s.data.toList) ∧ BStep B b w w' := by
  have hc : Calls Try.prog 32 #[.pointer (some ⟨b, 0, none⟩), .string s] w _ := Any.Builder_WriteString_k bldwLays bldX B b (l.map bv) s w h (by simpa using hl) hB
  refine hc.mono ?_
  rintro e w' ⟨rfl, h1, h2, h3⟩
  refine ⟨rfl, ?_, ⟨h2, h3⟩⟩
  refine .inr ?_
  rw [List.map_append]
  exact h1
theorem bstring_any (w : World) (B b : Nat) (l : List UInt8) (h : BldO w B b l) (hB : B ≤ w.heap.size) :
    Calls Try.prog 34 #[.pointer (some ⟨b, 0, none⟩)] w fun e w' => e = .returned (str l) ∧ BStep B b w w' := by
  have hc : Calls Try.prog 34 #[.pointer (some ⟨b, 0, none⟩)] w _ := Any.Builder_String_any_k bldsLays bldX B b l w h hB
  refine hc.mono ?_
  rintro e w' ⟨rfl, h1, h2, h3⟩
  exact ⟨rfl, ⟨h2, h3⟩⟩
end Go.Proofs.Ytampdiplodhkbaa
