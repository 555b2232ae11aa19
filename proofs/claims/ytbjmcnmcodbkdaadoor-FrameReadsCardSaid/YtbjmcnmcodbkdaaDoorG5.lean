/-
  Contracts and plain laws that the proofs of this seat share, part 5 of 8: FrAck, FrWay, FrParts, FrAsks, FrLen, FrIter, FrIterS, FrWrite, FrWrite2, FrSize.
-/
import Derived.Test.YtbjmcnmcodbkdaaDoorG4
import Derived.RangeFuncBox
import Derived.RangeFuncLeaves
import Derived.OwnWalkIn
import Derived.TacticsInMore
import Derived.LoopNIn
import Derived.LoopIn
import Derived.RangeFuncNested
import Derived.RangeFuncBound
import Derived.RangeFuncCalls
import Derived.Shelf.Abstract
import Derived.Shelf.RegionOpen

/-
  frames: wayOf at an acknowledgement.
-/
namespace Go.Proofs.YtbjmcnmcodbkdaaDoor
open Go.RowKit

/-- the frame stands in g, and nothing that was there has changed -/
def AX (w : World) (g : Nat) (cs : Array Value) (w' : World) : Prop := Blk w' g 26 cs ∧ Mod [] w w'
def AXr (w : World) (g : Nat) (cs : Array Value) (rb : Nat) (rs : Array Value) (w' : World) : Prop := AX w g cs w' ∧ Blk w' rb 47 rs
theorem AX.mod {w w' w'' : World} {g : Nat} {cs : Array Value} (h : AX w g cs w') (m : Mod [] w' w'') : AX w g cs w'' := ⟨m.blk h.1 (by simp), h.2.trans m (by simp)⟩
theorem AX.bld {w w' w'' : World} {g b : Nat} {cs : Array Value} (h : AX w g cs w') (m : BStep w.heap.size b w' w'') (hg : g ≠ b) : AX w g cs w'' := ⟨m.blk h.1 hg (by decide), m.mod h.2 (Nat.le_refl _)⟩
theorem AXr.mod {w w' w'' : World} {g rb : Nat} {cs rs : Array Value} (h : AXr w g cs rb rs w') (m : Mod [] w' w'') : AXr w g cs rb rs w'' := ⟨h.1.mod m, m.blk h.2 (by simp)⟩
theorem AXr.bld {w w' w'' : World} {g b rb : Nat} {cs rs : Array Value} (h : AXr w g cs rb rs w') (m : BStep w.heap.size b w' w'') (hg : g ≠ b) (hr : rb ≠ b) : AXr w g cs rb rs w'' := ⟨h.1.bld m hg, m.blk h.2 hr (by decide)⟩
theorem ak_call {P : Program} {fn : Nat} {args : Array Value} {v : Value} {X : World → Prop} {w' : World} {B b : Nat} {l : List UInt8} (hX : ∀ w' w'', X w' → Mod [] w' w'' → X w'')
    (hc : ∀ w', Calls P fn args w' fun e w'' => e = .returned v ∧ Mod [] w' w'') (h : X w') (hB : BldO w' B b l) :
    Calls P fn args w' fun e w'' => e = .returned v ∧ X w'' ∧ BldO w'' B b l := by
  refine (hc w').mono ?_
  rintro e w'' ⟨rfl, m⟩
  exact ⟨rfl, hX _ _ h m, hB.mod m (by simp)⟩
theorem ak_write {X : World → Prop} {w w' : World} {b : Nat} {l : List UInt8} (s : ByteArray) (hX : ∀ w' w'', X w' → BStep w.heap.size b w' w'' → X w'') (hs : ∀ w', X w' → w.heap.size ≤ w'.heap.size)
    (h : X w') (hB : BldO w' w.heap.size b l) (hl : l.length + s.size ≤ 140737488355328) :
    Calls Tryd.prog 30 #[.pointer (some ⟨b, 0, none⟩), .string s] w' fun e w'' => e = .returned (.tuple #[.int .i64 s.size, .nilIface]) ∧ X w'' ∧ BldO w'' w.heap.size b (l ++ s.data.toList) := by
  refine (bwrite_any w' w.heap.size b l s hB hl (hs _ h)).mono ?_
  rintro e w'' ⟨rfl, h1, h2⟩
  exact ⟨rfl, hX _ _ h h2, h1⟩

set_option maxRecDepth 100000 in
set_option maxHeartbeats 2000000 in
theorem wayA2_any (w : World) (A : Option Addr) (n c : Nat) (f : Fr) (hk : f.kind = 2) (hr : Rngs w A n f.list) (hro : rngs f.list = true) :
    Calls Tryd.prog 54 #[fval A n c f] w fun e w' => e = .returned (str (fway f)) ∧ Mod [] w w' := by
  unfold rngs at hro
  simp only [Bool.and_eq_true, decide_eq_true_eq] at hro
  obtain ⟨hok, hl1, hl64⟩ := hro
  have hall := rngOk_all f.list none hok
  have hln := hr.1
  obtain ⟨gl, o, x1, rfl, hgl, x2, x3⟩ := hr.at_ (i := 0) (by omega)
  clear x2 x3 x1
  have hcell : ∀ i, i < n → w.cell? ⟨gl, o + i * 2, none⟩ = some (.int .u64 ((f.list.getD i (0, 0)).1 : Nat)) ∧ w.cell? ⟨gl, o + i * 2 + 1, none⟩ = some (.int .u64 ((f.list.getD i (0, 0)).2 : Nat)) := fun i hi => by
    obtain ⟨g', o', hl, he, _, c0, c1⟩ := hr.at_ hi
    cases he
    rw [List.getD_eq_getElem?_getD, List.getElem?_eq_getElem hl]
    exact ⟨c0, c1⟩
  have hall2 : ∀ i, i < n → (f.list.getD i (0, 0)).1 ≤ (f.list.getD i (0, 0)).2 ∧ (f.list.getD i (0, 0)).2 < 4611686018427387904 ∧ (0 < i → (f.list.getD i (0, 0)).2 + 2 ≤ (f.list.getD (i - 1) (0, 0)).1) := fun i hi => by
    have hl : i < f.list.length := by omega
    have h := hall i hl
    rw [List.getD_eq_getElem?_getD, List.getElem?_eq_getElem hl]
    refine ⟨h.1, h.2.1, fun h0 => ?_⟩
    rw [List.getD_eq_getElem?_getD, List.getElem?_eq_getElem (by omega : i - 1 < f.list.length)]
    exact h.2.2 h0
  have hstep : ∀ j, ackP f.list (j + 1) = ackP f.list j ++ ((if 0 < j then vputS ((f.list.getD (j - 1) (0, 0)).1 - (f.list.getD j (0, 0)).2 - 2) else []) ++ vputS ((f.list.getD j (0, 0)).2 - (f.list.getD j (0, 0)).1)) := fun j => rfl
  have hplen := ackP_len f.list
  have hway : ∀ R, R = vputS 2 ++ (vputS (f.list.getD 0 (0, 0)).2 ++ (vputS f.a ++ (vputS (n - 1) ++ (ackP f.list n ++ [])))) → R = fway f := fun R hR => by
    rw [hR]
    unfold fway
    rw [if_neg (by omega), if_neg (by omega), if_neg (by omega)]
    unfold fack
    rw [← hln]
    cases hf : f.list with
    | nil => rw [hf] at hl1; simp at hl1
    | cons r t =>
      rw [ackP_end]
      simp only [hk, List.append_assoc, List.length_cons, Nat.add_sub_cancel, List.getD_cons_zero]
      rfl
  obtain ⟨lo, hlo⟩ : ∃ lo : Nat → Nat, lo = fun i => (f.list.getD i (0, 0)).1 := ⟨_, rfl⟩
  obtain ⟨hi, hhi⟩ : ∃ hi : Nat → Nat, hi = fun i => (f.list.getD i (0, 0)).2 := ⟨_, rfl⟩
  obtain ⟨PB, hPB⟩ : ∃ PB : Nat → List UInt8, PB = ackP f.list := ⟨_, rfl⟩
  have hP0 : PB 0 = [] := by rw [hPB]; rfl
  have HCell : Hid (∀ i, i < n → w.cell? ⟨gl, o + i * 2, none⟩ = some (.int .u64 (lo i : Nat)) ∧ w.cell? ⟨gl, o + i * 2 + 1, none⟩ = some (.int .u64 (hi i : Nat))) := hide (by rw [hlo, hhi]; exact hcell)
  have HAll : Hid (∀ i, i < n → lo i ≤ hi i ∧ hi i < 4611686018427387904 ∧ (0 < i → hi i + 2 ≤ lo (i - 1))) := hide (by rw [hlo, hhi]; exact hall2)
  have HStep : Hid (∀ j, PB (j + 1) = PB j ++ ((if 0 < j then vputS (lo (j - 1) - hi j - 2) else []) ++ vputS (hi j - lo j))) := hide (by rw [hlo, hhi, hPB]; exact hstep)
  have HPlen : Hid (∀ j, (PB j).length ≤ 16 * j) := hide (by rw [hPB]; exact hplen)
  have hway2 : ∀ R, R = vputS 2 ++ (vputS (hi 0) ++ (vputS f.a ++ (vputS (n - 1) ++ (PB n ++ [])))) → R = fway f := by rw [hhi, hPB]; exact hway
  obtain ⟨W, hW⟩ : ∃ W, fway f = W := ⟨_, rfl⟩
  rw [hW] at hway2 ⊢
  have HWay := hide hway2
  have hn64 : n ≤ 64 := by omega
  have hn1 : 1 ≤ n := by omega
  clear hway hway2 hstep hplen hall hall2 hcell hok hl1 hl64 hlo hhi hPB hW hr hln
  unfold fval fcs at *
  obtain ⟨fk, fa, fb, fc, ff, fd, fm, fl⟩ := f
  dsimp only at *
  subst hk
  clear fl
  push_cast
  obtain ⟨m, hm⟩ : ∃ m, n = m + 1 := ⟨n - 1, by omega⟩
  have e1 : (n : Int) - 1 = (m : Int) := by omega
  have hw1 : IntKind.i64.wrap ((n : Int) - 1) = (m : Int) := by rw [e1]; exact IntWalk.i64_in _ (by omega)
  have hw2 : IntKind.u64.wrap (m : Int) = (m : Int) := IntWalk.u64_in _ (by omega)
  have hw3 : IntKind.i64.wrap (m : Int) = (m : Int) := IntWalk.i64_in _ (by omega)
  have hw4 : IntKind.u64.wrap (IntKind.i64.wrap (m : Int)) = (m : Int) := by rw [hw3]; exact hw2
  have hm1 : n - 1 = m := by omega
  have hn0 : (0 : Int) < (n : Int) := by omega
  have hnp : 0 < n := by omega
  rw [hm1] at HWay
  obtain ⟨K, hK⟩ : ∃ K, vputB 2 = K := ⟨_, rfl⟩
  obtain ⟨h0, hh0⟩ : ∃ h0, hi 0 = h0 := ⟨_, rfl⟩
  obtain ⟨VH, hH⟩ : ∃ K, vputB h0 = K := ⟨_, rfl⟩
  obtain ⟨VA, hA⟩ : ∃ K, vputB fa = K := ⟨_, rfl⟩
  obtain ⟨VN, hN⟩ : ∃ K, vputB m = K := ⟨_, rfl⟩
  have s1 : K.size ≤ 8 := by rw [← hK]; exact vputB_size _
  have s2 : VH.size ≤ 8 := by rw [← hH]; exact vputB_size _
  have s3 : VA.size ≤ 8 := by rw [← hA]; exact vputB_size _
  have s4 : VN.size ≤ 8 := by rw [← hN]; exact vputB_size _
  have pp : ∀ (x : Int) (v : ByteArray), ((x = 2 ∧ v = K) ∨ (x = (h0 : Nat) ∧ v = VH) ∨ (x = (fa : Nat) ∧ v = VA) ∨ (x = (m : Nat) ∧ v = VN)) → ∀ w, Calls Tryd.prog 55 #[.int .u64 x] w fun e w' => e = .returned (.string v) ∧ Mod [] w w' := by
    rintro x v (⟨rfl, rfl⟩ | ⟨rfl, rfl⟩ | ⟨rfl, rfl⟩ | ⟨rfl, rfl⟩) w
    · rw [← hK]; exact fputB_any w 2
    · rw [← hH]; exact fputB_any w h0
    · rw [← hA]; exact fputB_any w fa
    · rw [← hN]; exact fputB_any w m
  have PP := hide pp
  obtain ⟨HD, hHD⟩ : ∃ D : ByteArray, K ++ VH ++ VA ++ VN = D := ⟨_, rfl⟩
  have hHs : HD.size ≤ 32 := by rw [← hHD, ByteArray.size_append, ByteArray.size_append, ByteArray.size_append]; omega
  have hHl : HD.data.toList = vputS 2 ++ (vputS h0 ++ (vputS fa ++ vputS m)) := by rw [← hHD, app_list, app_list, app_list, ← hK, ← hH, ← hA, ← hN]; simp [vputB_list]
  have HHl := hide hHl
  have q1 : ¬ 9223372036854775807 < K.size + VH.size := by omega
  have q2 : ¬ 9223372036854775807 < K.size + VH.size + VA.size := by omega
  have q3 : ¬ 9223372036854775807 < K.size + VH.size + VA.size + VN.size := by omega
  have c01 := (HCell.out 0 (by omega)).2
  rw [hh0] at c01 HWay
  simp only [Nat.zero_mul, Nat.add_zero] at c01
  clear pp hHl hK hH hA hN hh0 hm
  have k0 : ((2 : Int) == 0) = false := by decide
  go_enter Tryd.func54, Tryd.ntmps54
  go_wp2_with fail
  obtain ⟨w2, hw2w⟩ : ∃ w2, (w.alloc (.cells #[.int .u64 2, .int .u64 (fa : Nat), .int .u64 (fb : Nat), .int .u64 (fc : Nat), .bool ff, .string fd, .string fm, .slice (some ⟨gl, o, none⟩) n c] 26)).alloc (.cells #[.pointer none, .slice none 0 0] 57) = w2 := ⟨_, rfl⟩
  have hX0 : AX w w.heap.size #[.int .u64 2, .int .u64 (fa : Nat), .int .u64 (fb : Nat), .int .u64 (fc : Nat), .bool ff, .string fd, .string fm, .slice (some ⟨gl, o, none⟩) n c] w2 := by rw [← hw2w]; exact ⟨(Blk.new _ _ _).alloc _, ((Mod.refl _ _).alloc _).alloc _⟩
  have hBl0 : BldO w2 w.heap.size (w.heap.size + 1) [] := by
    rw [← hw2w]
    have := Blk.new (w.alloc (.cells #[.int .u64 2, .int .u64 (fa : Nat), .int .u64 (fb : Nat), .int .u64 (fc : Nat), .bool ff, .string fd, .string fm, .slice (some ⟨gl, o, none⟩) n c] 26)) 57 #[.pointer none, .slice none 0 0]
    rw [World.size_alloc] at this
    exact BldO.fresh this (by omega)
  rw [hw2w]
  have HXm : Hid (∀ w' w'', AX w w.heap.size #[.int .u64 2, .int .u64 (fa : Nat), .int .u64 (fb : Nat), .int .u64 (fc : Nat), .bool ff, .string fd, .string fm, .slice (some ⟨gl, o, none⟩) n c] w' → Mod [] w' w'' → AX w w.heap.size #[.int .u64 2, .int .u64 (fa : Nat), .int .u64 (fb : Nat), .int .u64 (fc : Nat), .bool ff, .string fd, .string fm, .slice (some ⟨gl, o, none⟩) n c] w'') := hide (fun _ _ h m => h.mod m)
  have HXb : Hid (∀ w' w'', AX w w.heap.size #[.int .u64 2, .int .u64 (fa : Nat), .int .u64 (fb : Nat), .int .u64 (fc : Nat), .bool ff, .string fd, .string fm, .slice (some ⟨gl, o, none⟩) n c] w' → BStep w.heap.size (w.heap.size + 1) w' w'' → AX w w.heap.size #[.int .u64 2, .int .u64 (fa : Nat), .int .u64 (fb : Nat), .int .u64 (fc : Nat), .bool ff, .string fd, .string fm, .slice (some ⟨gl, o, none⟩) n c] w'') := hide (fun _ _ h m => h.bld m (by omega))
  have HXs : Hid (∀ w', AX w w.heap.size #[.int .u64 2, .int .u64 (fa : Nat), .int .u64 (fb : Nat), .int .u64 (fc : Nat), .bool ff, .string fd, .string fm, .slice (some ⟨gl, o, none⟩) n c] w' → w.heap.size ≤ w'.heap.size) := hide (fun _ h => h.2.size)
  have HFc : Hid (∀ w', AX w w.heap.size #[.int .u64 2, .int .u64 (fa : Nat), .int .u64 (fb : Nat), .int .u64 (fc : Nat), .bool ff, .string fd, .string fm, .slice (some ⟨gl, o, none⟩) n c] w' → w'.cell? ⟨w.heap.size, 0, none⟩ = some (.int .u64 2) ∧ w'.cell? ⟨w.heap.size, 1, none⟩ = some (.int .u64 (fa : Nat)) ∧ w'.cell? ⟨w.heap.size, 2, none⟩ = some (.int .u64 (fb : Nat)) ∧ w'.cell? ⟨w.heap.size, 3, none⟩ = some (.int .u64 (fc : Nat)) ∧ w'.cell? ⟨w.heap.size, 4, none⟩ = some (.bool ff) ∧ w'.cell? ⟨w.heap.size, 5, none⟩ = some (.string fd) ∧ w'.cell? ⟨w.heap.size, 6, none⟩ = some (.string fm) ∧ w'.cell? ⟨w.heap.size, 7, none⟩ = some (.slice (some ⟨gl, o, none⟩) n c)) := hide (fun w' h => ⟨h.1.cell 0, h.1.cell 1, h.1.cell 2, h.1.cell 3, h.1.cell 4, h.1.cell 5, h.1.cell 6, h.1.cell 7⟩)
  have HOld : Hid (∀ w' (p : Addr) v, AX w w.heap.size #[.int .u64 2, .int .u64 (fa : Nat), .int .u64 (fb : Nat), .int .u64 (fc : Nat), .bool ff, .string fd, .string fm, .slice (some ⟨gl, o, none⟩) n c] w' → p.block < w.heap.size → w.cell? p = some v → w'.cell? p = some v) := hide (fun w' p v h hp hc => (h.2.cell hp (by simp)).trans hc)
  have HBd := hBl0.mod (Mod.refl [] w2).drew (by simp)
  have hX1 := HXm.out _ _ hX0 (Mod.refl [] w2).drew
  have HS := hide (And.intro (And.intro (HFc.out _ hX1) (HOld.out _ ⟨gl, o + 1, none⟩ _ hX1 hgl c01)) hX1)
  have HC01 := hide c01
  have HGl := hide hgl
  clear hw2w hX0 hBl0 hX1 c01 hgl
  go_region_held3 (fun w' => ((w'.cell? ⟨w.heap.size, 0, none⟩ = some (.int .u64 2) ∧ w'.cell? ⟨w.heap.size, 1, none⟩ = some (.int .u64 (fa : Nat)) ∧ w'.cell? ⟨w.heap.size, 2, none⟩ = some (.int .u64 (fb : Nat)) ∧ w'.cell? ⟨w.heap.size, 3, none⟩ = some (.int .u64 (fc : Nat)) ∧ w'.cell? ⟨w.heap.size, 4, none⟩ = some (.bool ff) ∧ w'.cell? ⟨w.heap.size, 5, none⟩ = some (.string fd) ∧ w'.cell? ⟨w.heap.size, 6, none⟩ = some (.string fm) ∧ w'.cell? ⟨w.heap.size, 7, none⟩ = some (.slice (some ⟨gl, o, none⟩) n c)) ∧ w'.cell? ⟨gl, o + 1, none⟩ = some (.int .u64 (h0 : Nat))) ∧ AX w w.heap.size #[.int .u64 2, .int .u64 (fa : Nat), .int .u64 (fb : Nat), .int .u64 (fc : Nat), .bool ff, .string fd, .string fm, .slice (some ⟨gl, o, none⟩) n c] w')
    (first | exact HS.out | assumption)
    (first
      | (go_at_call 55; refine (ak_call HXm.out (PP.out _ _ (by first | exact Or.inl ⟨rfl, rfl⟩ | exact Or.inr (Or.inl ⟨rfl, rfl⟩) | exact Or.inr (Or.inr (Or.inl ⟨rfl, rfl⟩)) | exact Or.inr (Or.inr (Or.inr ⟨by first | rfl | exact hw4 | exact e1 | exact hw1 | exact hw2 | (rw [hw1]; exact hw2) | (rw [e1]; exact hw2), rfl⟩)))) (And.right (by assumption)) (by assumption)).mono ?_; rintro e w' ⟨rfl, hX', hB'⟩; have hS' := And.intro (And.intro (HFc.out _ hX') (HOld.out _ ⟨gl, o + 1, none⟩ _ hX' HGl.out HC01.out)) hX')
      | (go_at_call 30; refine (ak_write _ HXb.out HXs.out (And.right (by assumption)) (by assumption) (by first | (simp; omega) | omega)).mono ?_; rintro e w' ⟨rfl, hX', hB'⟩; have hS' := And.intro (And.intro (HFc.out _ hX') (HOld.out _ ⟨gl, o + 1, none⟩ _ hX' HGl.out HC01.out)) hX'))
  rw [List.nil_append] at hB'
  obtain ⟨p0, p1, p2, p3, p4, p5, p6, p7⟩ := HFc.out _ hX'
  have HX2 := hide hX'
  have HB2 := hide hB'
  clear hS' hX' hB' HS HBd PP
  go_wp2_with fail
  go_loopw [69] (fun iv wr => ∃ j : Nat, j ≤ n ∧ iv = .int .i64 (j : Int) ∧ BldO wr w.heap.size (w.heap.size + 1) (HD.data.toList ++ PB j) ∧ AX w w.heap.size #[.int .u64 2, .int .u64 (fa : Nat), .int .u64 (fb : Nat), .int .u64 (fc : Nat), .bool ff, .string fd, .string fm, .slice (some ⟨gl, o, none⟩) n c] wr) (fun iv _ => n - (intOf iv).toNat)
  case atStart => exact ⟨0, by omega, rfl, by rw [hP0, List.append_nil]; exact HB2.out, HX2.out⟩
  case round =>
    clear p0 p1 p2 p3 p4 p5 p6 p7 HX2 HB2
    obtain ⟨j, hj, rfl, hB, hX⟩ := hrel
    by_cases h : j < n
    · obtain ⟨cl, ch⟩ := HCell.out j h
      obtain ⟨al1, al2, al3⟩ := HAll.out j h
      have c0 := HOld.out wr ⟨gl, o + j * 2, none⟩ _ hX HGl.out cl
      have c1 := HOld.out wr ⟨gl, o + j * 2 + 1, none⟩ _ hX HGl.out ch
      have hst := HStep.out j
      have hpl := HPlen.out j
      obtain ⟨lj, hlj⟩ : ∃ x, lo j = x := ⟨_, rfl⟩
      obtain ⟨hj2, hhj⟩ : ∃ x, hi j = x := ⟨_, rfl⟩
      rw [hlj] at c0 al1 hst
      rw [hhj] at c1 al1 al2 al3 hst
      obtain ⟨d, hd⟩ : ∃ d, hj2 - lj = d := ⟨_, rfl⟩
      rw [hd] at hst
      have ed : (hj2 : Int) - lj = (d : Int) := by omega
      have hwd : IntKind.u64.wrap ((hj2 : Int) - lj) = (d : Int) := by rw [ed]; exact IntWalk.u64_in _ (by omega)
      have hwd2 : IntKind.u64.wrap (d : Int) = (d : Int) := IntWalk.u64_in _ (by omega)
      obtain ⟨VD, hVD⟩ : ∃ K, vputB d = K := ⟨_, rfl⟩
      have hvd : VD.size ≤ 8 := by rw [← hVD]; exact vputB_size _
      have hvl : VD.data.toList = vputS d := by rw [← hVD]; rfl
      rw [← hvl] at hst
      have HPD := hide (fun w => fputB_any w d)
      rw [hVD] at HPD
      obtain ⟨rs, hrs⟩ : ∃ rs : Array Value, rs = #[.int .u64 (lj : Nat), .int .u64 (hj2 : Nat)] := ⟨_, rfl⟩
      have hXr : AXr w w.heap.size #[.int .u64 2, .int .u64 (fa : Nat), .int .u64 (fb : Nat), .int .u64 (fc : Nat), .bool ff, .string fd, .string fm, .slice (some ⟨gl, o, none⟩) n c] wr.heap.size rs (wr.alloc (.cells rs 47)) := ⟨hX.mod ((Mod.refl _ _).alloc _), Blk.new _ _ _⟩
      have hBr := hB.mod ((Mod.refl [] wr).alloc (.cells rs 47)) (by simp)
      have hbw := hB.lt
      have hbw2 : wr.heap.size ≠ w.heap.size + 1 := by omega
      have r0 := hXr.2.cell 0
      have r1 := hXr.2.cell 1
      rw [hrs] at r0 r1 hXr hBr
      have HXr := hide hXr
      have HBr := hide hBr
      have HSt := hide hst
      have HPl := hide hpl
      have HAl3 := hide al3
      have hrl := hXr.2.lt
      clear cl ch al3 hst hpl hlj hhj hd hVD hvl hXr hBr hrs hB
      simp only [List.getElem?_toArray, List.getElem?_cons_succ, List.getElem?_cons_zero] at r0 r1
      by_cases hj0 : j = 0
      · subst hj0
        simp only [Nat.zero_mul, Nat.add_zero] at c0 c1
        go_wp2_with fail
        refine (ak_call (X := AXr w w.heap.size #[.int .u64 2, .int .u64 (fa : Nat), .int .u64 (fb : Nat), .int .u64 (fc : Nat), .bool ff, .string fd, .string fm, .slice (some ⟨gl, o, none⟩) n c] wr.heap.size #[.int .u64 (lj : Nat), .int .u64 (hj2 : Nat)]) (fun _ _ h m => h.mod m) HPD.out HXr.out HBr.out).mono ?_
        rintro e w3 ⟨rfl, hX3, hB3⟩
        go_wp2_with fail
        refine (ak_write (X := AXr w w.heap.size #[.int .u64 2, .int .u64 (fa : Nat), .int .u64 (fb : Nat), .int .u64 (fc : Nat), .bool ff, .string fd, .string fm, .slice (some ⟨gl, o, none⟩) n c] wr.heap.size #[.int .u64 (lj : Nat), .int .u64 (hj2 : Nat)]) VD (fun _ _ h m => h.bld m (by omega) hbw2) (fun _ h => h.1.2.size) hX3 hB3 (by have := HPl.out; simp only [List.length_append, bytes_len]; omega)).mono ?_
        rintro e w4 ⟨rfl, hX4, hB4⟩
        go_wp2_with fail
        go_roundw
        case rel => exact ⟨0 + 1, by omega, by go_num, by rw [HSt.out, if_neg (by omega), List.nil_append, ← List.append_assoc]; exact hB4, hX4.1⟩
        case measure => simp [intOf]; omega
      · have hjp : 0 < j := by omega
        obtain ⟨jm, hjm⟩ : ∃ jm, j - 1 = jm := ⟨_, rfl⟩
        obtain ⟨cp, _⟩ := HCell.out (j - 1) (by omega)
        have al4 := HAl3.out hjp
        obtain ⟨ap1, ap2, _⟩ := HAll.out (j - 1) (by omega)
        have HSt2 := HSt.out
        rw [hjm] at cp al4 ap1 ap2 HSt2
        obtain ⟨lp, hlp⟩ : ∃ x, lo jm = x := ⟨_, rfl⟩
        rw [hlp] at cp al4 ap1 HSt2
        obtain ⟨x, hx⟩ : ∃ x, lp - hj2 = x := ⟨_, rfl⟩
        obtain ⟨y, hy⟩ : ∃ y, x - 2 = y := ⟨_, rfl⟩
        rw [if_pos hjp, hx, hy] at HSt2
        have ex : (lp : Int) - hj2 = (x : Int) := by omega
        have hwx : IntKind.u64.wrap ((lp : Int) - hj2) = (x : Int) := by rw [ex]; exact IntWalk.u64_in _ (by omega)
        have hwx2 : IntKind.u64.wrap (x : Int) = (x : Int) := IntWalk.u64_in _ (by omega)
        have ey : (x : Int) - 2 = (y : Int) := by omega
        have hwy : IntKind.u64.wrap ((x : Int) - 2) = (y : Int) := by rw [ey]; exact IntWalk.u64_in _ (by omega)
        have hwy2 : IntKind.u64.wrap (y : Int) = (y : Int) := IntWalk.u64_in _ (by omega)
        obtain ⟨VE, hVE⟩ : ∃ K, vputB y = K := ⟨_, rfl⟩
        have hve : VE.size ≤ 8 := by rw [← hVE]; exact vputB_size _
        have hvel : VE.data.toList = vputS y := by rw [← hVE]; rfl
        rw [← hvel] at HSt2
        have HPE := hide (fun w => fputB_any w y)
        rw [hVE] at HPE
        have HSt3 := hide HSt2
        have HCp := hide cp
        have f1 : (j : Int) - 1 = (jm : Int) := by omega
        have fw1 : IntKind.i64.wrap ((j : Int) - 1) = (jm : Int) := by rw [f1]; exact IntWalk.i64_in _ (by omega)
        have fw2 : IntKind.i64.wrap (jm : Int) = (jm : Int) := IntWalk.i64_in _ (by omega)
        have fj0 : (0 : Int) ≤ (jm : Int) := by omega
        have fjm : (jm : Int) < n := by omega
        have fjn : jm < n := by omega
        have fjd : decide ((0 : Int) < j) = true := decide_eq_true (by omega)
        have fje : decide (0 < j) = true := decide_eq_true hjp
        clear HSt HSt2 hlp hx hy hVE hvel cp hjm
        go_wp2_with fail
        clear r0 r1 c0 c1
        have HFr : Hid (∀ w', AXr w w.heap.size #[.int .u64 2, .int .u64 (fa : Nat), .int .u64 (fb : Nat), .int .u64 (fc : Nat), .bool ff, .string fd, .string fm, .slice (some ⟨gl, o, none⟩) n c] wr.heap.size #[.int .u64 (lj : Nat), .int .u64 (hj2 : Nat)] w' → (w'.cell? ⟨w.heap.size, 0, none⟩ = some (.int .u64 2) ∧ w'.cell? ⟨w.heap.size, 1, none⟩ = some (.int .u64 (fa : Nat)) ∧ w'.cell? ⟨w.heap.size, 2, none⟩ = some (.int .u64 (fb : Nat)) ∧ w'.cell? ⟨w.heap.size, 3, none⟩ = some (.int .u64 (fc : Nat)) ∧ w'.cell? ⟨w.heap.size, 4, none⟩ = some (.bool ff) ∧ w'.cell? ⟨w.heap.size, 5, none⟩ = some (.string fd) ∧ w'.cell? ⟨w.heap.size, 6, none⟩ = some (.string fm) ∧ w'.cell? ⟨w.heap.size, 7, none⟩ = some (.slice (some ⟨gl, o, none⟩) n c)) ∧ w'.cell? ⟨gl, o + jm * 2, none⟩ = some (.int .u64 (lp : Nat)) ∧ w'.cell? ⟨wr.heap.size, 0, none⟩ = some (.int .u64 (lj : Nat)) ∧ w'.cell? ⟨wr.heap.size, 1, none⟩ = some (.int .u64 (hj2 : Nat))) := hide (fun w' h => ⟨HFc.out _ h.1, HOld.out w' ⟨gl, o + jm * 2, none⟩ _ h.1 HGl.out HCp.out, h.2.cell 0, h.2.cell 1⟩)
        have HBd := HBr.out.mod (Mod.refl [] (wr.alloc (.cells #[.int .u64 (lj : Nat), .int .u64 (hj2 : Nat)] 47))).drew (by simp)
        have hX1 := HXr.out.mod (Mod.refl [] (wr.alloc (.cells #[.int .u64 (lj : Nat), .int .u64 (hj2 : Nat)] 47))).drew
        have HS := hide (And.intro (HFr.out _ hX1) hX1)
        clear hX1
        go_region_held3 (fun w' => ((w'.cell? ⟨w.heap.size, 0, none⟩ = some (.int .u64 2) ∧ w'.cell? ⟨w.heap.size, 1, none⟩ = some (.int .u64 (fa : Nat)) ∧ w'.cell? ⟨w.heap.size, 2, none⟩ = some (.int .u64 (fb : Nat)) ∧ w'.cell? ⟨w.heap.size, 3, none⟩ = some (.int .u64 (fc : Nat)) ∧ w'.cell? ⟨w.heap.size, 4, none⟩ = some (.bool ff) ∧ w'.cell? ⟨w.heap.size, 5, none⟩ = some (.string fd) ∧ w'.cell? ⟨w.heap.size, 6, none⟩ = some (.string fm) ∧ w'.cell? ⟨w.heap.size, 7, none⟩ = some (.slice (some ⟨gl, o, none⟩) n c)) ∧ w'.cell? ⟨gl, o + jm * 2, none⟩ = some (.int .u64 (lp : Nat)) ∧ w'.cell? ⟨wr.heap.size, 0, none⟩ = some (.int .u64 (lj : Nat)) ∧ w'.cell? ⟨wr.heap.size, 1, none⟩ = some (.int .u64 (hj2 : Nat))) ∧ AXr w w.heap.size #[.int .u64 2, .int .u64 (fa : Nat), .int .u64 (fb : Nat), .int .u64 (fc : Nat), .bool ff, .string fd, .string fm, .slice (some ⟨gl, o, none⟩) n c] wr.heap.size #[.int .u64 (lj : Nat), .int .u64 (hj2 : Nat)] w')
          (first | exact HS.out | assumption)
          (first
            | (go_at_call 55; refine (ak_call (X := AXr w w.heap.size #[.int .u64 2, .int .u64 (fa : Nat), .int .u64 (fb : Nat), .int .u64 (fc : Nat), .bool ff, .string fd, .string fm, .slice (some ⟨gl, o, none⟩) n c] wr.heap.size #[.int .u64 (lj : Nat), .int .u64 (hj2 : Nat)]) (fun _ _ h m => h.mod m) HPE.out (And.right (by assumption)) (by assumption)).mono ?_; rintro e w' ⟨rfl, hX', hB'⟩; have hS' := And.intro (HFr.out _ hX') hX')
            | (go_at_call 30; refine (ak_write (X := AXr w w.heap.size #[.int .u64 2, .int .u64 (fa : Nat), .int .u64 (fb : Nat), .int .u64 (fc : Nat), .bool ff, .string fd, .string fm, .slice (some ⟨gl, o, none⟩) n c] wr.heap.size #[.int .u64 (lj : Nat), .int .u64 (hj2 : Nat)]) _ (fun _ _ h m => h.bld m (by omega) hbw2) (fun _ h => h.1.2.size) (And.right (by assumption)) (by assumption) (by have := HPl.out; simp only [List.length_append, bytes_len]; omega)).mono ?_; rintro e w' ⟨rfl, hX', hB'⟩; have hS' := And.intro (HFr.out _ hX') hX'))
        obtain ⟨_, _, r0, r1⟩ := HFr.out _ hX'
        have hbl := hX'.2.lt
        have HX5 := hide hX'
        have HB5 := hide hB'
        clear hX' hB' hS' HS HBd HFr
        go_wp2_with fail
        refine (ak_call (X := AXr w w.heap.size #[.int .u64 2, .int .u64 (fa : Nat), .int .u64 (fb : Nat), .int .u64 (fc : Nat), .bool ff, .string fd, .string fm, .slice (some ⟨gl, o, none⟩) n c] wr.heap.size #[.int .u64 (lj : Nat), .int .u64 (hj2 : Nat)]) (fun _ _ h m => h.mod m) HPD.out HX5.out HB5.out).mono ?_
        rintro e w3 ⟨rfl, hX3, hB3⟩
        go_wp2_with fail
        refine (ak_write (X := AXr w w.heap.size #[.int .u64 2, .int .u64 (fa : Nat), .int .u64 (fb : Nat), .int .u64 (fc : Nat), .bool ff, .string fd, .string fm, .slice (some ⟨gl, o, none⟩) n c] wr.heap.size #[.int .u64 (lj : Nat), .int .u64 (hj2 : Nat)]) VD (fun _ _ h m => h.bld m (by omega) hbw2) (fun _ h => h.1.2.size) hX3 hB3 (by have := HPl.out; simp only [List.length_append, bytes_len]; omega)).mono ?_
        rintro e w4 ⟨rfl, hX4, hB4⟩
        go_wp2_with fail
        go_roundw
        case rel => exact ⟨j + 1, by omega, by go_num, by rw [HSt3.out]; simp only [← List.append_assoc] at hB4 ⊢; exact hB4, hX4.1⟩
        case measure => simp [intOf]; omega
    · have hjn : n = j := by omega
      subst hjn
      obtain ⟨p0, p1, p2, p3, p4, p5, p6, p7⟩ := HFc.out _ hX
      have HX6 := hide hX
      have HB6 := hide hB
      clear hX hB
      have k3 : ((2 : Int) == 3) = false := by decide
      go_wp2_with fail
      refine (bstring_any _ w.heap.size (w.heap.size + 1) _ HB6.out HX6.out.2.size).mono ?_
      rintro e w5 ⟨rfl, st⟩
      go_wp2_with fail
      go_ret
      refine ⟨?_, st.mod HX6.out.2 (Nat.le_refl _)⟩
      rw [HWay.out (HD.data.toList ++ PB n) (by rw [HHl.out]; simp only [List.append_assoc, List.append_nil])]
      rfl

set_option maxRecDepth 100000 in
set_option maxHeartbeats 2000000 in
theorem wayA3_any (w : World) (A : Option Addr) (n c : Nat) (f : Fr) (hk : f.kind = 3) (hr : Rngs w A n f.list) (hro : rngs f.list = true) (hm8 : f.more.size = 8) :
    Calls Tryd.prog 54 #[fval A n c f] w fun e w' => e = .returned (str (fway f)) ∧ Mod [] w w' := by
  unfold rngs at hro
  simp only [Bool.and_eq_true, decide_eq_true_eq] at hro
  obtain ⟨hok, hl1, hl64⟩ := hro
  have hall := rngOk_all f.list none hok
  have hln := hr.1
  obtain ⟨gl, o, x1, rfl, hgl, x2, x3⟩ := hr.at_ (i := 0) (by omega)
  clear x2 x3 x1
  have hcell : ∀ i, i < n → w.cell? ⟨gl, o + i * 2, none⟩ = some (.int .u64 ((f.list.getD i (0, 0)).1 : Nat)) ∧ w.cell? ⟨gl, o + i * 2 + 1, none⟩ = some (.int .u64 ((f.list.getD i (0, 0)).2 : Nat)) := fun i hi => by
    obtain ⟨g', o', hl, he, _, c0, c1⟩ := hr.at_ hi
    cases he
    rw [List.getD_eq_getElem?_getD, List.getElem?_eq_getElem hl]
    exact ⟨c0, c1⟩
  have hall2 : ∀ i, i < n → (f.list.getD i (0, 0)).1 ≤ (f.list.getD i (0, 0)).2 ∧ (f.list.getD i (0, 0)).2 < 4611686018427387904 ∧ (0 < i → (f.list.getD i (0, 0)).2 + 2 ≤ (f.list.getD (i - 1) (0, 0)).1) := fun i hi => by
    have hl : i < f.list.length := by omega
    have h := hall i hl
    rw [List.getD_eq_getElem?_getD, List.getElem?_eq_getElem hl]
    refine ⟨h.1, h.2.1, fun h0 => ?_⟩
    rw [List.getD_eq_getElem?_getD, List.getElem?_eq_getElem (by omega : i - 1 < f.list.length)]
    exact h.2.2 h0
  have hstep : ∀ j, ackP f.list (j + 1) = ackP f.list j ++ ((if 0 < j then vputS ((f.list.getD (j - 1) (0, 0)).1 - (f.list.getD j (0, 0)).2 - 2) else []) ++ vputS ((f.list.getD j (0, 0)).2 - (f.list.getD j (0, 0)).1)) := fun j => rfl
  have hplen := ackP_len f.list
  have hway : ∀ R, R = vputS 3 ++ (vputS (f.list.getD 0 (0, 0)).2 ++ (vputS f.a ++ (vputS (n - 1) ++ (ackP f.list n ++ (vputS f.b ++ (vputS f.c ++ vputS (numF 0 f.more.data.toList))))))) → R = fway f := fun R hR => by
    rw [hR]
    unfold fway
    rw [if_neg (by omega), if_neg (by omega), if_neg (by omega)]
    unfold fack
    rw [← hln]
    cases hf : f.list with
    | nil => rw [hf] at hl1; simp at hl1
    | cons r t =>
      rw [ackP_end]
      simp only [hk, List.append_assoc, List.length_cons, Nat.add_sub_cancel, List.getD_cons_zero]
      rfl
  obtain ⟨lo, hlo⟩ : ∃ lo : Nat → Nat, lo = fun i => (f.list.getD i (0, 0)).1 := ⟨_, rfl⟩
  obtain ⟨hi, hhi⟩ : ∃ hi : Nat → Nat, hi = fun i => (f.list.getD i (0, 0)).2 := ⟨_, rfl⟩
  obtain ⟨PB, hPB⟩ : ∃ PB : Nat → List UInt8, PB = ackP f.list := ⟨_, rfl⟩
  have hP0 : PB 0 = [] := by rw [hPB]; rfl
  have HCell : Hid (∀ i, i < n → w.cell? ⟨gl, o + i * 2, none⟩ = some (.int .u64 (lo i : Nat)) ∧ w.cell? ⟨gl, o + i * 2 + 1, none⟩ = some (.int .u64 (hi i : Nat))) := hide (by rw [hlo, hhi]; exact hcell)
  have HAll : Hid (∀ i, i < n → lo i ≤ hi i ∧ hi i < 4611686018427387904 ∧ (0 < i → hi i + 2 ≤ lo (i - 1))) := hide (by rw [hlo, hhi]; exact hall2)
  have HStep : Hid (∀ j, PB (j + 1) = PB j ++ ((if 0 < j then vputS (lo (j - 1) - hi j - 2) else []) ++ vputS (hi j - lo j))) := hide (by rw [hlo, hhi, hPB]; exact hstep)
  have HPlen : Hid (∀ j, (PB j).length ≤ 16 * j) := hide (by rw [hPB]; exact hplen)
  have hway2 : ∀ R, R = vputS 3 ++ (vputS (hi 0) ++ (vputS f.a ++ (vputS (n - 1) ++ (PB n ++ (vputS f.b ++ (vputS f.c ++ vputS (numF 0 f.more.data.toList))))))) → R = fway f := by rw [hhi, hPB]; exact hway
  obtain ⟨W, hW⟩ : ∃ W, fway f = W := ⟨_, rfl⟩
  rw [hW] at hway2 ⊢
  have HWay := hide hway2
  have hn64 : n ≤ 64 := by omega
  have hn1 : 1 ≤ n := by omega
  clear hway hway2 hstep hplen hall hall2 hcell hok hl1 hl64 hlo hhi hPB hW hr hln
  unfold fval fcs at *
  obtain ⟨fk, fa, fb, fc, ff, fd, fm, fl⟩ := f
  dsimp only at *
  subst hk
  clear fl
  push_cast
  obtain ⟨m, hm⟩ : ∃ m, n = m + 1 := ⟨n - 1, by omega⟩
  have e1 : (n : Int) - 1 = (m : Int) := by omega
  have hw1 : IntKind.i64.wrap ((n : Int) - 1) = (m : Int) := by rw [e1]; exact IntWalk.i64_in _ (by omega)
  have hw2 : IntKind.u64.wrap (m : Int) = (m : Int) := IntWalk.u64_in _ (by omega)
  have hw3 : IntKind.i64.wrap (m : Int) = (m : Int) := IntWalk.i64_in _ (by omega)
  have hw4 : IntKind.u64.wrap (IntKind.i64.wrap (m : Int)) = (m : Int) := by rw [hw3]; exact hw2
  have hm1 : n - 1 = m := by omega
  have hn0 : (0 : Int) < (n : Int) := by omega
  have hnp : 0 < n := by omega
  rw [hm1] at HWay
  obtain ⟨K, hK⟩ : ∃ K, vputB 3 = K := ⟨_, rfl⟩
  obtain ⟨h0, hh0⟩ : ∃ h0, hi 0 = h0 := ⟨_, rfl⟩
  obtain ⟨VH, hH⟩ : ∃ K, vputB h0 = K := ⟨_, rfl⟩
  obtain ⟨VA, hA⟩ : ∃ K, vputB fa = K := ⟨_, rfl⟩
  obtain ⟨VN, hN⟩ : ∃ K, vputB m = K := ⟨_, rfl⟩
  have s1 : K.size ≤ 8 := by rw [← hK]; exact vputB_size _
  have s2 : VH.size ≤ 8 := by rw [← hH]; exact vputB_size _
  have s3 : VA.size ≤ 8 := by rw [← hA]; exact vputB_size _
  have s4 : VN.size ≤ 8 := by rw [← hN]; exact vputB_size _
  have pp : ∀ (x : Int) (v : ByteArray), ((x = 3 ∧ v = K) ∨ (x = (h0 : Nat) ∧ v = VH) ∨ (x = (fa : Nat) ∧ v = VA) ∨ (x = (m : Nat) ∧ v = VN)) → ∀ w, Calls Tryd.prog 55 #[.int .u64 x] w fun e w' => e = .returned (.string v) ∧ Mod [] w w' := by
    rintro x v (⟨rfl, rfl⟩ | ⟨rfl, rfl⟩ | ⟨rfl, rfl⟩ | ⟨rfl, rfl⟩) w
    · rw [← hK]; exact fputB_any w 3
    · rw [← hH]; exact fputB_any w h0
    · rw [← hA]; exact fputB_any w fa
    · rw [← hN]; exact fputB_any w m
  have PP := hide pp
  obtain ⟨HD, hHD⟩ : ∃ D : ByteArray, K ++ VH ++ VA ++ VN = D := ⟨_, rfl⟩
  have hHs : HD.size ≤ 32 := by rw [← hHD, ByteArray.size_append, ByteArray.size_append, ByteArray.size_append]; omega
  have hHl : HD.data.toList = vputS 3 ++ (vputS h0 ++ (vputS fa ++ vputS m)) := by rw [← hHD, app_list, app_list, app_list, ← hK, ← hH, ← hA, ← hN]; simp [vputB_list]
  have HHl := hide hHl
  have q1 : ¬ 9223372036854775807 < K.size + VH.size := by omega
  have q2 : ¬ 9223372036854775807 < K.size + VH.size + VA.size := by omega
  have q3 : ¬ 9223372036854775807 < K.size + VH.size + VA.size + VN.size := by omega
  have c01 := (HCell.out 0 (by omega)).2
  rw [hh0] at c01 HWay
  simp only [Nat.zero_mul, Nat.add_zero] at c01
  clear pp hHl hK hH hA hN hh0 hm
  have k0 : ((3 : Int) == 0) = false := by decide
  go_enter Tryd.func54, Tryd.ntmps54
  go_wp2_with fail
  obtain ⟨w2, hw2w⟩ : ∃ w2, (w.alloc (.cells #[.int .u64 3, .int .u64 (fa : Nat), .int .u64 (fb : Nat), .int .u64 (fc : Nat), .bool ff, .string fd, .string fm, .slice (some ⟨gl, o, none⟩) n c] 26)).alloc (.cells #[.pointer none, .slice none 0 0] 57) = w2 := ⟨_, rfl⟩
  have hX0 : AX w w.heap.size #[.int .u64 3, .int .u64 (fa : Nat), .int .u64 (fb : Nat), .int .u64 (fc : Nat), .bool ff, .string fd, .string fm, .slice (some ⟨gl, o, none⟩) n c] w2 := by rw [← hw2w]; exact ⟨(Blk.new _ _ _).alloc _, ((Mod.refl _ _).alloc _).alloc _⟩
  have hBl0 : BldO w2 w.heap.size (w.heap.size + 1) [] := by
    rw [← hw2w]
    have := Blk.new (w.alloc (.cells #[.int .u64 3, .int .u64 (fa : Nat), .int .u64 (fb : Nat), .int .u64 (fc : Nat), .bool ff, .string fd, .string fm, .slice (some ⟨gl, o, none⟩) n c] 26)) 57 #[.pointer none, .slice none 0 0]
    rw [World.size_alloc] at this
    exact BldO.fresh this (by omega)
  rw [hw2w]
  have HXm : Hid (∀ w' w'', AX w w.heap.size #[.int .u64 3, .int .u64 (fa : Nat), .int .u64 (fb : Nat), .int .u64 (fc : Nat), .bool ff, .string fd, .string fm, .slice (some ⟨gl, o, none⟩) n c] w' → Mod [] w' w'' → AX w w.heap.size #[.int .u64 3, .int .u64 (fa : Nat), .int .u64 (fb : Nat), .int .u64 (fc : Nat), .bool ff, .string fd, .string fm, .slice (some ⟨gl, o, none⟩) n c] w'') := hide (fun _ _ h m => h.mod m)
  have HXb : Hid (∀ w' w'', AX w w.heap.size #[.int .u64 3, .int .u64 (fa : Nat), .int .u64 (fb : Nat), .int .u64 (fc : Nat), .bool ff, .string fd, .string fm, .slice (some ⟨gl, o, none⟩) n c] w' → BStep w.heap.size (w.heap.size + 1) w' w'' → AX w w.heap.size #[.int .u64 3, .int .u64 (fa : Nat), .int .u64 (fb : Nat), .int .u64 (fc : Nat), .bool ff, .string fd, .string fm, .slice (some ⟨gl, o, none⟩) n c] w'') := hide (fun _ _ h m => h.bld m (by omega))
  have HXs : Hid (∀ w', AX w w.heap.size #[.int .u64 3, .int .u64 (fa : Nat), .int .u64 (fb : Nat), .int .u64 (fc : Nat), .bool ff, .string fd, .string fm, .slice (some ⟨gl, o, none⟩) n c] w' → w.heap.size ≤ w'.heap.size) := hide (fun _ h => h.2.size)
  have HFc : Hid (∀ w', AX w w.heap.size #[.int .u64 3, .int .u64 (fa : Nat), .int .u64 (fb : Nat), .int .u64 (fc : Nat), .bool ff, .string fd, .string fm, .slice (some ⟨gl, o, none⟩) n c] w' → w'.cell? ⟨w.heap.size, 0, none⟩ = some (.int .u64 3) ∧ w'.cell? ⟨w.heap.size, 1, none⟩ = some (.int .u64 (fa : Nat)) ∧ w'.cell? ⟨w.heap.size, 2, none⟩ = some (.int .u64 (fb : Nat)) ∧ w'.cell? ⟨w.heap.size, 3, none⟩ = some (.int .u64 (fc : Nat)) ∧ w'.cell? ⟨w.heap.size, 4, none⟩ = some (.bool ff) ∧ w'.cell? ⟨w.heap.size, 5, none⟩ = some (.string fd) ∧ w'.cell? ⟨w.heap.size, 6, none⟩ = some (.string fm) ∧ w'.cell? ⟨w.heap.size, 7, none⟩ = some (.slice (some ⟨gl, o, none⟩) n c)) := hide (fun w' h => ⟨h.1.cell 0, h.1.cell 1, h.1.cell 2, h.1.cell 3, h.1.cell 4, h.1.cell 5, h.1.cell 6, h.1.cell 7⟩)
  have HOld : Hid (∀ w' (p : Addr) v, AX w w.heap.size #[.int .u64 3, .int .u64 (fa : Nat), .int .u64 (fb : Nat), .int .u64 (fc : Nat), .bool ff, .string fd, .string fm, .slice (some ⟨gl, o, none⟩) n c] w' → p.block < w.heap.size → w.cell? p = some v → w'.cell? p = some v) := hide (fun w' p v h hp hc => (h.2.cell hp (by simp)).trans hc)
  have HBd := hBl0.mod (Mod.refl [] w2).drew (by simp)
  have hX1 := HXm.out _ _ hX0 (Mod.refl [] w2).drew
  have HS := hide (And.intro (And.intro (HFc.out _ hX1) (HOld.out _ ⟨gl, o + 1, none⟩ _ hX1 hgl c01)) hX1)
  have HC01 := hide c01
  have HGl := hide hgl
  clear hw2w hX0 hBl0 hX1 c01 hgl
  go_region_held3 (fun w' => ((w'.cell? ⟨w.heap.size, 0, none⟩ = some (.int .u64 3) ∧ w'.cell? ⟨w.heap.size, 1, none⟩ = some (.int .u64 (fa : Nat)) ∧ w'.cell? ⟨w.heap.size, 2, none⟩ = some (.int .u64 (fb : Nat)) ∧ w'.cell? ⟨w.heap.size, 3, none⟩ = some (.int .u64 (fc : Nat)) ∧ w'.cell? ⟨w.heap.size, 4, none⟩ = some (.bool ff) ∧ w'.cell? ⟨w.heap.size, 5, none⟩ = some (.string fd) ∧ w'.cell? ⟨w.heap.size, 6, none⟩ = some (.string fm) ∧ w'.cell? ⟨w.heap.size, 7, none⟩ = some (.slice (some ⟨gl, o, none⟩) n c)) ∧ w'.cell? ⟨gl, o + 1, none⟩ = some (.int .u64 (h0 : Nat))) ∧ AX w w.heap.size #[.int .u64 3, .int .u64 (fa : Nat), .int .u64 (fb : Nat), .int .u64 (fc : Nat), .bool ff, .string fd, .string fm, .slice (some ⟨gl, o, none⟩) n c] w')
    (first | exact HS.out | assumption)
    (first
      | (go_at_call 55; refine (ak_call HXm.out (PP.out _ _ (by first | exact Or.inl ⟨rfl, rfl⟩ | exact Or.inr (Or.inl ⟨rfl, rfl⟩) | exact Or.inr (Or.inr (Or.inl ⟨rfl, rfl⟩)) | exact Or.inr (Or.inr (Or.inr ⟨by first | rfl | exact hw4 | exact e1 | exact hw1 | exact hw2 | (rw [hw1]; exact hw2) | (rw [e1]; exact hw2), rfl⟩)))) (And.right (by assumption)) (by assumption)).mono ?_; rintro e w' ⟨rfl, hX', hB'⟩; have hS' := And.intro (And.intro (HFc.out _ hX') (HOld.out _ ⟨gl, o + 1, none⟩ _ hX' HGl.out HC01.out)) hX')
      | (go_at_call 30; refine (ak_write _ HXb.out HXs.out (And.right (by assumption)) (by assumption) (by first | (simp; omega) | omega)).mono ?_; rintro e w' ⟨rfl, hX', hB'⟩; have hS' := And.intro (And.intro (HFc.out _ hX') (HOld.out _ ⟨gl, o + 1, none⟩ _ hX' HGl.out HC01.out)) hX'))
  rw [List.nil_append] at hB'
  obtain ⟨p0, p1, p2, p3, p4, p5, p6, p7⟩ := HFc.out _ hX'
  have HX2 := hide hX'
  have HB2 := hide hB'
  clear hS' hX' hB' HS HBd PP
  go_wp2_with fail
  go_loopw [69] (fun iv wr => ∃ j : Nat, j ≤ n ∧ iv = .int .i64 (j : Int) ∧ BldO wr w.heap.size (w.heap.size + 1) (HD.data.toList ++ PB j) ∧ AX w w.heap.size #[.int .u64 3, .int .u64 (fa : Nat), .int .u64 (fb : Nat), .int .u64 (fc : Nat), .bool ff, .string fd, .string fm, .slice (some ⟨gl, o, none⟩) n c] wr) (fun iv _ => n - (intOf iv).toNat)
  case atStart => exact ⟨0, by omega, rfl, by rw [hP0, List.append_nil]; exact HB2.out, HX2.out⟩
  case round =>
    clear p0 p1 p2 p3 p4 p5 p6 p7 HX2 HB2
    obtain ⟨j, hj, rfl, hB, hX⟩ := hrel
    by_cases h : j < n
    · obtain ⟨cl, ch⟩ := HCell.out j h
      obtain ⟨al1, al2, al3⟩ := HAll.out j h
      have c0 := HOld.out wr ⟨gl, o + j * 2, none⟩ _ hX HGl.out cl
      have c1 := HOld.out wr ⟨gl, o + j * 2 + 1, none⟩ _ hX HGl.out ch
      have hst := HStep.out j
      have hpl := HPlen.out j
      obtain ⟨lj, hlj⟩ : ∃ x, lo j = x := ⟨_, rfl⟩
      obtain ⟨hj2, hhj⟩ : ∃ x, hi j = x := ⟨_, rfl⟩
      rw [hlj] at c0 al1 hst
      rw [hhj] at c1 al1 al2 al3 hst
      obtain ⟨d, hd⟩ : ∃ d, hj2 - lj = d := ⟨_, rfl⟩
      rw [hd] at hst
      have ed : (hj2 : Int) - lj = (d : Int) := by omega
      have hwd : IntKind.u64.wrap ((hj2 : Int) - lj) = (d : Int) := by rw [ed]; exact IntWalk.u64_in _ (by omega)
      have hwd2 : IntKind.u64.wrap (d : Int) = (d : Int) := IntWalk.u64_in _ (by omega)
      obtain ⟨VD, hVD⟩ : ∃ K, vputB d = K := ⟨_, rfl⟩
      have hvd : VD.size ≤ 8 := by rw [← hVD]; exact vputB_size _
      have hvl : VD.data.toList = vputS d := by rw [← hVD]; rfl
      rw [← hvl] at hst
      have HPD := hide (fun w => fputB_any w d)
      rw [hVD] at HPD
      obtain ⟨rs, hrs⟩ : ∃ rs : Array Value, rs = #[.int .u64 (lj : Nat), .int .u64 (hj2 : Nat)] := ⟨_, rfl⟩
      have hXr : AXr w w.heap.size #[.int .u64 3, .int .u64 (fa : Nat), .int .u64 (fb : Nat), .int .u64 (fc : Nat), .bool ff, .string fd, .string fm, .slice (some ⟨gl, o, none⟩) n c] wr.heap.size rs (wr.alloc (.cells rs 47)) := ⟨hX.mod ((Mod.refl _ _).alloc _), Blk.new _ _ _⟩
      have hBr := hB.mod ((Mod.refl [] wr).alloc (.cells rs 47)) (by simp)
      have hbw := hB.lt
      have hbw2 : wr.heap.size ≠ w.heap.size + 1 := by omega
      have r0 := hXr.2.cell 0
      have r1 := hXr.2.cell 1
      rw [hrs] at r0 r1 hXr hBr
      have HXr := hide hXr
      have HBr := hide hBr
      have HSt := hide hst
      have HPl := hide hpl
      have HAl3 := hide al3
      have hrl := hXr.2.lt
      clear cl ch al3 hst hpl hlj hhj hd hVD hvl hXr hBr hrs hB
      simp only [List.getElem?_toArray, List.getElem?_cons_succ, List.getElem?_cons_zero] at r0 r1
      by_cases hj0 : j = 0
      · subst hj0
        simp only [Nat.zero_mul, Nat.add_zero] at c0 c1
        go_wp2_with fail
        refine (ak_call (X := AXr w w.heap.size #[.int .u64 3, .int .u64 (fa : Nat), .int .u64 (fb : Nat), .int .u64 (fc : Nat), .bool ff, .string fd, .string fm, .slice (some ⟨gl, o, none⟩) n c] wr.heap.size #[.int .u64 (lj : Nat), .int .u64 (hj2 : Nat)]) (fun _ _ h m => h.mod m) HPD.out HXr.out HBr.out).mono ?_
        rintro e w3 ⟨rfl, hX3, hB3⟩
        go_wp2_with fail
        refine (ak_write (X := AXr w w.heap.size #[.int .u64 3, .int .u64 (fa : Nat), .int .u64 (fb : Nat), .int .u64 (fc : Nat), .bool ff, .string fd, .string fm, .slice (some ⟨gl, o, none⟩) n c] wr.heap.size #[.int .u64 (lj : Nat), .int .u64 (hj2 : Nat)]) VD (fun _ _ h m => h.bld m (by omega) hbw2) (fun _ h => h.1.2.size) hX3 hB3 (by have := HPl.out; simp only [List.length_append, bytes_len]; omega)).mono ?_
        rintro e w4 ⟨rfl, hX4, hB4⟩
        go_wp2_with fail
        go_roundw
        case rel => exact ⟨0 + 1, by omega, by go_num, by rw [HSt.out, if_neg (by omega), List.nil_append, ← List.append_assoc]; exact hB4, hX4.1⟩
        case measure => simp [intOf]; omega
      · have hjp : 0 < j := by omega
        obtain ⟨jm, hjm⟩ : ∃ jm, j - 1 = jm := ⟨_, rfl⟩
        obtain ⟨cp, _⟩ := HCell.out (j - 1) (by omega)
        have al4 := HAl3.out hjp
        obtain ⟨ap1, ap2, _⟩ := HAll.out (j - 1) (by omega)
        have HSt2 := HSt.out
        rw [hjm] at cp al4 ap1 ap2 HSt2
        obtain ⟨lp, hlp⟩ : ∃ x, lo jm = x := ⟨_, rfl⟩
        rw [hlp] at cp al4 ap1 HSt2
        obtain ⟨x, hx⟩ : ∃ x, lp - hj2 = x := ⟨_, rfl⟩
        obtain ⟨y, hy⟩ : ∃ y, x - 2 = y := ⟨_, rfl⟩
        rw [if_pos hjp, hx, hy] at HSt2
        have ex : (lp : Int) - hj2 = (x : Int) := by omega
        have hwx : IntKind.u64.wrap ((lp : Int) - hj2) = (x : Int) := by rw [ex]; exact IntWalk.u64_in _ (by omega)
        have hwx2 : IntKind.u64.wrap (x : Int) = (x : Int) := IntWalk.u64_in _ (by omega)
        have ey : (x : Int) - 2 = (y : Int) := by omega
        have hwy : IntKind.u64.wrap ((x : Int) - 2) = (y : Int) := by rw [ey]; exact IntWalk.u64_in _ (by omega)
        have hwy2 : IntKind.u64.wrap (y : Int) = (y : Int) := IntWalk.u64_in _ (by omega)
        obtain ⟨VE, hVE⟩ : ∃ K, vputB y = K := ⟨_, rfl⟩
        have hve : VE.size ≤ 8 := by rw [← hVE]; exact vputB_size _
        have hvel : VE.data.toList = vputS y := by rw [← hVE]; rfl
        rw [← hvel] at HSt2
        have HPE := hide (fun w => fputB_any w y)
        rw [hVE] at HPE
        have HSt3 := hide HSt2
        have HCp := hide cp
        have f1 : (j : Int) - 1 = (jm : Int) := by omega
        have fw1 : IntKind.i64.wrap ((j : Int) - 1) = (jm : Int) := by rw [f1]; exact IntWalk.i64_in _ (by omega)
        have fw2 : IntKind.i64.wrap (jm : Int) = (jm : Int) := IntWalk.i64_in _ (by omega)
        have fj0 : (0 : Int) ≤ (jm : Int) := by omega
        have fjm : (jm : Int) < n := by omega
        have fjn : jm < n := by omega
        have fjd : decide ((0 : Int) < j) = true := decide_eq_true (by omega)
        have fje : decide (0 < j) = true := decide_eq_true hjp
        clear HSt HSt2 hlp hx hy hVE hvel cp hjm
        go_wp2_with fail
        clear r0 r1 c0 c1
        have HFr : Hid (∀ w', AXr w w.heap.size #[.int .u64 3, .int .u64 (fa : Nat), .int .u64 (fb : Nat), .int .u64 (fc : Nat), .bool ff, .string fd, .string fm, .slice (some ⟨gl, o, none⟩) n c] wr.heap.size #[.int .u64 (lj : Nat), .int .u64 (hj2 : Nat)] w' → (w'.cell? ⟨w.heap.size, 0, none⟩ = some (.int .u64 3) ∧ w'.cell? ⟨w.heap.size, 1, none⟩ = some (.int .u64 (fa : Nat)) ∧ w'.cell? ⟨w.heap.size, 2, none⟩ = some (.int .u64 (fb : Nat)) ∧ w'.cell? ⟨w.heap.size, 3, none⟩ = some (.int .u64 (fc : Nat)) ∧ w'.cell? ⟨w.heap.size, 4, none⟩ = some (.bool ff) ∧ w'.cell? ⟨w.heap.size, 5, none⟩ = some (.string fd) ∧ w'.cell? ⟨w.heap.size, 6, none⟩ = some (.string fm) ∧ w'.cell? ⟨w.heap.size, 7, none⟩ = some (.slice (some ⟨gl, o, none⟩) n c)) ∧ w'.cell? ⟨gl, o + jm * 2, none⟩ = some (.int .u64 (lp : Nat)) ∧ w'.cell? ⟨wr.heap.size, 0, none⟩ = some (.int .u64 (lj : Nat)) ∧ w'.cell? ⟨wr.heap.size, 1, none⟩ = some (.int .u64 (hj2 : Nat))) := hide (fun w' h => ⟨HFc.out _ h.1, HOld.out w' ⟨gl, o + jm * 2, none⟩ _ h.1 HGl.out HCp.out, h.2.cell 0, h.2.cell 1⟩)
        have HBd := HBr.out.mod (Mod.refl [] (wr.alloc (.cells #[.int .u64 (lj : Nat), .int .u64 (hj2 : Nat)] 47))).drew (by simp)
        have hX1 := HXr.out.mod (Mod.refl [] (wr.alloc (.cells #[.int .u64 (lj : Nat), .int .u64 (hj2 : Nat)] 47))).drew
        have HS := hide (And.intro (HFr.out _ hX1) hX1)
        clear hX1
        go_region_held3 (fun w' => ((w'.cell? ⟨w.heap.size, 0, none⟩ = some (.int .u64 3) ∧ w'.cell? ⟨w.heap.size, 1, none⟩ = some (.int .u64 (fa : Nat)) ∧ w'.cell? ⟨w.heap.size, 2, none⟩ = some (.int .u64 (fb : Nat)) ∧ w'.cell? ⟨w.heap.size, 3, none⟩ = some (.int .u64 (fc : Nat)) ∧ w'.cell? ⟨w.heap.size, 4, none⟩ = some (.bool ff) ∧ w'.cell? ⟨w.heap.size, 5, none⟩ = some (.string fd) ∧ w'.cell? ⟨w.heap.size, 6, none⟩ = some (.string fm) ∧ w'.cell? ⟨w.heap.size, 7, none⟩ = some (.slice (some ⟨gl, o, none⟩) n c)) ∧ w'.cell? ⟨gl, o + jm * 2, none⟩ = some (.int .u64 (lp : Nat)) ∧ w'.cell? ⟨wr.heap.size, 0, none⟩ = some (.int .u64 (lj : Nat)) ∧ w'.cell? ⟨wr.heap.size, 1, none⟩ = some (.int .u64 (hj2 : Nat))) ∧ AXr w w.heap.size #[.int .u64 3, .int .u64 (fa : Nat), .int .u64 (fb : Nat), .int .u64 (fc : Nat), .bool ff, .string fd, .string fm, .slice (some ⟨gl, o, none⟩) n c] wr.heap.size #[.int .u64 (lj : Nat), .int .u64 (hj2 : Nat)] w')
          (first | exact HS.out | assumption)
          (first
            | (go_at_call 55; refine (ak_call (X := AXr w w.heap.size #[.int .u64 3, .int .u64 (fa : Nat), .int .u64 (fb : Nat), .int .u64 (fc : Nat), .bool ff, .string fd, .string fm, .slice (some ⟨gl, o, none⟩) n c] wr.heap.size #[.int .u64 (lj : Nat), .int .u64 (hj2 : Nat)]) (fun _ _ h m => h.mod m) HPE.out (And.right (by assumption)) (by assumption)).mono ?_; rintro e w' ⟨rfl, hX', hB'⟩; have hS' := And.intro (HFr.out _ hX') hX')
            | (go_at_call 30; refine (ak_write (X := AXr w w.heap.size #[.int .u64 3, .int .u64 (fa : Nat), .int .u64 (fb : Nat), .int .u64 (fc : Nat), .bool ff, .string fd, .string fm, .slice (some ⟨gl, o, none⟩) n c] wr.heap.size #[.int .u64 (lj : Nat), .int .u64 (hj2 : Nat)]) _ (fun _ _ h m => h.bld m (by omega) hbw2) (fun _ h => h.1.2.size) (And.right (by assumption)) (by assumption) (by have := HPl.out; simp only [List.length_append, bytes_len]; omega)).mono ?_; rintro e w' ⟨rfl, hX', hB'⟩; have hS' := And.intro (HFr.out _ hX') hX'))
        obtain ⟨_, _, r0, r1⟩ := HFr.out _ hX'
        have hbl := hX'.2.lt
        have HX5 := hide hX'
        have HB5 := hide hB'
        clear hX' hB' hS' HS HBd HFr
        go_wp2_with fail
        refine (ak_call (X := AXr w w.heap.size #[.int .u64 3, .int .u64 (fa : Nat), .int .u64 (fb : Nat), .int .u64 (fc : Nat), .bool ff, .string fd, .string fm, .slice (some ⟨gl, o, none⟩) n c] wr.heap.size #[.int .u64 (lj : Nat), .int .u64 (hj2 : Nat)]) (fun _ _ h m => h.mod m) HPD.out HX5.out HB5.out).mono ?_
        rintro e w3 ⟨rfl, hX3, hB3⟩
        go_wp2_with fail
        refine (ak_write (X := AXr w w.heap.size #[.int .u64 3, .int .u64 (fa : Nat), .int .u64 (fb : Nat), .int .u64 (fc : Nat), .bool ff, .string fd, .string fm, .slice (some ⟨gl, o, none⟩) n c] wr.heap.size #[.int .u64 (lj : Nat), .int .u64 (hj2 : Nat)]) VD (fun _ _ h m => h.bld m (by omega) hbw2) (fun _ h => h.1.2.size) hX3 hB3 (by have := HPl.out; simp only [List.length_append, bytes_len]; omega)).mono ?_
        rintro e w4 ⟨rfl, hX4, hB4⟩
        go_wp2_with fail
        go_roundw
        case rel => exact ⟨j + 1, by omega, by go_num, by rw [HSt3.out]; simp only [← List.append_assoc] at hB4 ⊢; exact hB4, hX4.1⟩
        case measure => simp [intOf]; omega
    · have hjn : n = j := by omega
      subst hjn
      obtain ⟨p0, p1, p2, p3, p4, p5, p6, p7⟩ := HFc.out _ hX
      have HX6 := hide hX
      have HB6 := hide hB
      clear hX hB
      have hnum := fun w => number_any w fm (by omega)
      obtain ⟨N, hN⟩ : ∃ N, numF 0 fm.data.toList = N := ⟨_, rfl⟩
      rw [hN] at hnum HWay
      have HNum := hide hnum
      obtain ⟨VB, hB⟩ : ∃ K, vputB fb = K := ⟨_, rfl⟩
      obtain ⟨VC, hC⟩ : ∃ K, vputB fc = K := ⟨_, rfl⟩
      obtain ⟨VM, hM⟩ : ∃ K, vputB N = K := ⟨_, rfl⟩
      have t1 : VB.size ≤ 8 := by rw [← hB]; exact vputB_size _
      have t2 : VC.size ≤ 8 := by rw [← hC]; exact vputB_size _
      have t3 : VM.size ≤ 8 := by rw [← hM]; exact vputB_size _
      have u1 : ¬ 9223372036854775807 < VB.size + VC.size := by omega
      have u2 : ¬ 9223372036854775807 < VB.size + VC.size + VM.size := by omega
      have pq : ∀ (x : Int) (v : ByteArray), ((x = (fb : Nat) ∧ v = VB) ∨ (x = (fc : Nat) ∧ v = VC) ∨ (x = (N : Nat) ∧ v = VM)) → ∀ w, Calls Tryd.prog 55 #[.int .u64 x] w fun e w' => e = .returned (.string v) ∧ Mod [] w w' := by
        rintro x v (⟨rfl, rfl⟩ | ⟨rfl, rfl⟩ | ⟨rfl, rfl⟩) w
        · rw [← hB]; exact fputB_any w fb
        · rw [← hC]; exact fputB_any w fc
        · rw [← hM]; exact fputB_any w N
      have PQ := hide pq
      obtain ⟨TL, hTL⟩ : ∃ D : ByteArray, VB ++ VC ++ VM = D := ⟨_, rfl⟩
      have hTs : TL.size ≤ 24 := by rw [← hTL, ByteArray.size_append, ByteArray.size_append]; omega
      have hTl : TL.data.toList = vputS fb ++ (vputS fc ++ vputS N) := by rw [← hTL, app_list, app_list, ← hB, ← hC, ← hM]; simp [vputB_list]
      have HTl := hide hTl
      have HPl := hide (HPlen.out n)
      have HBd := HB6.out.mod (Mod.refl [] wr).drew (by simp)
      have hX1 := HX6.out.mod (Mod.refl [] wr).drew
      have HS := hide (And.intro (HFc.out _ hX1) hX1)
      clear hnum hN hB hC hM pq hTl hX1
      go_wp2_with fail
      clear p0 p1 p2 p3 p4 p5 p6 p7
      go_region_held3 (fun w' => (w'.cell? ⟨w.heap.size, 0, none⟩ = some (.int .u64 3) ∧ w'.cell? ⟨w.heap.size, 1, none⟩ = some (.int .u64 (fa : Nat)) ∧ w'.cell? ⟨w.heap.size, 2, none⟩ = some (.int .u64 (fb : Nat)) ∧ w'.cell? ⟨w.heap.size, 3, none⟩ = some (.int .u64 (fc : Nat)) ∧ w'.cell? ⟨w.heap.size, 4, none⟩ = some (.bool ff) ∧ w'.cell? ⟨w.heap.size, 5, none⟩ = some (.string fd) ∧ w'.cell? ⟨w.heap.size, 6, none⟩ = some (.string fm) ∧ w'.cell? ⟨w.heap.size, 7, none⟩ = some (.slice (some ⟨gl, o, none⟩) n c)) ∧ AX w w.heap.size #[.int .u64 3, .int .u64 (fa : Nat), .int .u64 (fb : Nat), .int .u64 (fc : Nat), .bool ff, .string fd, .string fm, .slice (some ⟨gl, o, none⟩) n c] w')
        (first | exact HS.out | assumption)
        (first
          | (go_at_call 73; refine (ak_call HXm.out HNum.out (And.right (by assumption)) (by assumption)).mono ?_; rintro e w' ⟨rfl, hX', hB'⟩; have hS' := And.intro (HFc.out _ hX') hX')
          | (go_at_call 55; refine (ak_call HXm.out (PQ.out _ _ (by first | exact Or.inl ⟨rfl, rfl⟩ | exact Or.inr (Or.inl ⟨rfl, rfl⟩) | exact Or.inr (Or.inr ⟨rfl, rfl⟩))) (And.right (by assumption)) (by assumption)).mono ?_; rintro e w' ⟨rfl, hX', hB'⟩; have hS' := And.intro (HFc.out _ hX') hX')
          | (go_at_call 30; refine (ak_write _ HXb.out HXs.out (And.right (by assumption)) (by assumption) (by have := HPl.out; simp only [List.length_append, bytes_len]; omega)).mono ?_; rintro e w' ⟨rfl, hX', hB'⟩; have hS' := And.intro (HFc.out _ hX') hX'))
      have HX7 := hide hX'
      have HB7 := hide hB'
      clear hS' hX' hB' HBd HS
      go_wp2_with fail
      refine (bstring_any _ w.heap.size (w.heap.size + 1) _ HB7.out HX7.out.2.size).mono ?_
      rintro e w5 ⟨rfl, st⟩
      go_wp2_with fail
      go_ret
      refine ⟨?_, st.mod HX7.out.2 (Nat.le_refl _)⟩
      rw [HWay.out (HD.data.toList ++ (PB n ++ TL.data.toList)) (by rw [HHl.out, HTl.out]; simp only [List.append_assoc])]
      rfl

end Go.Proofs.YtbjmcnmcodbkdaaDoor

/-
  frames: wayOf at whatever frame that may be and has no shape.
-/
namespace Go.Proofs.YtbjmcnmcodbkdaaDoor
open Go.RowKit

theorem way_any (w : World) (A : Option Addr) (n c : Nat) (f : Fr) (hr : Rngs w A n f.list) (hm : fmay f = true) (hs : fshape f.kind = none) :
    Calls Tryd.prog 54 #[fval A n c f] w fun e w' => e = .returned (str (fbytes f)) ∧ Mod [] w w' := by
  obtain ⟨_, _, _, hd, ho⟩ := fmay_parts hm
  have hb : fbytes f = fway f := by unfold fbytes; rw [hs]
  rw [hb]
  rw [hs] at ho
  simp only at ho
  unfold fown at ho
  by_cases h0 : f.kind = 0
  · rw [if_pos h0] at ho
    simp only [Bool.and_eq_true, decide_eq_true_eq] at ho
    exact wayP_any w A n c f h0 (by omega)
  rw [if_neg h0] at ho
  by_cases h2 : f.kind = 2 ∨ f.kind = 3
  · rw [if_pos h2] at ho
    unfold facks at ho
    simp only [Bool.and_eq_true] at ho
    obtain ⟨h3, _, h5⟩ := ho
    by_cases hk : f.kind = 3
    · rw [if_pos hk] at h3
      simp only [Bool.and_eq_true, decide_eq_true_eq] at h3
      exact wayA3_any w A n c f hk hr h5 h3.1
    · exact wayA2_any w A n c f (by omega) hr h5
  rw [if_neg h2] at ho
  by_cases h8 : f.kind = 8
  · exact wayS_any w A n c f h8 hd
  rw [if_neg h8] at ho
  by_cases h24 : f.kind = 24
  · rw [if_pos h24] at ho
    simp only [Bool.and_eq_true, decide_eq_true_eq] at ho
    exact wayC_any w A n c f h24 (by omega) ho.2
  · rw [if_neg h24] at ho
    cases ho
end Go.Proofs.YtbjmcnmcodbkdaaDoor

/-
  frames: parts.
-/
namespace Go.Proofs.YtbjmcnmcodbkdaaDoor
open Go.RowKit

set_option maxHeartbeats 400000 in
theorem parts_any (w : World) (A : Option Addr) (n c : Nat) (f : Fr) :
    Calls Tryd.prog 29 #[fval A n c f] w fun e w' => e = .returned (.func (.func 53) #[] #[.pointer (some ⟨w.heap.size, 0, none⟩)]) ∧ w' = w.alloc (.cells (fcs A n c f) 26) := by
  unfold fval fcs
  go_enter Tryd.func29, Tryd.ntmps29
  go_wp2_with fail
  go_ret
  exact ⟨rfl, rfl⟩
end Go.Proofs.YtbjmcnmcodbkdaaDoor

/-
  frames: Asks.
-/
namespace Go.Proofs.YtbjmcnmcodbkdaaDoor
open Go.RowKit

/-- is a frame asked to be acknowledged -/
def fasks (f : Fr) : Bool := if f.kind = 0 ∨ f.kind = 2 ∨ f.kind = 3 ∨ f.kind = 28 ∨ f.kind = 29 then false else fmay f

set_option maxRecDepth 100000 in
set_option maxHeartbeats 2000000 in
theorem asks_any (w : World) (A : Option Addr) (n c : Nat) (f : Fr) (hr : Rngs w A n f.list) (v : Bool) (hv : fasks f = v) :
    Calls Tryd.prog 22 #[fval A n c f] w (RPost w v) := by
  by_cases h : f.kind = 0 ∨ f.kind = 2 ∨ f.kind = 3 ∨ f.kind = 28 ∨ f.kind = 29
  · have hvf : v = false := by rw [← hv]; unfold fasks; rw [if_pos h]
    subst hvf
    clear hv hr
    unfold fval fcs
    obtain ⟨fk, hk⟩ : ∃ k, f.kind = k := ⟨_, rfl⟩
    rw [hk] at h ⊢
    clear hk
    rcases h with rfl | rfl | rfl | rfl | rfl
    all_goals
      go_enter Tryd.func22, Tryd.ntmps22
      go_wp2_with fail
      go_ret
      exact RPost.of rfl ((Mod.refl _ _).alloc _)
  · have hvf : fmay f = v := by rw [← hv]; unfold fasks; rw [if_neg h]
    have HM := hide (fun w' (hr : Rngs w' A n f.list) => may_any w' A n c f hr v hvf)
    have HR := hide (hr.new ((Mod.refl [] w).alloc (.cells (fcs A n c f) 26)))
    have b0 : ((f.kind : Int) == 0) = false := by simp; omega
    have b2 : ((f.kind : Int) == 2) = false := by simp; omega
    have b3 : ((f.kind : Int) == 3) = false := by simp; omega
    have b28 : ((f.kind : Int) == 28) = false := by simp; omega
    have b29 : ((f.kind : Int) == 29) = false := by simp; omega
    clear hv hvf h hr
    unfold fval fcs at *
    go_enter Tryd.func22, Tryd.ntmps22
    go_wp2_with fail
    refine (HM.out _ HR.out).mono ?_
    rintro e w1 ⟨rfl, m1⟩
    go_wp2_with fail
    go_ret
    exact RPost.of rfl (((Mod.refl _ _).alloc _).trans m1 (by simp))
end Go.Proofs.YtbjmcnmcodbkdaaDoor

/-
  frames, plain: how many bytes a frame has at most.
-/
namespace Go.Proofs.YtbjmcnmcodbkdaaDoor
open Go.RowKit

theorem rbytes_len : ∀ (l : List (Nat × Nat)) (p : Nat), (rbytes p l).length ≤ 16 * l.length
  | [], _ => by simp [rbytes]
  | r :: t, p => by
    have h1 := rbytes_len t r.1
    have h2 := vputS_le (p - r.2 - 2)
    have h3 := vputS_le (r.2 - r.1)
    unfold rbytes
    simp only [List.length_append, List.length_cons]
    omega
theorem fnums_len (n : Nat) (f : Fr) (h : n ≤ 3) : (fnums n f).length ≤ 24 := by
  have h1 := vputS_le f.a
  have h2 := vputS_le f.b
  have h3 := vputS_le f.c
  unfold fnums
  match n, h with
  | 0, _ => simp
  | 1, _ => simp; omega
  | 2, _ => simp; omega
  | 3, _ => simp; omega
theorem ftext_len (s : ByteArray) : (ftext s).length ≤ 8 + s.size := by
  have := vputS_le s.size
  unfold ftext
  simp only [List.length_append, bytes_len]
  omega
theorem fbytes_le {f : Fr} (hm : fmay f = true) : (fbytes f).length ≤ 17000 := by
  obtain ⟨_, _, _, hd, ho⟩ := fmay_parts hm
  have ht := ftext_len f.data
  unfold fbytes
  cases hs : fshape f.kind with
  | some s =>
    have h1 := vputS_le f.kind
    have h2 := fnums_len s.n f (fshape_lt hs).2.1
    have h3 : (ftail s f).length ≤ 8 + f.data.size := by
      unfold ftail
      split
      · exact ht
      · split
        · rw [bytes_len]; omega
        · simp
    simp only [List.length_append]
    omega
  | none =>
    rw [hs] at ho
    simp only at ho ⊢
    unfold fown at ho
    unfold fway
    by_cases h0 : f.kind = 0
    · rw [if_pos h0] at ho ⊢
      simp only [Bool.and_eq_true, decide_eq_true_eq] at ho
      simp only [List.length_replicate]
      omega
    rw [if_neg h0] at ho ⊢
    by_cases h8 : f.kind = 8
    · rw [if_pos h8]
      have h1 := vputS_le (10 + (if f.b = 0 then 0 else 4) + (if f.fin then 1 else 0))
      have h2 := vputS_le f.a
      have h3 := vputS_le f.b
      unfold fstream
      simp only [List.length_append]
      split
      · simp only [List.length_nil]; rename_i hb; rw [if_pos hb] at h1; omega
      · rename_i hb; rw [if_neg hb] at h1; omega
    rw [if_neg h8]
    by_cases h24 : f.kind = 24
    · rw [if_pos h24]
      rw [if_neg (by omega), if_neg h8, if_pos h24] at ho
      simp only [Bool.and_eq_true, decide_eq_true_eq] at ho
      have h1 := vputS_le 24
      have h2 := vputS_le f.a
      have h3 := vputS_le f.b
      unfold fcid
      simp only [List.length_append, List.length_cons, bytes_len]
      omega
    rw [if_neg h24]
    by_cases h2 : f.kind = 2 ∨ f.kind = 3
    · rw [if_pos h2] at ho
      unfold facks rngs at ho
      simp only [Bool.and_eq_true, decide_eq_true_eq] at ho
      have hl := ho.2.2.2.2
      unfold fack
      cases hf : f.list with
      | nil => simp
      | cons r t =>
        rw [hf] at hl
        simp only [List.length_cons] at hl
        have h1 := vputS_le f.kind
        have h3 := vputS_le r.2
        have h4 := vputS_le f.a
        have h5 := vputS_le t.length
        have h6 := vputS_le (r.2 - r.1)
        have h7 := rbytes_len t r.1
        have h8 := vputS_le f.b
        have h9 := vputS_le f.c
        have h10 := vputS_le (numF 0 f.more.data.toList)
        simp only [List.length_append]
        split
        · simp only [List.length_append]; omega
        · simp only [List.length_nil]; omega
    · rw [if_neg h2, if_neg h8, if_neg h24] at ho
      cases ho
end Go.Proofs.YtbjmcnmcodbkdaaDoor

/-
  frames: the iterator that parts hands back, where there is no shape.
-/
namespace Go.Proofs.YtbjmcnmcodbkdaaDoor
open Go.RowKit Go.Shelf

/-- what a round keeps -/
def KpB (A B : World) : Prop := A.heap.size ≤ B.heap.size ∧ ∀ g t cs, t ≠ 5 → t ≠ 57 → Blk A g t cs → Blk B g t cs
/-- a piece -/
abbrev Pc := { s : ByteArray // s.size ≤ 17000 }
def cat (ss : List Pc) : List UInt8 := (ss.map fun s => s.1.data.toList).flatten
theorem Mod.grows {w w' : World} (h : Mod [] w w') : w.grownBy w' none :=
  ⟨h.os, h.tape, h.output, h.size, fun k hk _ => h.block k hk (by simp)⟩

set_option maxRecDepth 100000 in
set_option maxHeartbeats 1000000 in
theorem iterN_any (k l : Nat) (W : World) (J Jx : List Pc → World → Prop) (Bx : Nat) (A : Option Addr) (n c : Nat) (f : Fr) (hb : Blk W Bx 26 (fcs A n c f)) (hr : Rngs W A n f.list) (hm : fmay f = true) (hs : fshape f.kind = none)
    (hJ : AbidesFrom W.heap.size J)
    (hY : ∀ pre (x : Pc) W1, J pre W1 → pre.length < 5 → YieldAt Fence.wide (k - 1) Tryd.prog l #[.string x.1] W1 fun e W' => (e = .returned (.bool true) ∧ J (pre ++ [x]) W' ∧ KpB W1 W') ∨ (e = .returned (.bool false) ∧ Jx (pre ++ [x]) W')) (h0 : J [] W) :
    CallsIn Fence.wide k Tryd.prog 53 #[.func (.yield l) #[] #[], .pointer (some ⟨Bx, 0, none⟩)] W fun e W' => (∃ v, e = .returned v) ∧
      ((∃ ss, cat ss = fbytes f ∧ J ss W') ∨ (∃ pre, True ∧ Jx pre W')) := by
  have HSh := hide (fun w => shapes_any w f.kind)
  have HWay := hide (fun w (h : Rngs w A n f.list) => way_any w A n c f h hm hs)
  have hS : shS f.kind = sh0 := by unfold shS; rw [hs]; rfl
  rw [hS, hs] at HSh
  have HB := hide hb
  have HR := hide hr
  have H0 := hide h0
  have HJ := hide hJ
  have HY := hide hY
  obtain ⟨p0, p1, p2, p3, p4, p5, p6, p7⟩ := fcells hb
  obtain ⟨D, hD⟩ : ∃ D : ByteArray, (⟨(fbytes f).toArray⟩ : ByteArray) = D := ⟨_, rfl⟩
  have hDs : D.size ≤ 17000 := by rw [← hD]; exact fbytes_le hm
  have hcat : cat [⟨D, hDs⟩] = fbytes f := by unfold cat; simp [← hD]
  have hstr : str (fbytes f) = .string D := by rw [← hD]; rfl
  rw [hstr] at HWay
  have HCat := hide hcat
  clear hb hr hm hs h0 hS hJ hY hD hcat hstr
  unfold fval fcs at *
  refine callsIn_of_wp Tryd.func53 rfl trivial ?_ rfl
  simp only [Tryd.ntmps53, List.size_toArray, List.length_cons, List.length_nil, Nat.reduceAdd, Nat.reduceSub, Array.replicate_succ, Array.replicate_zero, List.push_toArray, List.append_toArray, List.nil_append, List.cons_append]
  gi_wp2
  refine ⟨trivial, fun h => (by cases h), (callsIn_wide.2 (HSh.out _)).mono ?_⟩
  rintro e w1 ⟨rfl, m1⟩
  have hm2 : Mod [] W (w1.alloc (.cells #[.int .i64 0, .bool false, .int .i64 0] 72)) := m1.alloc _
  have hbx := hm2.blk HB.out (by simp)
  obtain ⟨p0, p1, p2, p3, p4, p5, p6, p7⟩ := fcells hbx
  have hlt := hbx.lt
  have HM2 := hide hm2
  have HR2 := hide (HR.out.new hm2)
  clear hm2 hbx m1
  unfold shval sh0
  gi_wp2
  refine ⟨trivial, fun h => (by cases h), (callsIn_wide.2 (HWay.out _ HR2.out)).mono ?_⟩
  rintro e w3 ⟨rfl, m3⟩
  have hm3 := HM2.out.trans m3 (by simp)
  obtain ⟨fn, tmps, assign, body, hy, hR⟩ := HY.out [] ⟨D, hDs⟩ w3 (HJ.out [] W w3 none H0.out hm3.grows (fun r e => by cases e)) (by simp)
  dsimp only at hy
  gi_wp2
  refine ⟨fun h => (by cases h), hR.mono ?_⟩
  rintro e W3 (⟨rfl, hJ3, _⟩ | ⟨rfl, hJx3⟩)
  · gi_wp2
    refine bodyPost_ret (results_none rfl _ _ _) rfl ?_
    exact ⟨⟨_, rfl⟩, .inl ⟨[⟨D, hDs⟩], HCat.out, hJ3⟩⟩
  · gi_wp2
    refine bodyPost_ret (results_none rfl _ _ _) rfl ?_
    exact ⟨⟨_, rfl⟩, .inr ⟨[⟨D, hDs⟩], trivial, hJx3⟩⟩
end Go.Proofs.YtbjmcnmcodbkdaaDoor

/-
  frames: the iterator that parts hands back, where there is a shape.
-/
namespace Go.Proofs.YtbjmcnmcodbkdaaDoor
open Go.RowKit Go.Shelf

def fnum (f : Fr) (i : Nat) : Nat := [f.a, f.b, f.c].getD i 0
/-- what has come behind j numbers -/
def pput (n : Nat) : Pc := ⟨vputB n, Nat.le_trans (vputB_size n) (by omega)⟩
def spre (f : Fr) (j : Nat) : List Pc := pput f.kind :: (List.range j).map fun i => pput (fnum f i)
theorem spre_succ (f : Fr) (j : Nat) : spre f (j + 1) = spre f j ++ [pput (fnum f j)] := by
  unfold spre
  rw [List.range_succ, List.map_append]
  rfl
theorem spre_len (f : Fr) (j : Nat) : (spre f j).length = j + 1 := by simp [spre]
theorem cat_app (a b : List Pc) : cat (a ++ b) = cat a ++ cat b := by unfold cat; simp
theorem cat_one (s : Pc) : cat [s] = s.1.data.toList := by unfold cat; simp
theorem spre_cat (f : Fr) : ∀ j, j ≤ 3 → cat (spre f j) = vputS f.kind ++ fnums j f
  | 0, _ => by simp [spre, cat, fnums, vputB_list, pput]
  | 1, _ => by simp [spre, cat, fnums, vputB_list, pput, fnum]
  | 2, _ => by simp [spre, cat, fnums, vputB_list, pput, fnum, List.range_succ]
  | 3, _ => by simp [spre, cat, fnums, vputB_list, pput, fnum, List.range_succ]
  | k + 4, h => by omega

set_option maxRecDepth 100000 in
set_option maxHeartbeats 2000000 in
theorem iterS_any (k l : Nat) (W : World) (J Jx : List Pc → World → Prop) (Bx : Nat) (A : Option Addr) (n c : Nat) (f : Fr) (hb : Blk W Bx 26 (fcs A n c f)) (s : Shp) (hm : fmay f = true) (hs : fshape f.kind = some s)
    (hJ : AbidesFrom W.heap.size J)
    (hY : ∀ pre (x : Pc) W1, J pre W1 → pre.length < 5 → YieldAt Fence.wide (k - 1) Tryd.prog l #[.string x.1] W1 fun e W' => (e = .returned (.bool true) ∧ J (pre ++ [x]) W' ∧ KpB W1 W') ∨ (e = .returned (.bool false) ∧ Jx (pre ++ [x]) W')) (h0 : J [] W) :
    CallsIn Fence.wide k Tryd.prog 53 #[.func (.yield l) #[] #[], .pointer (some ⟨Bx, 0, none⟩)] W fun e W' => (∃ v, e = .returned v) ∧
      ((∃ ss, cat ss = fbytes f ∧ J ss W') ∨ (∃ pre, True ∧ Jx pre W')) := by
  have HSh := hide (fun w => shapes_any w f.kind)
  have hS : shS f.kind = s := by unfold shS; rw [hs]; rfl
  have hby : ∀ ss, cat ss = cat (spre f s.n) ++ ftail s f → cat ss = fbytes f := fun ss h => by
    rw [h, spre_cat f s.n (fshape_lt hs).2.1]
    unfold fbytes
    rw [hs]
    simp only [List.append_assoc]
  have hsn := (fshape_lt hs).2.1
  have hdz := (fmay_parts hm).2.2.2.1
  have hdd : f.data.size ≤ 17000 := by omega
  have htd : (vputB f.data.size ++ f.data).size ≤ 17000 := by rw [ByteArray.size_append]; have := vputB_size f.data.size; omega
  rw [hS, hs] at HSh
  have HTx := hide (fun w => ftext_any w f.data (by omega))
  have HB := hide hb
  have H0 := hide h0
  have HJ := hide hJ
  have HY := hide hY
  have HBy := hide hby
  obtain ⟨p0, p1, p2, p3, p4, p5, p6, p7⟩ := fcells hb
  clear hb hm hs h0 hS hJ hY hby
  refine callsIn_of_wp Tryd.func53 rfl trivial ?_ rfl
  simp only [Tryd.ntmps53, List.size_toArray, List.length_cons, List.length_nil, Nat.reduceAdd, Nat.reduceSub, Array.replicate_succ, Array.replicate_zero, List.push_toArray, List.append_toArray, List.nil_append, List.cons_append]
  gi_wp2
  refine ⟨trivial, fun h => (by cases h), (callsIn_wide.2 (HSh.out _)).mono ?_⟩
  rintro e w1 ⟨rfl, m1⟩
  unfold shval
  have hm2 : Mod [] W (w1.alloc (.cells #[.int .i64 (s.n : Nat), .bool s.t, .int .i64 (s.x : Nat)] 72)) := m1.alloc _
  have hbx := hm2.blk HB.out (by simp)
  have hsb : Blk (w1.alloc (.cells #[.int .i64 (s.n : Nat), .bool s.t, .int .i64 (s.x : Nat)] 72)) w1.heap.size 72 #[.int .i64 (s.n : Nat), .bool s.t, .int .i64 (s.x : Nat)] := Blk.new _ _ _
  have HBx := hide hbx
  have HSb := hide hsb
  clear p0 p1 p2 p3 p4 p5 p6 p7
  obtain ⟨p0, p1, p2, p3, p4, p5, p6, p7⟩ := fcells hbx
  have HM2 := hide hm2
  have hlt := hbx.lt
  clear hm2 hbx hsb m1
  gi_wp2
  refine ⟨trivial, fun h => (by cases h), (callsIn_wide.2 (fputB_any _ f.kind)).mono ?_⟩
  rintro e w3 ⟨rfl, m3⟩
  have hm3 := HM2.out.trans m3 (by simp)
  have HBx3 := hide (m3.blk HBx.out (by simp))
  have HSb3 := hide (m3.blk HSb.out (by simp))
  obtain ⟨fn, tmps, assign, body, hy, hR⟩ := HY.out [] (pput f.kind) w3 (HJ.out [] W w3 none H0.out hm3.grows (fun r e => by cases e)) (by simp)
  simp only [pput] at hy
  gi_wp2
  refine ⟨fun h => (by cases h), hR.mono ?_⟩
  rintro e w4 (⟨rfl, hJ4, hk4⟩ | ⟨rfl, hJx4⟩)
  rotate_left
  · gi_wp2
    refine bodyPost_ret (results_none rfl _ _ _) rfl ?_
    exact ⟨⟨_, rfl⟩, .inr ⟨_, trivial, hJx4⟩⟩
  · have hbx := hk4.2 _ _ _ (by decide) (by decide) HBx3.out
    have hsb := hk4.2 _ _ _ (by decide) (by decide) HSb3.out
    clear p0 p1 p2 p3 p4 p5 p6 p7 hy hR
    obtain ⟨p0, p1, p2, p3, p4, p5, p6, p7⟩ := fcells hbx
    have s0 := hsb.cell 0
    simp only [List.getElem?_toArray, List.getElem?_cons_zero] at s0
    have l1 := hbx.lt
    have l2 := hsb.lt
    have b1 : (0 : Int) ≤ (s.n : Int) := by omega
    have b2 : (s.n : Int) ≤ 3 := by omega
    have hx5 : Blk (w4.alloc (.cells #[.int .u64 (f.a : Nat), .int .u64 (f.b : Nat), .int .u64 (f.c : Nat)] 23)) w4.heap.size 23 #[.int .u64 (f.a : Nat), .int .u64 (f.b : Nat), .int .u64 (f.c : Nat)] := Blk.new _ _ _
    have HX5 := hide hx5
    have HBx5 := hide (hbx.alloc (.cells #[.int .u64 (f.a : Nat), .int .u64 (f.b : Nat), .int .u64 (f.c : Nat)] 23))
    have HSb5 := hide (hsb.alloc (.cells #[.int .u64 (f.a : Nat), .int .u64 (f.b : Nat), .int .u64 (f.c : Nat)] 23))
    have hwl : W.heap.size ≤ w4.heap.size := Nat.le_trans hm3.size hk4.1
    have HJ5 := hide (HJ.out _ _ _ none hJ4 ((Mod.refl [] w4).alloc (.cells #[.int .u64 (f.a : Nat), .int .u64 (f.b : Nat), .int .u64 (f.c : Nat)] 23)).grows (fun r e => by cases e))
    clear hx5 hbx hsb hJ4 hk4 hm3 m3 HBx HSb HBx3 HSb3 HM2 HB H0 HSh
    gi_wp2
    gi_loopw [36] (fun iv wr => ∃ j : Nat, j ≤ s.n ∧ iv = .int .i64 (j : Int) ∧ J (spre f j) wr ∧ Blk wr Bx 26 (fcs A n c f) ∧ Blk wr w1.heap.size 72 #[.int .i64 (s.n : Nat), .bool s.t, .int .i64 (s.x : Nat)] ∧ Blk wr w4.heap.size 23 #[.int .u64 (f.a : Nat), .int .u64 (f.b : Nat), .int .u64 (f.c : Nat)]) (fun iv _ => s.n - (intOf iv).toNat)
    case atStart => exact ⟨0, by omega, rfl, HJ5.out, HBx5.out, HSb5.out, HX5.out⟩
    case round =>
      clear p0 p1 p2 p3 p4 p5 p6 p7 s0 l1 l2
      obtain ⟨j, hj, rfl, hJr, hB, hSb, hX⟩ := hrel
      by_cases h : j < s.n
      · have c0 : wr.cell? ⟨w4.heap.size, j, none⟩ = some (.int .u64 (fnum f j : Nat)) := by
          rw [hX.cell j]
          have : j = 0 ∨ j = 1 ∨ j = 2 := by omega
          rcases this with rfl | rfl | rfl <;> rfl
        have HBr := hide hB
        have HSr := hide hSb
        have HXr := hide hX
        have HJr := hide hJr
        obtain ⟨x, hx⟩ : ∃ x, fnum f j = x := ⟨_, rfl⟩
        rw [hx] at c0
        have hsx : spre f (j + 1) = spre f j ++ [pput x] := by rw [spre_succ, hx]
        have HSx := hide hsx
        clear hB hSb hX hJr hx hsx
        gi_wp2
        refine ⟨trivial, fun h => (by cases h), (callsIn_wide.2 (fputB_any _ x)).mono ?_⟩
        rintro e w6 ⟨rfl, m6⟩
        have HB6 := hide (m6.blk HBr.out (by simp))
        have HS6 := hide (m6.blk HSr.out (by simp))
        have HX6 := hide (m6.blk HXr.out (by simp))
        obtain ⟨fn, tmps, assign, body, hy, hR⟩ := HY.out (spre f j) (pput x) w6 (HJ.out _ _ _ none HJr.out m6.grows (fun r e => by cases e)) (by rw [spre_len]; omega)
        simp only [pput] at hy
        gi_wp2
        refine ⟨fun h => (by cases h), hR.mono ?_⟩
        rintro e w7 (⟨rfl, hJ7, hk7⟩ | ⟨rfl, hJx7⟩)
        · gi_wp2
          go_roundw
          case rel => exact ⟨j + 1, by omega, by go_num, by rw [HSx.out]; exact hJ7, hk7.2 _ _ _ (by decide) (by decide) HB6.out, hk7.2 _ _ _ (by decide) (by decide) HS6.out, hk7.2 _ _ _ (by decide) (by decide) HX6.out⟩
          case measure => simp [intOf]; omega
        · gi_wp2
          refine bodyPost_ret (results_none rfl _ _ _) rfl ?_
          exact ⟨⟨_, rfl⟩, .inr ⟨_, trivial, hJx7⟩⟩
      · have hjn : s.n = j := by omega
        have hbn : cat (spre f j) = cat (spre f s.n) := by rw [hjn]
        obtain ⟨p0, p1, p2, p3, p4, p5, p6, p7⟩ := fcells hB
        have s1 : wr.cell? ⟨w1.heap.size, 1, none⟩ = some (.bool s.t) := hSb.cell 1
        have s2 : wr.cell? ⟨w1.heap.size, 2, none⟩ = some (.int .i64 (s.x : Nat)) := hSb.cell 2
        have l1 := hB.lt
        have l2 := hSb.lt
        have HJr := hide hJr
        have HBn := hide hbn
        clear hB hSb hX hJr hbn p0 p1 p2 p3 p4 p6 p7
        cases ht : s.t
        · rw [ht] at s1
          by_cases hx : 0 < s.x
          · have d1 : decide ((0 : Int) < s.x) = true := decide_eq_true (by omega)
            have d2 : decide (0 < s.x) = true := decide_eq_true hx
            have hfin : cat (spre f j ++ [⟨f.data, hdd⟩]) = fbytes f := by
              refine HBy.out _ ?_
              rw [cat_app, HBn.out, cat_one]
              unfold ftail
              rw [ht, if_neg (by simp), if_pos hx]
            have HF := hide hfin
            clear hfin ht
            obtain ⟨fn, tmps, assign, body, hy, hR⟩ := HY.out (spre f j) ⟨f.data, hdd⟩ wr HJr.out (by rw [spre_len]; omega)
            dsimp only at hy
            gi_wp2
            refine ⟨fun h => (by cases h), hR.mono ?_⟩
            rintro e w7 (⟨rfl, hJ7, _⟩ | ⟨rfl, hJx7⟩)
            · gi_wp2
              go_end0
              exact ⟨⟨_, rfl⟩, .inl ⟨_, HF.out, hJ7⟩⟩
            · gi_wp2
              go_end0
              exact ⟨⟨_, rfl⟩, .inr ⟨_, trivial, hJx7⟩⟩
          · have d1 : decide ((0 : Int) < s.x) = false := decide_eq_false (by omega)
            have d2 : decide (0 < s.x) = false := decide_eq_false hx
            have hfin : cat (spre f j) = fbytes f := by
              refine HBy.out _ ?_
              rw [HBn.out]
              unfold ftail
              rw [ht, if_neg (by simp), if_neg hx, List.append_nil]
            have HF := hide hfin
            clear hfin ht
            gi_wp2
            go_end0
            exact ⟨⟨_, rfl⟩, .inl ⟨_, HF.out, HJr.out⟩⟩
        · rw [ht] at s1
          have hfin : cat (spre f j ++ [⟨vputB f.data.size ++ f.data, htd⟩]) = fbytes f := by
            refine HBy.out _ ?_
            rw [cat_app, HBn.out, cat_one]
            unfold ftail ftext
            rw [ht, if_pos rfl, app_list, vputB_list]
          have HF := hide hfin
          clear hfin ht
          gi_wp2
          refine ⟨trivial, fun h => (by cases h), (callsIn_wide.2 (HTx.out _)).mono ?_⟩
          rintro e w6 ⟨rfl, m6⟩
          obtain ⟨fn, tmps, assign, body, hy, hR⟩ := HY.out (spre f j) ⟨vputB f.data.size ++ f.data, htd⟩ w6 (HJ.out _ _ _ none HJr.out m6.grows (fun r e => by cases e)) (by rw [spre_len]; omega)
          dsimp only at hy
          gi_wp2
          refine ⟨fun h => (by cases h), hR.mono ?_⟩
          rintro e w7 (⟨rfl, hJ7, _⟩ | ⟨rfl, hJx7⟩)
          · gi_wp2
            go_end0
            exact ⟨⟨_, rfl⟩, .inl ⟨_, HF.out, hJ7⟩⟩
          · gi_wp2
            go_end0
            exact ⟨⟨_, rfl⟩, .inr ⟨_, trivial, hJx7⟩⟩
end Go.Proofs.YtbjmcnmcodbkdaaDoor

/-
  frames: what parts hands back, as the law on a loop over it asks.
-/
namespace Go.Proofs.YtbjmcnmcodbkdaaDoor
open Go.RowKit Go.Shelf

theorem parts_stops (k : Nat) (Bx : Nat) (A : Option Addr) (n c : Nat) (f : Fr) (w : World) (hb : Blk w Bx 26 (fcs A n c f)) (hr : Rngs w A n f.list) (hm : fmay f = true) :
    SeqStopsK Fence.wide k Tryd.prog 53 #[.pointer (some ⟨Bx, 0, none⟩)] (fun s : Pc => #[Value.string s.1]) KpB (fun ss => cat ss = fbytes f) (fun _ => True) 5 w := fun l J Jx W hW hJ _ hY h0 => by
  have hmod : Mod [] w W := ⟨hW.os, hW.tape, hW.output, hW.size, fun k hk _ => hW.block k hk⟩
  cases hs : fshape f.kind with
  | none => exact iterN_any k l W J Jx Bx A n c f (hmod.blk hb (by simp)) (hr.new hmod) hm hs hJ hY h0
  | some s => exact iterS_any k l W J Jx Bx A n c f (hmod.blk hb (by simp)) s hm hs hJ hY h0
theorem KpB.trans {A B C : World} (h : KpB A B) (k : KpB B C) : KpB A C := ⟨Nat.le_trans h.1 k.1, fun g t cs h1 h2 h3 => k.2 g t cs h1 h2 (h.2 g t cs h1 h2 h3)⟩
theorem KpB.put {W : World} {l : Nat} {o o' : Obj} (h : W.heap[l]? = some o) (hc : o.isCells = false) : KpB W (W.putObj l o') := by
  have hg := grownBy_putObj' W l o'
  refine ⟨hg.size, fun g t cs _ _ hb => ?_⟩
  have hgl : g ≠ l := fun e => by
    subst e
    have : W.heap[g]? = some (.cells cs t) := hb
    rw [h] at this
    cases this
    simp [Obj.isCells] at hc
  exact (hg.block g hb.lt (fun e => hgl (Option.some.inj e))).trans hb

set_option maxRecDepth 100000 in
set_option maxHeartbeats 1000000 in
theorem write0_any (w : World) (A : Option Addr) (n c : Nat) (f : Fr) (hr : Rngs w A n f.list) (hm : fmay f = false) :
    Calls Tryd.prog 17 #[fval A n c f] w fun e w' => e = .returned (.tuple #[.string ⟨#[]⟩, .int .i64 2]) ∧ Mod [] w w' := by
  have HMay := hide (fun w' (h : Rngs w' A n f.list) => may_any w' A n c f h false hm)
  have HR := hide (hr.new ((Mod.refl [] w).alloc (.cells (fcs A n c f) 26)))
  clear hr hm
  unfold fval fcs at *
  go_enter Tryd.func17, Tryd.ntmps17
  go_wp2_with fail
  refine (HMay.out _ HR.out).mono ?_
  rintro e w1 ⟨rfl, m1⟩
  go_wp2_with fail
  go_ret2
  exact ⟨rfl, ((Mod.refl _ _).alloc _).trans m1 (by simp)⟩
end Go.Proofs.YtbjmcnmcodbkdaaDoor

/-
  frames: Write.
-/
namespace Go.Proofs.YtbjmcnmcodbkdaaDoor
open Go.RowKit Go.Shelf

attribute [local go_sem] Oper.semAt_some

/-- between two rounds -/
def WI (w : World) (b : Nat) (pre : List Pc) (W : World) : Prop := BldO W w.heap.size b (cat pre) ∧ (cat pre).length ≤ 17000 * pre.length ∧ Mod [] w W
theorem WI.own (w : World) (b B : Nat) (hB : w.heap.size ≤ B) : OwnFrom B (WI w b) := fun pre W W' row hI hg hr => by
  have hm : Mod (row.toList) W W' := ⟨hg.os, hg.tape, hg.output, hg.size, fun k hk hn => hg.block k hk (fun e => hn (by rw [← e]; simp))⟩
  refine ⟨hI.1.mod hm ?_, hI.2.1, ⟨hm.os.trans hI.2.2.os, hm.tape.trans hI.2.2.tape, hm.output.trans hI.2.2.output, Nat.le_trans hI.2.2.size hm.size, fun k hk _ => ?_⟩⟩
  · intro g hg2
    have hrow : row = some g := by simpa using hg2
    obtain ⟨_, o, ho, hc⟩ := hr g hrow
    obtain ⟨cs, hb⟩ := hI.1.blk
    refine ⟨fun e => ?_, fun cs fz h => ?_⟩
    · subst e
      have : W.heap[g]? = some (.cells cs 57) := hb
      rw [ho] at this; cases this; simp [Obj.isCells] at hc
    · rw [ho] at h; cases h; simp [Obj.isCells] at hc
  · refine (hm.block k (Nat.lt_of_lt_of_le hk hI.2.2.size) (fun hf => ?_)).trans (hI.2.2.block k hk (by simp))
    have hrow : row = some k := by simpa using hf
    have := (hr k hrow).1
    omega

set_option maxRecDepth 100000 in
set_option maxHeartbeats 1000000 in
theorem write1_any (w : World) (A : Option Addr) (n c : Nat) (f : Fr) (hr : Rngs w A n f.list) (hm : fmay f = true) :
    Calls Tryd.prog 17 #[fval A n c f] w fun e w' => e = .returned (.tuple #[str (fbytes f), .int .i64 0]) ∧ Mod [] w w' := by
  have HMay := hide (fun w' (h : Rngs w' A n f.list) => may_any w' A n c f h true hm)
  have HR := hide (hr.new ((Mod.refl [] w).alloc (.cells (fcs A n c f) 26)))
  have HB := hide (Blk.new w 26 (fcs A n c f))
  have HPs := hide (fun w => parts_any w A n c f)
  refine (callsIn_wide (n := 4)).1 ?_
  refine callsIn_of_wp_marks Tryd.func17 rfl trivial ?_ rfl
  simp only [Tryd.ntmps17, List.size_toArray, List.length_cons, List.length_nil, Nat.reduceAdd, Nat.reduceSub, Array.replicate_succ, Array.replicate_zero, List.push_toArray, List.append_toArray, List.nil_append, List.cons_append]
  unfold fval fcs at *
  gi_wp2
  refine ⟨trivial, (callsIn_wide.2 (HMay.out _ HR.out)).mono ?_⟩
  rintro e w1 ⟨rfl, m1⟩
  have hbx := (m1.blk HB.out (by simp)).alloc (.cells #[.pointer none, .slice none 0 0] 57)
  obtain ⟨p0, p1, p2, p3, p4, p5, p6, p7⟩ := fcells hbx
  have hlt := hbx.lt
  gi_wp2
  refine ⟨trivial, (callsIn_wide.2 (HPs.out _)).mono ?_⟩
  rintro e w2 ⟨rfl, rfl⟩
  have hm2 : Mod [] w (w1.alloc (.cells #[.pointer none, .slice none 0 0] 57)) := (((Mod.refl [] w).alloc _).trans m1 (by simp)).alloc _
  have hwl : w.heap.size ≤ w1.heap.size := by have := ((Mod.refl [] w).alloc (.cells (fcs A n c f) 26)).trans m1 (by simp); exact this.size
  have hB0 : BldO (w1.alloc (.cells #[.pointer none, .slice none 0 0] 57)) w.heap.size w1.heap.size [] := BldO.fresh (Blk.new _ _ _) hwl
  have hfb : Blk ((w1.alloc (.cells #[.pointer none, .slice none 0 0] 57)).alloc (.cells (fcs A n c f) 26)) (w1.heap.size + 1) 26 (fcs A n c f) := by
    have := Blk.new (w1.alloc (.cells #[.pointer none, .slice none 0 0] 57)) 26 (fcs A n c f)
    rw [World.size_alloc] at this
    exact this
  have hrr := hr.new (hm2.alloc (.cells (fcs A n c f) 26))
  have hst := parts_stops 3 (w1.heap.size + 1) A n c f _ hfb hrr hm
  have hW0 : WI w w1.heap.size [] ((w1.alloc (.cells #[.pointer none, .slice none 0 0] 57)).alloc (.cells (fcs A n c f) 26)) := ⟨hB0.mod ((Mod.refl [] _).alloc _) (by simp), by simp [cat], hm2.alloc _⟩
  unfold fcs at hst hW0
  gi_wp2
  refine wpIn_rangeFunc_ownG rfl (by omega) (gf := 53) (lb := #[.pointer (some ⟨w1.heap.size + 1, 0, none⟩)]) rfl trivial (enters_of Tryd.func53 (by kernel_rfl) rfl) hst KpB.trans (fun W l o o' _ h1 h2 _ => KpB.put h1 h2) (Below.refl _ _) (fun _ => rfl)
    (WI w w1.heap.size) (fun _ _ _ => False) (WI.own w w1.heap.size _ (by simp only [World.size_alloc]; omega)) (fun _ _ _ _ _ hs _ _ => hs) hW0
    (fun x => { tmps := #[.agg #[.int .u64 (f.kind : Nat), .int .u64 (f.a : Nat), .int .u64 (f.b : Nat), .int .u64 (f.c : Nat), .bool f.fin, .string f.data, .string f.more, .slice A n c], .pointer (some ⟨w.heap.size, 0, none⟩), .string ⟨#[]⟩, .int .i64 0, .pointer (some ⟨w1.heap.size, 0, none⟩), .string x.1, .agg #[.int .u64 (f.kind : Nat), .int .u64 (f.a : Nat), .int .u64 (f.b : Nat), .int .u64 (f.c : Nat), .bool f.fin, .string f.data, .string f.more, .slice A n c], .bool true, .bool false, .agg #[.int .u64 (f.kind : Nat), .int .u64 (f.a : Nat), .int .u64 (f.b : Nat), .int .u64 (f.c : Nat), .bool f.fin, .string f.data, .string f.more, .slice A n c], .func (.func 53) #[] #[.pointer (some ⟨w1.heap.size + 1, 0, none⟩)], .string x.1, undef, undef, undef], defers := [] }) ?assign ?body ?done ?stop
  case assign =>
    intro l x W K hK
    gi_wp2
    exact hK
  case body =>
    rintro l pre x W ⟨hb1, hb2, hb3⟩ hlt
    gi_wp2
    have hxs := x.2
    refine ⟨trivial, (CallsIn.inRound l (callsIn_wide.2 (bwrite_any W w.heap.size w1.heap.size (cat pre) x.1 hb1 (by omega) hb3.size))).mono ?_⟩
    rintro e w6 ⟨rfl, h1, h2⟩
    have hc : cat (pre ++ [x]) = cat pre ++ x.1.data.toList := by rw [cat_app, cat_one]
    have hwi : WI w w1.heap.size (pre ++ [x]) w6 := ⟨by rw [hc]; exact h1, by rw [hc, List.length_append, List.length_append, bytes_len]; simp only [List.length_cons, List.length_nil]; omega, h2.mod hb3 (Nat.le_refl _)⟩
    have hkp : KpB W w6 := ⟨h2.below.size, fun g t cs t1 t2 hb => by
      obtain ⟨bs, hbb⟩ := hb1.blk
      exact h2.blk hb (Blk.ne_ hb hbb t2) t1⟩
    gi_wp2
    exact ⟨⟨h2.below.size, fun k o _ hk ho => h2.others k o hk (fun e => by
      obtain ⟨bs, hbb⟩ := hb1.blk
      cases e
      have h7 : W.heap[w1.heap.size]? = some (.cells bs 57) := hbb
      rw [hk] at h7; cases h7; simp [Obj.isCells] at ho) (fun cs fz e => by subst e; simp [Obj.isCells] at ho)⟩, hkp, hwi⟩
  case done =>
    rintro D ys W hD hS ⟨hb1, hb2, hb3⟩ hK
    gi_wp2
    refine ⟨trivial, (callsIn_wide.2 (bstring_any W w.heap.size w1.heap.size (cat ys) hb1 hb3.size)).mono ?_⟩
    rintro e w6 ⟨rfl, st⟩
    gi_wp2
    have hK6 : w6.heap[D]? = some (.deferred (some [])) := st.others D _ hK (fun e => by
      obtain ⟨bs, hbb⟩ := hb1.blk
      cases e
      have h7 : W.heap[w1.heap.size]? = some (.cells bs 57) := hbb
      rw [hK] at h7; cases h7) (fun cs fz e => by cases e)
    have hm6 := st.mod hb3 (Nat.le_refl _)
    have hDw : w.heap.size ≤ D := by have h8 : w1.heap.size + 1 + 1 ≤ D := by simpa using hD
                                     omega
    have hg := grownBy_putObj' w6 D (.deferred none)
    refine ⟨by simp, .inl ⟨_, _, rfl, run_takeDeferred hK6, ?_⟩⟩
    refine ⟨_, results_tmp2 rfl _ _ _, rfl, ⟨hg.os.trans hm6.os, hg.tape.trans hm6.tape, hg.output.trans hm6.output, Nat.le_trans hm6.size hg.size, fun k hk _ => (hg.block k (Nat.lt_of_lt_of_le hk hm6.size) (fun e => ?_)).trans (hm6.block k hk (by simp))⟩⟩
    cases e
    omega
  case stop =>
    rintro D c pre W _ _ h _
    exact h.elim
end Go.Proofs.YtbjmcnmcodbkdaaDoor

/-
  frames: Write at whatever frame; Size.
-/
namespace Go.Proofs.YtbjmcnmcodbkdaaDoor
open Go.RowKit

def wrB (f : Fr) : ByteArray := ⟨(fwS f).toArray⟩
theorem fwrite_any (w : World) (A : Option Addr) (n c : Nat) (f : Fr) (hr : Rngs w A n f.list) :
    Calls Tryd.prog 17 #[fval A n c f] w fun e w' => e = .returned (.tuple #[.string (wrB f), .int .i64 (fwE f)]) ∧ Mod [] w w' := by
  cases hm : fmay f with
  | true =>
    have e1 : wrB f = ⟨(fbytes f).toArray⟩ := by unfold wrB fwS; rw [hm]; rfl
    have e2 : fwE f = 0 := by unfold fwE; rw [hm]; rfl
    rw [e1, e2]
    exact write1_any w A n c f hr hm
  | false =>
    have e1 : wrB f = ⟨#[]⟩ := by unfold wrB fwS; rw [hm]; rfl
    have e2 : fwE f = 2 := by unfold fwE; rw [hm]; rfl
    rw [e1, e2]
    exact write0_any w A n c f hr hm

set_option maxRecDepth 100000 in
set_option maxHeartbeats 600000 in
theorem size_any (w : World) (A : Option Addr) (n c : Nat) (f : Fr) (hr : Rngs w A n f.list) :
    Calls Tryd.prog 19 #[fval A n c f] w fun e w' => e = .returned (.int .i64 ((fwS f).length : Nat)) ∧ Mod [] w w' := by
  have HW := hide (fun w' (h : Rngs w' A n f.list) => fwrite_any w' A n c f h)
  have HR := hide (hr.new ((Mod.refl [] w).alloc (.cells (fcs A n c f) 26)))
  have hl : (wrB f).size = (fwS f).length := by unfold wrB; simp [ByteArray.size]
  have HL := hide hl
  clear hr hl
  unfold fval fcs at *
  go_enter Tryd.func19, Tryd.ntmps19
  go_wp2_with fail
  refine (HW.out _ HR.out).mono ?_
  rintro e w1 ⟨rfl, m1⟩
  go_wp2_with fail
  go_ret
  exact ⟨by rw [← HL.out]; rfl, ((Mod.refl _ _).alloc _).trans m1 (by simp)⟩
end Go.Proofs.YtbjmcnmcodbkdaaDoor
