/-
  json: Read: the closure that recovers.
-/
import Derived.Test.YtkbpndohpkcikabDoorJsRd7
import Derived.Defers
import Derived.Recover
import Derived.Laws.Pointers
namespace Go.Proofs.YtkbpndohpkcikabDoor
open Go.RowKit Js Go.Sort
set_option linter.unusedVariables false
set_option linter.unusedSimpArgs false

set_option maxRecDepth 100000 in
set_option maxHeartbeats 4000000 in
theorem catch_panicking (w : World) (RB AB EB : Nat) (k : Int) (older : List PanicEntry) (u0 u1 u2 u3 u4 ua ue : Value) (c0 : w.cell? ⟨RB, 0, none⟩ = some u0) (f0 : w.frozen? ⟨RB, 0, none⟩ = false) (c1 : w.cell? ⟨RB, 1, none⟩ = some u1) (f1 : w.frozen? ⟨RB, 1, none⟩ = false) (c2 : w.cell? ⟨RB, 2, none⟩ = some u2) (f2 : w.frozen? ⟨RB, 2, none⟩ = false) (c3 : w.cell? ⟨RB, 3, none⟩ = some u3) (f3 : w.frozen? ⟨RB, 3, none⟩ = false) (c4 : w.cell? ⟨RB, 4, none⟩ = some u4) (f4 : w.frozen? ⟨RB, 4, none⟩ = false) 
    (ca : w.cell? ⟨AB, 0, none⟩ = some ua) (fa : w.frozen? ⟨AB, 0, none⟩ = false) (ce : w.cell? ⟨EB, 0, none⟩ = some ue) (fe : w.frozen? ⟨EB, 0, none⟩ = false) (h1 : ¬ RB = AB) (h2 : ¬ RB = EB) (h3 : ¬ AB = EB) :
    CallsD Tryd.prog 15 #[.pointer (some ⟨RB, 0, none⟩), .pointer (some ⟨AB, 0, none⟩), .pointer (some ⟨EB, 0, none⟩)] (.panicking ({ v := .iface 44 (.int .i64 k), recovered := false } :: older)) w fun e u' w' =>
      e = .returned (.tuple #[]) ∧ u' = .panicking ({ v := .iface 44 (.int .i64 k), recovered := true } :: older) ∧ w' = ((jsets w RB #[.int .i64 0, .int .i64 0, .string ⟨#[]⟩, .slice none 0 0, .slice none 0 0]).setCell ⟨AB, 0, none⟩ (.int .i64 k)).setCell ⟨EB, 0, none⟩ (.int .i64 2) := by
  have h1' : ¬ AB = RB := fun e => h1 e.symm
  have h2' : ¬ EB = RB := fun e => h2 e.symm
  have h3' : ¬ EB = AB := fun e => h3 e.symm
  have hta : ∀ w : World, (Instr.typeAssert (.iface 44 (.int .i64 k)) 20 44 true).run Tryd.prog w = .ok (.tuple #[.int .i64 k, .bool true]) w := fun _ => by kernel_rfl
  refine callsD_of_wpS Tryd.func15 rfl fun c₀ cs hu => ?_
  rw [Tryd.ntmps15]
  have harr : (#[.pointer (some ⟨RB, 0, none⟩), .pointer (some ⟨AB, 0, none⟩), .pointer (some ⟨EB, 0, none⟩)] : Array Value) ++ Array.replicate (13 - (#[.pointer (some ⟨RB, 0, none⟩), .pointer (some ⟨AB, 0, none⟩), .pointer (some ⟨EB, 0, none⟩)] : Array Value).size) undef = #[.pointer (some ⟨RB, 0, none⟩), .pointer (some ⟨AB, 0, none⟩), .pointer (some ⟨EB, 0, none⟩), undef, undef, undef, undef, undef, undef, undef, undef, undef, undef] := rfl
  rw [harr]
  apply wpS_seq
  apply wpS_region
  simp [wpOpsS, go_sem, recoverD, hu, Exit.thenS, hta]
  apply wpS_seq
  apply wpS_region
  simp [wpOpsS, go_sem, Exit.thenS]
  refine wpS_cond (t := true) (by simp [Act.eval]) ?_
  simp only [if_true]
  apply wpS_region
  simp [wpOpsS, go_sem, c0, c1, c2, c3, c4, f0, f1, f2, f3, f4, ca, fa, ce, fe, h1, h2, h3, h1', h2', h3', bodyPostS, results, Tryd.results15, Tryd.underlying25, Tryd.isAgg25, Tryd.sizeOf25, Tryd.zeroValue25, Tryd.isAgg3, Tryd.isAgg28]
  rfl

set_option maxRecDepth 100000 in
set_option maxHeartbeats 4000000 in
theorem catch_idle (w : World) (RB AB EB : Nat) :
    CallsD Tryd.prog 15 #[.pointer (some ⟨RB, 0, none⟩), .pointer (some ⟨AB, 0, none⟩), .pointer (some ⟨EB, 0, none⟩)] .returning w fun e u' w' => e = .returned (.tuple #[]) ∧ u' = .returning ∧ w' = w := by
  have hta : ∀ w : World, (Instr.typeAssert .nilIface 20 44 true).run Tryd.prog w = .ok (.tuple #[.int .i64 0, .bool false]) w := fun _ => by kernel_rfl
  refine callsD_of_wpS Tryd.func15 rfl fun c₀ cs hu => ?_
  rw [Tryd.ntmps15]
  have harr : (#[.pointer (some ⟨RB, 0, none⟩), .pointer (some ⟨AB, 0, none⟩), .pointer (some ⟨EB, 0, none⟩)] : Array Value) ++ Array.replicate (13 - (#[.pointer (some ⟨RB, 0, none⟩), .pointer (some ⟨AB, 0, none⟩), .pointer (some ⟨EB, 0, none⟩)] : Array Value).size) undef = #[.pointer (some ⟨RB, 0, none⟩), .pointer (some ⟨AB, 0, none⟩), .pointer (some ⟨EB, 0, none⟩), undef, undef, undef, undef, undef, undef, undef, undef, undef, undef] := rfl
  rw [harr]
  apply wpS_seq
  apply wpS_region
  simp [wpOpsS, go_sem, recoverD, hu, Exit.thenS, hta]
  apply wpS_seq
  apply wpS_region
  simp [wpOpsS, go_sem, Exit.thenS]
  refine wpS_cond (t := false) (by simp [Act.eval]) ?_
  simp only [Bool.false_eq_true, if_false]
  refine wpS_of_wp (wp_skip ?_)
  cases c₀
  simp_all [bodyPostS, results, Tryd.results15]
theorem results_3cells {P : Program} {fn : Func} {p q r : Tmp} {ty t1 t2 : TypeId} (h : fn.results = #[.cell p ty, .cell q t1, .cell r t2]) (tmps : Array Value) (w : World) (a b c : Addr) (u v x : Value)
    (hp : tmps.getD p undef = .pointer (some a)) (hq : tmps.getD q undef = .pointer (some b)) (hr : tmps.getD r undef = .pointer (some c))
    (h1 : (loadVar ty a).run P w = .ok u w) (h2 : (loadVar t1 b).run P w = .ok v w) (h3 : (loadVar t2 c).run P w = .ok x w) :
    (results fn tmps).run P w = .ok (.tuple #[u, v, x]) w := by
  have e : (results fn tmps).run P w = ((asAddr (tmps.getD p undef)).run P w).andThen fun a w₁ => ((loadVar ty a).run P w₁).andThen fun x w₂ => ((asAddr (tmps.getD q undef)).run P w₂).andThen fun a w₁ => ((loadVar t1 a).run P w₁).andThen fun y w₂ => ((asAddr (tmps.getD r undef)).run P w₂).andThen fun a w₁ => ((loadVar t2 a).run P w₁).andThen fun z w₂ => .ok (.tuple #[x, y, z]) w₂ := by
    simp only [results, h]
    simp [Sem.run_bind, Result.andThen]
  rw [e, hp, hq, hr]
  show ((loadVar ty a).run P w).andThen _ = _
  rw [h1]
  show ((loadVar t1 b).run P w).andThen _ = _
  rw [h2]
  show ((loadVar t2 c).run P w).andThen _ = _
  rw [h3]
  rfl
theorem load_one {T : TypeId} (ha : ∀ w, (isAgg T).run Tryd.prog w = .ok false w) {w : World} {a : Addr} {u : Value} (h : w.cell? a = some u) : (loadVar T a).run Tryd.prog w = .ok u w := by
  simp [loadVar, go_sem, ha, h]
/-- what Read tells -/
def RdP (w : World) (s : List UInt8) (e : Ending) (w' : World) : Prop := ∃ x : JN, e = .returned (.tuple #[.agg x.cells, .int .i64 (jread s).2.1, .int .i64 (jread s).2.2]) ∧ x.v = (jread s).1 ∧ JIn w' x ∧ Mod [] w w'
theorem JVars.up {B C : Nat} {w : World} (h : JVars B w) (hb : B ≤ C) : JVars C w := fun w' h2 => h w' (h2.mono hb)
theorem jread_ok {s : List UInt8} {v : JV} (h : jvalue 8 s = .ok v []) : jread s = (v, 0, 0) := by unfold jread; rw [h]
theorem jread_more {s r : List UInt8} {v : JV} (h : jvalue 8 s = .ok v r) (hr : r ≠ []) : jread s = (jv0, (s.length : Int) - r.length, 2) := by
  unfold jread
  rw [h]
  cases r with
  | nil => exact absurd rfl hr
  | cons c t => rfl
theorem jread_er {s r : List UInt8} (h : jvalue 8 s = .er r) : jread s = (jv0, (s.length : Int) - r.length, 2) := by unfold jread; rw [h]

set_option maxRecDepth 100000 in
set_option maxHeartbeats 16000000 in
theorem read_any (w : World) (s : ByteArray) (hs : s.size ≤ 1000000) (B : Nat) (hB : B ≤ w.heap.size) (hj : JVars B w) :
    Calls Tryd.prog 8 #[.string s] w (RdP w s.data.toList) := by
  have hmf : ∀ (fn : Fn) (first cap : Array Value) (w : World), (Instr.makeFunc fn first cap).run Tryd.prog w = .ok (.func fn first cap) w := fun _ _ _ _ => rfl
  obtain ⟨W1, hW1⟩ : ∃ W1, w.alloc (.cells #[.int .i64 0, .int .i64 0, .string ⟨#[]⟩, .slice none 0 0, .slice none 0 0] 25) = W1 := ⟨_, rfl⟩
  obtain ⟨W2, hW2⟩ : ∃ W2, W1.alloc (.cells #[.int .i64 0] 3) = W2 := ⟨_, rfl⟩
  obtain ⟨W3, hW3⟩ : ∃ W3, W2.alloc (.cells #[.int .i64 0] 28) = W3 := ⟨_, rfl⟩
  obtain ⟨W4, hW4⟩ : ∃ W4, W3.alloc (.cells #[.string s, .int .i64 0] 48) = W4 := ⟨_, rfl⟩
  have z1 : W1.heap.size = w.heap.size + 1 := by rw [← hW1]; exact World.size_alloc _ _
  have z2 : W2.heap.size = w.heap.size + 2 := by rw [← hW2, World.size_alloc, z1]
  have z3 : W3.heap.size = w.heap.size + 3 := by rw [← hW3, World.size_alloc, z2]
  have hRB1 : Blk W1 w.heap.size 25 #[.int .i64 0, .int .i64 0, .string ⟨#[]⟩, .slice none 0 0, .slice none 0 0] := by rw [← hW1]; exact Blk.new _ _ _
  have hAB2 : Blk W2 (w.heap.size + 1) 3 #[.int .i64 0] := by rw [← hW2, ← z1]; exact Blk.new _ _ _
  have hEB3 : Blk W3 (w.heap.size + 2) 28 #[.int .i64 0] := by rw [← hW3, ← z2]; exact Blk.new _ _ _
  have hP4 : Blk W4 (w.heap.size + 3) 48 #[.string s, .int .i64 0] := by rw [← hW4, ← z3]; exact Blk.new _ _ _
  have hRB4 : Blk W4 w.heap.size 25 #[.int .i64 0, .int .i64 0, .string ⟨#[]⟩, .slice none 0 0, .slice none 0 0] := by rw [← hW4, ← hW3, ← hW2]; exact ((hRB1.alloc _).alloc _).alloc _
  have hAB4 : Blk W4 (w.heap.size + 1) 3 #[.int .i64 0] := by rw [← hW4, ← hW3]; exact (hAB2.alloc _).alloc _
  have hEB4 : Blk W4 (w.heap.size + 2) 28 #[.int .i64 0] := by rw [← hW4]; exact hEB3.alloc _
  have hm4 : Mod [] w W4 := by rw [← hW4, ← hW3, ← hW2, ← hW1]; exact ((((Mod.refl [] w).alloc _).alloc _).alloc _).alloc _
  have hrd4 : Rd W4 (w.heap.size + 3) s 0 := ⟨hP4, Nat.zero_le _, hs⟩
  have hj4 : JVars (w.heap.size + 3) W4 := (hj.mod hm4 hB (by simp)).up (by omega)
  have hval := value_any 8 (Nat.le_refl _) W4 (w.heap.size + 3) 0 s hrd4 hj4
  rw [show (9 : Int) - ((8 : Nat) : Int) = 1 from rfl, show rst s 0 = s.data.toList from rfl] at hval
  have HV := hide hval
  have HRB4 := hide hRB4
  have HAB4 := hide hAB4
  have HEB4 := hide hEB4
  have HM4 := hide hm4
  have HRd4 := hide hrd4
  clear hRB1 hAB2 hEB3 hP4 hRB4 hAB4 hEB4 hm4 hrd4 hj4 hval hj
  go_enter_defers Tryd.func8, Tryd.ntmps8
  go_wp2_with fail
  refine HV.out.mono ?_
  rintro e W5 ⟨m5, hp⟩
  have HM5 := hide (HM4.out.trans m5 (by simp))
  have HRB5 := hide (m5.blk HRB4.out (by simp))
  have HAB5 := hide (m5.blk HAB4.out (by simp))
  have HEB5 := hide (m5.blk HEB4.out (by simp))
  cases hx : jvalue 8 s.data.toList with
  | er r =>
    rw [hx] at hp
    obtain ⟨k, rfl, h1, h2⟩ := hp
    have HE : Hid (jread s.data.toList = (jv0, (k : Int), 2)) := hide (by
      rw [jread_er hx]
      have := rst_len s h1
      rw [h2] at this
      rw [bytes_len, this]
      congr 2
      omega)
    clear m5 hx h2
    unfold pan
    dsimp only
    refine leaves_cons (f := 15) (args := #[.pointer (some ⟨w.heap.size, 0, none⟩), .pointer (some ⟨w.heap.size + 1, 0, none⟩), .pointer (some ⟨w.heap.size + 2, 0, none⟩)]) (by simp) (by simp [go_sem]) ?_
    refine (catch_panicking W5 w.heap.size (w.heap.size + 1) (w.heap.size + 2) k [] _ _ _ _ _ _ _ (HRB5.out.cell 0) (HRB5.out.frozen 0) (HRB5.out.cell 1) (HRB5.out.frozen 1) (HRB5.out.cell 2) (HRB5.out.frozen 2) (HRB5.out.cell 3) (HRB5.out.frozen 3) (HRB5.out.cell 4) (HRB5.out.frozen 4) (HAB5.out.cell 0) (HAB5.out.frozen 0) (HEB5.out.cell 0) (HEB5.out.frozen 0) (by omega) (by omega) (by omega)).mono ?_
    rintro e u' W6 ⟨rfl, rfl, rfl⟩
    simp [Leaves, settle, go_sem]
    have hj := jsets_mod W5 w.heap.size #[.int .i64 0, .int .i64 0, .string ⟨#[]⟩, .slice none 0 0, .slice none 0 0]
    have hb6 : Blk (((jsets W5 w.heap.size #[.int .i64 0, .int .i64 0, .string ⟨#[]⟩, .slice none 0 0, .slice none 0 0]).setCell ⟨w.heap.size + 1, 0, none⟩ (.int .i64 (k : Nat))).setCell ⟨w.heap.size + 2, 0, none⟩ (.int .i64 2)) w.heap.size 25 #[.int .i64 0, .int .i64 0, .string ⟨#[]⟩, .slice none 0 0, .slice none 0 0] := ((jsets_blk #[.int .i64 0, .int .i64 0, .string ⟨#[]⟩, .slice none 0 0, .slice none 0 0] HRB5.out rfl rfl).far (p := ⟨w.heap.size + 1, 0, none⟩) (by show w.heap.size ≠ w.heap.size + 1; omega) _).far (p := ⟨w.heap.size + 2, 0, none⟩) (by show w.heap.size ≠ w.heap.size + 2; omega) _
    have ha6 : Blk (((jsets W5 w.heap.size #[.int .i64 0, .int .i64 0, .string ⟨#[]⟩, .slice none 0 0, .slice none 0 0]).setCell ⟨w.heap.size + 1, 0, none⟩ (.int .i64 (k : Nat))).setCell ⟨w.heap.size + 2, 0, none⟩ (.int .i64 2)) (w.heap.size + 1) 3 #[.int .i64 (k : Nat)] := ((hj.blk HAB5.out (by simp)).set_ 0 (.int .i64 (k : Nat))).far (p := ⟨w.heap.size + 2, 0, none⟩) (by show w.heap.size + 1 ≠ w.heap.size + 2; omega) _
    have he6 : Blk (((jsets W5 w.heap.size #[.int .i64 0, .int .i64 0, .string ⟨#[]⟩, .slice none 0 0, .slice none 0 0]).setCell ⟨w.heap.size + 1, 0, none⟩ (.int .i64 (k : Nat))).setCell ⟨w.heap.size + 2, 0, none⟩ (.int .i64 2)) (w.heap.size + 2) 28 #[.int .i64 2] := ((hj.blk HEB5.out (by simp)).far (p := ⟨w.heap.size + 1, 0, none⟩) (by show w.heap.size + 2 ≠ w.heap.size + 1; omega) _).set_ 0 (.int .i64 2)
    have hm6 : Mod [] w (((jsets W5 w.heap.size #[.int .i64 0, .int .i64 0, .string ⟨#[]⟩, .slice none 0 0, .slice none 0 0]).setCell ⟨w.heap.size + 1, 0, none⟩ (.int .i64 (k : Nat))).setCell ⟨w.heap.size + 2, 0, none⟩ (.int .i64 2)) := ((HM5.out.trans hj (by simp)).setCell (p := ⟨w.heap.size + 1, 0, none⟩) (.inr (by show w.heap.size ≤ w.heap.size + 1; omega)) _).setCell (p := ⟨w.heap.size + 2, 0, none⟩) (.inr (by show w.heap.size ≤ w.heap.size + 2; omega)) _
    refine ⟨_, results_3cells rfl _ _ ⟨w.heap.size, 0, none⟩ ⟨w.heap.size + 1, 0, none⟩ ⟨w.heap.size + 2, 0, none⟩ (.agg #[.int .i64 0, .int .i64 0, .string ⟨#[]⟩, .slice none 0 0, .slice none 0 0]) (.int .i64 (k : Nat)) (.int .i64 2) rfl rfl rfl (run_loadVar_row _ w.heap.size 25 25 #[.int .i64 0, .int .i64 0, .string ⟨#[]⟩, .slice none 0 0, .slice none 0 0] (0, 0) _ hb6 Tryd.underlying25 rfl (by kernel_rfl)) (load_one Tryd.isAgg3 (ha6.cell 0)) (load_one Tryd.isAgg28 (he6.cell 0)), ?_⟩
    refine ⟨JN.mk 0 0 ⟨#[]⟩ none 0 [] none 0 [], ?_, ?_, JIn.plain _ _ _ _, hm6⟩
    · rw [HE.out]; rfl
    · rw [HE.out]; rfl
  | ok v r =>
    rw [hx] at hp
    obtain ⟨k, u, rfl, ⟨x, rfl, rfl, hxi, hxf⟩, h1, h2⟩ := hp
    obtain ⟨d0, d1, d2, d3, n3, q3, d4, n4, q4, hcx⟩ := cells5 x
    have HCx := hide hcx
    rw [hcx]
    have HX := hide hxi
    have hjm := jsets_mod W5 w.heap.size #[.int .i64 d0, .int .i64 d1, .string d2, .slice d3 n3 q3, .slice d4 n4 q4]
    have HF : Hid (∀ g ∈ JFoot x, w.heap.size + 3 < g) := hide (fun g hg => by
      have := (hxf g hg).1
      have := HRd4.out.blk.lt
      omega)
    have HX6 := hide (JIn.mod hjm (fun g hg => by have := HF.out g hg; simp; omega) hxi)
    have HM6 := hide (HM5.out.trans hjm (by simp))
    have HRB6 := hide (jsets_blk #[.int .i64 d0, .int .i64 d1, .string d2, .slice d3 n3 q3, .slice d4 n4 q4] HRB5.out rfl rfl)
    have HAB6 := hide (hjm.blk HAB5.out (by simp))
    have HEB6 := hide (hjm.blk HEB5.out (by simp))
    have HR6 := hide (h1.mod hjm (by simp))
    have HK := hide h1.le
    have HL := hide h2
    have HXx := hide hx
    clear m5 hxi hxf h1 h2 hcx hjm hx
    have c0 : W5.cell? ⟨w.heap.size, 0, none⟩ = some (.int .i64 0) := HRB5.out.cell 0
    have f0 : W5.frozen? ⟨w.heap.size, 0, none⟩ = false := HRB5.out.frozen 0
    have c1 : W5.cell? ⟨w.heap.size, 1, none⟩ = some (.int .i64 0) := HRB5.out.cell 1
    have f1 : W5.frozen? ⟨w.heap.size, 1, none⟩ = false := HRB5.out.frozen 1
    have c2 : W5.cell? ⟨w.heap.size, 2, none⟩ = some (.string ⟨#[]⟩) := HRB5.out.cell 2
    have f2 : W5.frozen? ⟨w.heap.size, 2, none⟩ = false := HRB5.out.frozen 2
    have c3 : W5.cell? ⟨w.heap.size, 3, none⟩ = some (.slice none 0 0) := HRB5.out.cell 3
    have f3 : W5.frozen? ⟨w.heap.size, 3, none⟩ = false := HRB5.out.frozen 3
    have c4 : W5.cell? ⟨w.heap.size, 4, none⟩ = some (.slice none 0 0) := HRB5.out.cell 4
    have f4 : W5.frozen? ⟨w.heap.size, 4, none⟩ = false := HRB5.out.frozen 4
    go_upto_region 4 with (fail)
    obtain ⟨W6, hW6⟩ : ∃ W6, jsets W5 w.heap.size #[.int .i64 d0, .int .i64 d1, .string d2, .slice d3 n3 q3, .slice d4 n4 q4] = W6 := ⟨_, rfl⟩
    have hW7 := hW6
    simp only [jsets, show List.range 5 = [0, 1, 2, 3, 4] from rfl, List.foldl_cons, List.foldl_nil] at hW7
    rw [hW6] at HX6 HM6 HRB6 HAB6 HEB6 HR6
    first | rw [hW7] | erw [hW7]
    clear hW6 hW7 c0 f0 c1 f1 c2 f2 c3 f3 c4 f4
    have p0 : W6.cell? ⟨w.heap.size + 3, 0, none⟩ = some (.string s) := HR6.out.blk.cell 0
    have p1 : W6.cell? ⟨w.heap.size + 3, 1, none⟩ = some (.int .i64 (k : Nat)) := HR6.out.blk.cell 1
    by_cases hlt : k < s.size
    · have g1 : decide ((k : Int) < s.size) = true := decide_eq_true (by omega)
      have g2 : decide (k < s.size) = true := decide_eq_true hlt
      have HE2 : Hid (jread s.data.toList = (jv0, (k : Int), 2)) := hide (by
        have hl := rst_len s HK.out
        rw [HL.out] at hl
        rw [jread_more HXx.out (by intro e; rw [e] at hl; simp at hl; omega), bytes_len, hl]
        congr 2
        omega)
      clear hlt
      go_wp2_with fail
      refine (fail_any W6 (w.heap.size + 3) k s HR6.out).mono ?_
      rintro e W7 ⟨rfl, rfl⟩
      unfold pan
      dsimp only
      refine leaves_cons (f := 15) (args := #[.pointer (some ⟨w.heap.size, 0, none⟩), .pointer (some ⟨w.heap.size + 1, 0, none⟩), .pointer (some ⟨w.heap.size + 2, 0, none⟩)]) (by simp) (by simp [go_sem]) ?_
      refine (catch_panicking W7 w.heap.size (w.heap.size + 1) (w.heap.size + 2) k [] _ _ _ _ _ _ _ (HRB6.out.cell 0) (HRB6.out.frozen 0) (HRB6.out.cell 1) (HRB6.out.frozen 1) (HRB6.out.cell 2) (HRB6.out.frozen 2) (HRB6.out.cell 3) (HRB6.out.frozen 3) (HRB6.out.cell 4) (HRB6.out.frozen 4) (HAB6.out.cell 0) (HAB6.out.frozen 0) (HEB6.out.cell 0) (HEB6.out.frozen 0) (by omega) (by omega) (by omega)).mono ?_
      rintro e u' W8 ⟨rfl, rfl, rfl⟩
      simp [Leaves, settle, go_sem]
      have hj := jsets_mod W7 w.heap.size #[.int .i64 0, .int .i64 0, .string ⟨#[]⟩, .slice none 0 0, .slice none 0 0]
      have hb6 : Blk (((jsets W7 w.heap.size #[.int .i64 0, .int .i64 0, .string ⟨#[]⟩, .slice none 0 0, .slice none 0 0]).setCell ⟨w.heap.size + 1, 0, none⟩ (.int .i64 (k : Nat))).setCell ⟨w.heap.size + 2, 0, none⟩ (.int .i64 2)) w.heap.size 25 #[.int .i64 0, .int .i64 0, .string ⟨#[]⟩, .slice none 0 0, .slice none 0 0] := ((jsets_blk #[.int .i64 0, .int .i64 0, .string ⟨#[]⟩, .slice none 0 0, .slice none 0 0] HRB6.out rfl rfl).far (p := ⟨w.heap.size + 1, 0, none⟩) (by show w.heap.size ≠ w.heap.size + 1; omega) _).far (p := ⟨w.heap.size + 2, 0, none⟩) (by show w.heap.size ≠ w.heap.size + 2; omega) _
      have ha6 : Blk (((jsets W7 w.heap.size #[.int .i64 0, .int .i64 0, .string ⟨#[]⟩, .slice none 0 0, .slice none 0 0]).setCell ⟨w.heap.size + 1, 0, none⟩ (.int .i64 (k : Nat))).setCell ⟨w.heap.size + 2, 0, none⟩ (.int .i64 2)) (w.heap.size + 1) 3 #[.int .i64 (k : Nat)] := ((hj.blk HAB6.out (by simp)).set_ 0 (.int .i64 (k : Nat))).far (p := ⟨w.heap.size + 2, 0, none⟩) (by show w.heap.size + 1 ≠ w.heap.size + 2; omega) _
      have he6 : Blk (((jsets W7 w.heap.size #[.int .i64 0, .int .i64 0, .string ⟨#[]⟩, .slice none 0 0, .slice none 0 0]).setCell ⟨w.heap.size + 1, 0, none⟩ (.int .i64 (k : Nat))).setCell ⟨w.heap.size + 2, 0, none⟩ (.int .i64 2)) (w.heap.size + 2) 28 #[.int .i64 2] := ((hj.blk HEB6.out (by simp)).far (p := ⟨w.heap.size + 1, 0, none⟩) (by show w.heap.size + 2 ≠ w.heap.size + 1; omega) _).set_ 0 (.int .i64 2)
      have hm6 : Mod [] w (((jsets W7 w.heap.size #[.int .i64 0, .int .i64 0, .string ⟨#[]⟩, .slice none 0 0, .slice none 0 0]).setCell ⟨w.heap.size + 1, 0, none⟩ (.int .i64 (k : Nat))).setCell ⟨w.heap.size + 2, 0, none⟩ (.int .i64 2)) := ((HM6.out.trans hj (by simp)).setCell (p := ⟨w.heap.size + 1, 0, none⟩) (.inr (by show w.heap.size ≤ w.heap.size + 1; omega)) _).setCell (p := ⟨w.heap.size + 2, 0, none⟩) (.inr (by show w.heap.size ≤ w.heap.size + 2; omega)) _
      refine ⟨_, results_3cells rfl _ _ ⟨w.heap.size, 0, none⟩ ⟨w.heap.size + 1, 0, none⟩ ⟨w.heap.size + 2, 0, none⟩ (.agg #[.int .i64 0, .int .i64 0, .string ⟨#[]⟩, .slice none 0 0, .slice none 0 0]) (.int .i64 (k : Nat)) (.int .i64 2) rfl rfl rfl (run_loadVar_row _ w.heap.size 25 25 #[.int .i64 0, .int .i64 0, .string ⟨#[]⟩, .slice none 0 0, .slice none 0 0] (0, 0) _ hb6 Tryd.underlying25 rfl (by kernel_rfl)) (load_one Tryd.isAgg3 (ha6.cell 0)) (load_one Tryd.isAgg28 (he6.cell 0)), ?_⟩
      refine ⟨JN.mk 0 0 ⟨#[]⟩ none 0 [] none 0 [], ?_, ?_, JIn.plain _ _ _ _, hm6⟩
      · rw [HE2.out]; rfl
      · rw [HE2.out]; rfl
    · have hk : k = s.size := by have := HK.out; omega
      have g1 : decide ((k : Int) < s.size) = false := decide_eq_false (by omega)
      have g2 : decide (k < s.size) = false := decide_eq_false hlt
      have HE2 : Hid (jread s.data.toList = (x.v, 0, 0)) := hide (by
        have hl := rst_len s HK.out
        rw [HL.out, hk, Nat.sub_self] at hl
        obtain rfl := List.eq_nil_of_length_eq_zero hl
        exact jread_ok HXx.out)
      clear hk hlt
      have c0 : W6.cell? ⟨w.heap.size, 0, none⟩ = some (.int .i64 d0) := HRB6.out.cell 0
      have f0 : W6.frozen? ⟨w.heap.size, 0, none⟩ = false := HRB6.out.frozen 0
      have c1 : W6.cell? ⟨w.heap.size, 1, none⟩ = some (.int .i64 d1) := HRB6.out.cell 1
      have f1 : W6.frozen? ⟨w.heap.size, 1, none⟩ = false := HRB6.out.frozen 1
      have c2 : W6.cell? ⟨w.heap.size, 2, none⟩ = some (.string d2) := HRB6.out.cell 2
      have f2 : W6.frozen? ⟨w.heap.size, 2, none⟩ = false := HRB6.out.frozen 2
      have c3 : W6.cell? ⟨w.heap.size, 3, none⟩ = some (.slice d3 n3 q3) := HRB6.out.cell 3
      have f3 : W6.frozen? ⟨w.heap.size, 3, none⟩ = false := HRB6.out.frozen 3
      have c4 : W6.cell? ⟨w.heap.size, 4, none⟩ = some (.slice d4 n4 q4) := HRB6.out.cell 4
      have f4 : W6.frozen? ⟨w.heap.size, 4, none⟩ = false := HRB6.out.frozen 4
      have ca : W6.cell? ⟨w.heap.size + 1, 0, none⟩ = some (.int .i64 0) := HAB6.out.cell 0
      have fa : W6.frozen? ⟨w.heap.size + 1, 0, none⟩ = false := HAB6.out.frozen 0
      have ce : W6.cell? ⟨w.heap.size + 2, 0, none⟩ = some (.int .i64 0) := HEB6.out.cell 0
      have fe : W6.frozen? ⟨w.heap.size + 2, 0, none⟩ = false := HEB6.out.frozen 0
      go_wp2_with fail
      refine leaves_cons (f := 15) (args := #[.pointer (some ⟨w.heap.size, 0, none⟩), .pointer (some ⟨w.heap.size + 1, 0, none⟩), .pointer (some ⟨w.heap.size + 2, 0, none⟩)]) (by simp) (by simp [go_sem]) ?_
      refine (catch_idle _ w.heap.size (w.heap.size + 1) (w.heap.size + 2)).mono ?_
      rintro e u' W8 ⟨rfl, rfl, rfl⟩
      simp [Leaves, settle, go_sem]
      have hj := jsets_mod W6 w.heap.size #[.int .i64 d0, .int .i64 d1, .string d2, .slice d3 n3 q3, .slice d4 n4 q4]
      have hb6 : Blk (((jsets W6 w.heap.size #[.int .i64 d0, .int .i64 d1, .string d2, .slice d3 n3 q3, .slice d4 n4 q4]).setCell ⟨w.heap.size + 1, 0, none⟩ (.int .i64 0)).setCell ⟨w.heap.size + 2, 0, none⟩ (.int .i64 0)) w.heap.size 25 #[.int .i64 d0, .int .i64 d1, .string d2, .slice d3 n3 q3, .slice d4 n4 q4] := ((jsets_blk #[.int .i64 d0, .int .i64 d1, .string d2, .slice d3 n3 q3, .slice d4 n4 q4] HRB6.out rfl rfl).far (p := ⟨w.heap.size + 1, 0, none⟩) (by show w.heap.size ≠ w.heap.size + 1; omega) _).far (p := ⟨w.heap.size + 2, 0, none⟩) (by show w.heap.size ≠ w.heap.size + 2; omega) _
      have ha6 : Blk (((jsets W6 w.heap.size #[.int .i64 d0, .int .i64 d1, .string d2, .slice d3 n3 q3, .slice d4 n4 q4]).setCell ⟨w.heap.size + 1, 0, none⟩ (.int .i64 0)).setCell ⟨w.heap.size + 2, 0, none⟩ (.int .i64 0)) (w.heap.size + 1) 3 #[.int .i64 0] := ((hj.blk HAB6.out (by simp)).set_ 0 (.int .i64 0)).far (p := ⟨w.heap.size + 2, 0, none⟩) (by show w.heap.size + 1 ≠ w.heap.size + 2; omega) _
      have he6 : Blk (((jsets W6 w.heap.size #[.int .i64 d0, .int .i64 d1, .string d2, .slice d3 n3 q3, .slice d4 n4 q4]).setCell ⟨w.heap.size + 1, 0, none⟩ (.int .i64 0)).setCell ⟨w.heap.size + 2, 0, none⟩ (.int .i64 0)) (w.heap.size + 2) 28 #[.int .i64 0] := ((hj.blk HEB6.out (by simp)).far (p := ⟨w.heap.size + 1, 0, none⟩) (by show w.heap.size + 2 ≠ w.heap.size + 1; omega) _).set_ 0 (.int .i64 0)
      have hm6 : Mod [] w (((jsets W6 w.heap.size #[.int .i64 d0, .int .i64 d1, .string d2, .slice d3 n3 q3, .slice d4 n4 q4]).setCell ⟨w.heap.size + 1, 0, none⟩ (.int .i64 0)).setCell ⟨w.heap.size + 2, 0, none⟩ (.int .i64 0)) := ((HM6.out.trans hj (by simp)).setCell (p := ⟨w.heap.size + 1, 0, none⟩) (.inr (by show w.heap.size ≤ w.heap.size + 1; omega)) _).setCell (p := ⟨w.heap.size + 2, 0, none⟩) (.inr (by show w.heap.size ≤ w.heap.size + 2; omega)) _
      have hjm : Mod [w.heap.size, w.heap.size + 1, w.heap.size + 2] W6 (((jsets W6 w.heap.size #[.int .i64 d0, .int .i64 d1, .string d2, .slice d3 n3 q3, .slice d4 n4 q4]).setCell ⟨w.heap.size + 1, 0, none⟩ (.int .i64 0)).setCell ⟨w.heap.size + 2, 0, none⟩ (.int .i64 0)) := ((hj.mono (by simp)).setCell (p := ⟨w.heap.size + 1, 0, none⟩) (.inl (by simp)) _).setCell (p := ⟨w.heap.size + 2, 0, none⟩) (.inl (by simp)) _
      have hx9 := JIn.mod hjm (fun g hg => by have := HF.out g hg; simp; omega) HX6.out
      refine ⟨_, results_3cells rfl _ _ ⟨w.heap.size, 0, none⟩ ⟨w.heap.size + 1, 0, none⟩ ⟨w.heap.size + 2, 0, none⟩ (.agg #[.int .i64 d0, .int .i64 d1, .string d2, .slice d3 n3 q3, .slice d4 n4 q4]) (.int .i64 0) (.int .i64 0) rfl rfl rfl (run_loadVar_row _ w.heap.size 25 25 #[.int .i64 d0, .int .i64 d1, .string d2, .slice d3 n3 q3, .slice d4 n4 q4] (0, 0) _ hb6 Tryd.underlying25 rfl (by kernel_rfl)) (load_one Tryd.isAgg3 (ha6.cell 0)) (load_one Tryd.isAgg28 (he6.cell 0)), ?_⟩
      refine ⟨x, ?_, ?_, hx9, hm6⟩
      · rw [HE2.out, HCx.out]
      · rw [HE2.out]
end Go.Proofs.YtkbpndohpkcikabDoor
