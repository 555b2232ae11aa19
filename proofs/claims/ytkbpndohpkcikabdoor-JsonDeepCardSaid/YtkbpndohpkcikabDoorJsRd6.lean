/-
  json: the reader: many.
-/
import Derived.Test.YtkbpndohpkcikabDoorJsRd5
import Derived.Test.YtkbpndohpkcikabDoorBag
import Derived.Deep.RegionHeldLaw
import Derived.Deep.DeepCutAuto
namespace Go.Proofs.YtkbpndohpkcikabDoor
open Go.RowKit Js Go.Sort
set_option linter.unusedVariables false
set_option linter.unusedSimpArgs false

/-- a step of a list, behind what was read -/
theorem mstep_f (P : Pa JV) (s : List UInt8) (l : List JV) (ks : List (List UInt8)) : ((jstep P false (jmanyT P false) s).bind fun y r => PR.ok (l ++ y.1, ks ++ y.2) r) =
    (P s).bind fun v r => (jtake (fun c => c == 44 || c == 93) r).bind fun c r => if (c == 93) = true then .ok (l ++ [v], ks) r else (jmanyT P false r).bind fun y r => .ok (l ++ (v :: y.1), ks ++ y.2) r := by
  unfold jstep jfront
  simp only [Bool.false_eq_true, if_false, PR.bind]
  cases P s with
  | er r => rfl
  | ok v r =>
    simp only
    cases jtake (fun c => c == 44 || c == 93) r with
    | er r => rfl
    | ok c r =>
      simp only
      by_cases h : (c == 93) = true
      · rw [if_pos h, if_pos h]; simp
      · rw [if_neg h, if_neg h]
        cases jmanyT P false r with
        | er r => rfl
        | ok y r => simp
theorem sep93_in : inB ⟨#[44, 93]⟩ = fun c => c == 44 || c == 93 := by
  funext x
  unfold inB
  show List.contains [44, 93] x = _
  rw [List.contains_cons, List.contains_cons, List.contains_nil, Bool.or_false]
theorem sep125_in : inB ⟨#[44, 125]⟩ = fun c => c == 44 || c == 125 := by
  funext x
  unfold inB
  show List.contains [44, 125] x = _
  rw [List.contains_cons, List.contains_cons, List.contains_nil, Bool.or_false]
theorem conv_bytes (w : World) (g : Nat) (l : List UInt8) (R : List Value) (c : Nat) (h : Blk w g 5 (l.map bv ++ R).toArray) :
    (convert 39 9 (.slice (some ⟨g, 0, none⟩) l.length c)).run Tryd.prog w = .ok (str l) w :=
  run_convert_bytes_back (P := Tryd.prog) w 39 9 5 ⟨g, 0, none⟩ c l Tryd.underlying39 Tryd.underlying5 Tryd.underlying9 (fun j hj => by
    rw [Addr.add_lit, Nat.zero_add, h.cell j]
    rw [List.getElem?_toArray, List.getElem?_append_left (by simpa using hj)]
    simp [bv, hj])
theorem cells5 (x : JN) : ∃ c0 c1 c2 c3 n3 d3 c4 n4 d4, x.cells = #[.int .i64 c0, .int .i64 c1, .string c2, .slice c3 n3 d3, .slice c4 n4 d4] := by cases x; exact ⟨_, _, _, _, _, _, _, _, _, rfl⟩
theorem mstep_t (P : Pa JV) (s s' : List UInt8) (l : List JV) (ks : List (List UInt8)) {kk : List UInt8} (K : Pa (List JV × List (List UInt8))) (hk : jkey s = .ok kk s') : ((jstep P true K s).bind fun y r => PR.ok (l ++ y.1, ks ++ y.2) r) =
    (P s').bind fun v r => (jtake (fun c => c == 44 || c == 125) r).bind fun c r => if (c == 125) = true then .ok (l ++ [v], ks ++ [kk]) r else (K r).bind fun y r => .ok (l ++ (v :: y.1), ks ++ (kk :: y.2)) r := by
  unfold jstep jfront
  simp only [if_true, hk, PR.bind]
  cases P s' with
  | er r => rfl
  | ok v r =>
    simp only
    cases jtake (fun c => c == 44 || c == 125) r with
    | er r => rfl
    | ok c r =>
      simp only
      by_cases h : (c == 125) = true
      · rw [if_pos h, if_pos h]
      · rw [if_neg h, if_neg h]
        cases K r with
        | er r => rfl
        | ok y r => simp
theorem colS_in : inB ⟨#[58]⟩ = (· == 58) := by
  funext x
  unfold inB
  show List.contains [58] x = _
  rw [List.contains_cons, List.contains_nil, Bool.or_false]
/-- an append whose run is known, as one step of a region that draws its order -/
theorem step_append_runL {P : Program} {ops : Array Oper} {o : Oper} {a : Act} {w : World} {K : Act → World → Prop} {Q : Exit → Act → World → Prop} {E : Prop}
    (hg : o.guard = none) (d x : Operand) (dT sT : TypeId) (hop : o.op = Op.call { callee := Callee.builtin Builtin.append, args := #[d, x], argTypes := #[dT, sT] })
    (v u : Value) (hd : a.eval d = v) (hx : a.eval x = u) {v' : Value} {w' : World} (hr : (Builtin.append_ #[dT, sT] o.type #[v, u]).run P w = .ok v' w') (hK : K (a.put o.dst v') w') :
    if Region.wanted o (yielded ops a.tmps) = true then Oper.wp P o a w K Q else E := by
  have hw : Region.wanted o (yielded ops a.tmps) = true := by simp [Region.wanted, hg]
  rw [if_pos hw]
  unfold Oper.wp
  simp [execOp, hop, resolve, invoke, builtin, hd, hx, hr, Result.andThen]
  exact hK
/-- a value that was read: made since w -/
def VQ (w : World) (v : JV) (w' : World) (u : Value) : Prop := ∃ x : JN, u = .agg x.cells ∧ x.v = v ∧ JIn w' x ∧ ∀ g ∈ JFoot x, w.heap.size ≤ g ∧ g < w'.heap.size
/-- value does what it shall, with so many depths left -/
def ValueOk (n : Nat) : Prop := ∀ (w : World) (p k : Nat) (s : ByteArray), Rd w p s k → JVars p w →
  Calls Tryd.prog 16 #[.pointer (some ⟨p, 0, none⟩), .int .i64 (9 - n : Int)] w (RP w p s (jvalue n (rst s k)) (VQ w))
/-- what many tells -/
def MP (w : World) (p vb : Nat) (s : ByteArray) (kd : Int) (x : PR (List JV × List (List UInt8))) (e : Ending) (w' : World) : Prop := Mod [p, vb] w w' ∧ match x with
  | .ok y r => ∃ k', e = .returned (.tuple #[]) ∧ Rd w' p s k' ∧ rst s k' = r ∧ ∃ (A : Option Addr) (c : Nat) (l : List JN) (B : Option Addr) (d : Nat) (ks : List ByteArray), Blk w' vb 25 (JN.mk kd 0 ⟨#[]⟩ A c l B d ks).cells ∧ JN.vs l = y.1 ∧ ks = y.2.map tob ∧
      JIn w' (.mk kd 0 ⟨#[]⟩ A c l B d ks) ∧ ∀ g ∈ JFoot (.mk kd 0 ⟨#[]⟩ A c l B d ks), w.heap.size ≤ g ∧ g < w'.heap.size
  | .er r => ∃ k', e = pan k' ∧ k' ≤ s.size ∧ rst s k' = r
theorem MP.ok {w w' : World} {p vb : Nat} {s : ByteArray} {kd : Int} {x : PR (List JV × List (List UInt8))} {y : List JV × List (List UInt8)} {r : List UInt8} {k : Nat} {A B : Option Addr} {c d : Nat} {l : List JN} {ks : List ByteArray} (hx : x = .ok y r) (m : Mod [p, vb] w w') (hr : Rd w' p s k) (hk : rst s k = r) (hb : Blk w' vb 25 (JN.mk kd 0 ⟨#[]⟩ A c l B d ks).cells) (h1 : JN.vs l = y.1) (h2 : ks = y.2.map tob) (hi : JIn w' (.mk kd 0 ⟨#[]⟩ A c l B d ks)) (hf : ∀ g ∈ JFoot (.mk kd 0 ⟨#[]⟩ A c l B d ks), w.heap.size ≤ g ∧ g < w'.heap.size) : MP w p vb s kd x (.returned (.tuple #[])) w' := by
  subst hx
  exact ⟨m, k, rfl, hr, hk, A, c, l, B, d, ks, hb, h1, h2, hi, hf⟩
theorem MP.er {w w' : World} {p vb : Nat} {s : ByteArray} {kd : Int} {x : PR (List JV × List (List UInt8))} {r : List UInt8} {k : Nat} (hx : x = .er r) (m : Mod [p, vb] w w') (hl : k ≤ s.size) (hk : rst s k = r) : MP w p vb s kd x (pan k) w' := by
  subst hx
  exact ⟨m, k, rfl, hl, hk⟩

set_option maxRecDepth 100000 in
set_option maxHeartbeats 16000000 in
theorem many_false (n : Nat) (hn : n ≤ 8) (hV : ValueOk n) (w : World) (p k vb : Nat) (s : ByteArray) (h : Rd w p s k) (hk : k < s.size) (hv : Blk w vb 25 (JN.mk 5 0 ⟨#[]⟩ none 0 [] none 0 []).cells) (hpv : p < vb) (hj : JVars p w) :
    Calls Tryd.prog 31 #[.pointer (some ⟨p, 0, none⟩), .pointer (some ⟨vb, 0, none⟩), .int .u8 93, .int .i64 (8 - n : Int)] w (MP w p vb s 5 (jlist (jvalue n) false (rst s (k + 1)))) := by
  have hs := h.small
  obtain ⟨base, hbase⟩ : ∃ base, w.heap.size = base := ⟨_, rfl⟩
  have HBs := hide hbase
  have hvlt := hv.lt
  have hpb : p < base := by omega
  have hvb : vb < base := by omega
  have HPb := hide hpb
  have HVb := hide hvb
  have HVp := hide hpv
  have hst := h.step hk
  have m1 : Mod [p, vb] w (w.setCell ⟨p, 1, none⟩ (.int .i64 ((k : Int) + 1))) := (Mod.refl _ w).setCell (.inl (by simp)) _
  have HM1 := hide m1
  have H1 := hide hst
  have HS1 := hide ((MS.fresh hv base).mod (F := [p]) ((Mod.refl [p] w).setCell (p := ⟨p, 1, none⟩) (.inl (by simp)) (.int .i64 ((k : Int) + 1))) (by simp; omega))
  have HJ1 := hide (hj.mod m1 (by omega) (by simp; omega))
  have HSp := hide (fun w' k' (h' : Rd w' p s k') => space_any w' p k' s h')
  have HNx := hide (fun w' k' (h' : Rd w' p s k') => next_mod w' p k' s h')
  have HTx := hide (fun w' k' (h' : Rd w' p s k') => text_any w' p k' s h')
  have HVl := hide hV
  have HGd := hide (Good.value n)
  have a1 : IntKind.i64.wrap ((k : Int) + 1) = (k : Int) + 1 := IntWalk.i64_in _ (by omega)
  have y0 : w.cell? ⟨p, 0, none⟩ = some (.string s) := h.blk.cell 0
  have y1 : w.cell? ⟨p, 1, none⟩ = some (.int .i64 (k : Nat)) := h.blk.cell 1
  have u1 : w.frozen? ⟨p, 1, none⟩ = false := h.blk.frozen 1
  have lp := h.blk.lt
  have HLv := hide hvlt
  have HJ0 := hide hj
  clear h hv hj hst m1 hvlt hpb hvb hV hbase
  go_enter Tryd.func31, Tryd.ntmps31
  go_wp2_with fail
  refine (HSp.out _ _ H1.out).mono ?_
  rintro e w2 ⟨rfl, m2, k2, hr2, hq2⟩
  have HM2 := hide (HM1.out.trans m2 (by simp))
  have H2 := hide hr2
  have HS2 := hide (HS1.out.mod m2 (by simp; have := HPb.out; have := HVp.out; omega))
  have HJ2 := hide (HJ1.out.mod m2 (by have := H1.out.blk.lt; omega) (by simp))
  have HQ2 := hide hq2
  clear m2 hr2 hq2 y0 y1 u1 lp HM1 H1 HS1 HJ1 a1
  go_wp2_with fail
  refine (HNx.out _ _ H2.out).mono ?_
  rintro e w3 ⟨rfl, m3, hr3⟩
  have HM3 := hide (HM2.out.trans m3 (by simp))
  have H3 := hide hr3
  have HS3 := hide (HS2.out.mod m3 (by simp))
  have HJ3 := hide (HJ2.out.mod m3 (by have := H2.out.blk.lt; omega) (by simp))
  clear m3 hr3 HM2 H2 HS2 HJ2
  by_cases hend : (rst s k2).head? = some 93
  · obtain ⟨t, ht⟩ : ∃ t, rst s k2 = 93 :: t := by
      cases hq : rst s k2 with
      | nil => rw [hq] at hend; cases hend
      | cons c t => rw [hq] at hend; cases hend; exact ⟨t, rfl⟩
    obtain ⟨hk2, hkc, hkt⟩ := rst_cons ht
    have HE : Hid (jlist (jvalue n) false (rst s (k + 1)) = .ok ([], []) (rst s (k2 + 1))) := hide (by
      unfold jlist
      simp only
      rw [← HQ2.out, if_pos (by rw [hend]; rfl), ht, hkt]
      rfl)
    have a1 : IntKind.i64.wrap ((k2 : Int) + 1) = (k2 : Int) + 1 := IntWalk.i64_in _ (by omega)
    have HK2 := hide hk2
    rw [hend]
    have e0 : ((((some (93 : UInt8)).getD 0).toNat : Nat) : Int) = 93 := rfl
    rw [e0]
    have y0 : w3.cell? ⟨p, 0, none⟩ = some (.string s) := H3.out.blk.cell 0
    have y1 : w3.cell? ⟨p, 1, none⟩ = some (.int .i64 (k2 : Nat)) := H3.out.blk.cell 1
    have u1 : w3.frozen? ⟨p, 1, none⟩ = false := H3.out.blk.frozen 1
    have lp := H3.out.blk.lt
    clear hend ht hkc hkt hk2
    go_wp2_with fail
    have m4 : Mod [p] w3 (w3.setCell ⟨p, 1, none⟩ (.int .i64 ((k2 : Int) + 1))) := (Mod.refl [p] w3).setCell (.inl (by simp)) _
    have hs4 := HS3.out.mod m4 (by simp; have := HPb.out; have := HVp.out; omega)
    obtain ⟨j1, j2⟩ := hs4.jin (Nat.zero_le _) (Nat.zero_le _)
    refine ⟨rfl, _, results_none rfl _ _ _, ?_⟩
    exact MP.ok HE.out (HM3.out.trans m4 (by simp)) (H3.out.step HK2.out) rfl hs4.v rfl rfl j1 (fun g hg => by have := j2 g hg; have hb := HBs.out; exact ⟨by omega, this.2⟩)
  · have hb : ¬ ((((rst s k2).head?.getD 0).toNat : Nat) : Int) = 93 := by
      intro e
      apply hend
      cases hq : rst s k2 with
      | nil => rw [hq] at e; simp at e
      | cons c t =>
        rw [hq] at e
        simp only [List.head?_cons, Option.getD_some] at e
        have : c = 93 := UInt8.toNat_inj.1 (by show c.toNat = 93; omega)
        rw [this]; rfl
    have HQ3 : Hid (jlist (jvalue n) false (rst s (k + 1)) = jmanyT (jvalue n) false (rst s k2)) := hide (by
      unfold jlist
      simp only
      rw [← HQ2.out, if_neg (by intro e; exact hend (e.trans rfl))])
    obtain ⟨hb0, hhb⟩ : ∃ b : Nat, ((rst s k2).head?.getD 0).toNat = b := ⟨_, rfl⟩
    rw [hhb] at hb ⊢
    have g0 : ((hb0 : Int) == 93) = false := by rw [beq_eq_false_iff_ne]; exact hb
    have g0' : (hb0 == 93) = false := by rw [beq_eq_false_iff_ne]; omega
    clear hend hb hhb
    go_wp2_with fail
    clear g0 g0'
    go_loopw [] (fun wr => ∃ (j c d : Nat) (A B : Option Addr) (l : List JN) (ks : List (List UInt8)), l.length ≤ j ∧ ks.length ≤ j ∧ Hid (Mod [p, vb] w wr) ∧ Hid (Rd wr p s j) ∧ Hid (MS wr base vb 5 A c l B d (ks.map tob)) ∧ Hid (JVars p wr) ∧ Hid (jlist (jvalue n) false (rst s (k + 1)) = (jmanyT (jvalue n) false (rst s j)).bind fun y r => .ok (JN.vs l ++ y.1, ks ++ y.2) r)) (fun wr => s.size - atOf p wr)
    case atStart => exact ⟨k2, 0, 0, none, none, [], [], by simp, by simp, HM3, H3, HS3, HJ3, hide (by rw [HQ3.out]; cases jmanyT (jvalue n) false (rst s k2) <;> rfl)⟩
    case round =>
      obtain ⟨j, c, d, A, B, l, ks, hlj, hkj, hm, hr, hms, hjv, hq⟩ := hrel
      obtain ⟨kb, hkb⟩ : ∃ kb, ks.map tob = kb := ⟨_, rfl⟩
      rw [hkb] at hms
      have hkl : kb.length ≤ j := by rw [← hkb, List.length_map]; exact hkj
      have HKb := hide hkb
      have HKl : Hid (kb.length ≤ 1000000) := hide (by have := hr.out.le; omega)
      have hjs := hr.out.le
      clear hkb
      have q0 : wr.cell? ⟨vb, 0, none⟩ = some (.int .i64 5) := hms.out.v.cell 0
      clear HM3 H3 HS3 HJ3
      go_wp2_with fail
      have HLl : Hid (l.length ≤ 1000000) := hide (by have := hr.out.le; omega)
      have HM9 := hm
      have HS9 := hms
      have H9 := hr
      obtain ⟨kv, hkv⟩ : ∃ kv, j = kv := ⟨_, rfl⟩
      have HEQ : Hid (jlist (jvalue n) false (rst s (k + 1)) = ((jvalue n) (rst s kv)).bind fun v r => (jtake (fun c => c == 44 || c == 93) r).bind fun c r => if (c == 93) = true then .ok (JN.vs l ++ [v], ks) r else (jmanyT (jvalue n) false r).bind fun y r => .ok (JN.vs l ++ (v :: y.1), ks ++ y.2) r) := hide (by
        rw [hq.out, congrFun (jmanyT_eq HGd.out false) (rst s j), ← hkv]
        exact mstep_f _ _ _ _)
      have HA : Hid (atOf p wr = j) := hide (by unfold atOf; rw [hr.out.blk.cell 1]; rfl)
      have HKv : Hid (kv ≤ s.size) := hide (by rw [← hkv]; exact hr.out.le)
      have HKl9 := HKl
      have HKb9 : Hid (kb = ks.map tob) := hide HKb.out.symm
      have HKj9 : Hid (j ≤ kv) := hide (by omega)
      have HKlen : Hid (ks.length ≤ j) := hide hkj
      rw [hkv] at H9
      clear hm hms hr hjv hq
      have HMd := hide HM9.out.drew
      have HSd := hide (HS9.out.mod ((Mod.refl [] wr).drew) (by simp))
      have Hd := hide (H9.out.mod ((Mod.refl [] wr).drew) (by simp))
      have a2 : IntKind.i64.wrap ((8 : Int) - n + 1) = 9 - n := by rw [IntWalk.i64_in _ (by omega)]; omega
      go_cut [60] (fun v wx => ∃ (k7 c' : Nat) (A' : Option Addr) (x : JN), Hid (jvalue n (rst s kv) = .ok x.v (rst s k7)) ∧ Hid (Mod [p, vb] w wx) ∧ Hid (Rd wx p s k7) ∧ Hid (MS wx base vb 5 A' c' (l ++ [x]) B d kb))
      case first =>
        have q3 : wr.drew.cell? ⟨vb, 3, none⟩ = some (.slice A l.length c) := HSd.out.v.cell 3
        have q3w : wr.cell? ⟨vb, 3, none⟩ = some (.slice A l.length c) := HS9.out.v.cell 3
        have lw := HS9.out.v.lt
        have q3x : (wr.alloc (.cells zcs 25)).cell? ⟨vb, 3, none⟩ = some (.slice A l.length c) := (HS9.out.v.alloc _).cell 3
        unfold zcs at q3x
        clear HM9 HS9 H9
        refine wp_region_held_drew (S := fun _ => True) (by kernel_rfl) trivial (fun _ => ?_)
        refine take_dst (i := 0) (v := ?_) 50 rfl rfl (by kernel_rfl) (by kernel_rfl) (by kernel_rfl) (fun _ _ _ h => h) (Or.inl ⟨by rfl, ?_⟩) trivial ?_
        rotate_left
        · intro wq hSw
          go_simp
          first | done | (with_reducible rfl)
        simp only [Act.put, List.setIfInBounds_toArray, List.set_cons_zero, List.set_cons_succ]
        refine take_dst (i := 1) (v := ?_) 51 rfl rfl (by kernel_rfl) (by kernel_rfl) (by kernel_rfl) (fun _ _ _ h => h) (Or.inl ⟨by rfl, ?_⟩) trivial ?_
        rotate_left
        · intro wq hSw
          go_simp
          first | done | (with_reducible rfl)
        simp only [Act.put, List.setIfInBounds_toArray, List.set_cons_zero, List.set_cons_succ]
        refine take_dst (i := 2) (v := ?_) 52 rfl rfl (by kernel_rfl) (by kernel_rfl) (by kernel_rfl) (fun _ _ _ h => h) (Or.inl ⟨by rfl, ?_⟩) trivial ?_
        rotate_left
        · intro wq hSw
          go_simp
          first | done | (with_reducible rfl)
        simp only [Act.put, List.setIfInBounds_toArray, List.set_cons_zero, List.set_cons_succ]
        refine take_dst (i := 4) (v := ?_) 54 rfl rfl (by kernel_rfl) (by kernel_rfl) (by kernel_rfl) (fun _ _ _ h => h) (Or.inl ⟨by rfl, ?_⟩) trivial ?_
        rotate_left
        · intro wq hSw
          go_simp
          first | done | (with_reducible rfl)
        simp only [Act.put, List.setIfInBounds_toArray, List.set_cons_zero, List.set_cons_succ]
        refine take_dst (i := 5) (v := ?_) 55 rfl rfl (by kernel_rfl) (by kernel_rfl) (by kernel_rfl) (fun _ _ _ h => h) (Or.inl ⟨by rfl, ?_⟩) trivial ?_
        rotate_left
        · intro wq hSw
          go_simp
          first | done | (with_reducible rfl)
        simp only [Act.put, List.setIfInBounds_toArray, List.set_cons_zero, List.set_cons_succ]
        refine take_dst (i := 6) (v := ?_) 56 rfl rfl (by kernel_rfl) (by kernel_rfl) (by kernel_rfl) (fun _ _ _ h => h) (Or.inl ⟨by rfl, ?_⟩) trivial ?_
        rotate_left
        · intro wq hSw
          go_simp
          first | done | (with_reducible rfl)
        simp only [Act.put, List.setIfInBounds_toArray, List.set_cons_zero, List.set_cons_succ]
        refine wpAnyH_ready (rs := [3, 7, 9]) (by kernel_rfl) (by simp) ?_
        refine AllReadyH.cons rfl (fun K hK => ?_) (AllReadyH.cons rfl (fun K hK => ?_) (AllReadyH.cons rfl (fun K hK => ?_) AllReadyH.nil))
        · go_simp
          refine hK.out _ _ trivial (fun _ => ?_)
          clear hK K
          try simp only [Act.put, List.setIfInBounds_toArray, List.set_cons_zero, List.set_cons_succ]
          refine take_dst (i := 8) (v := ?_) 58 rfl rfl (by kernel_rfl) (by kernel_rfl) (by kernel_rfl) (fun _ _ _ h => h) (Or.inl ⟨by rfl, ?_⟩) trivial ?_
          rotate_left
          · intro wq hSw
            go_simp
            first | done | (with_reducible rfl)
          simp only [Act.put, List.setIfInBounds_toArray, List.set_cons_zero, List.set_cons_succ]
          refine wpAnyH_ready (rs := [7, 9]) (by kernel_rfl) (by simp) ?_
          refine AllReadyH.cons rfl (fun K hK => ?_) (AllReadyH.cons rfl (fun K hK => ?_) AllReadyH.nil)
          · go_simp
            have hjv1 : JVars p wr.drew := HJ0.out.mod HMd.out (by have := HPb.out; have := HBs.out; omega) (by simp; have := HVp.out; omega)
            refine (HVl.out _ _ _ _ Hd.out hjv1).mono ?_
            rintro e w7 ⟨m7, hp⟩
            have HMc1 := hide (HMd.out.trans m7 (by simp))
            have HSc1 := hide (HSd.out.mod m7 (by simp; have := HPb.out; have := HVp.out; omega))
            cases hx : jvalue n (rst s kv) with
            | er r =>
              rw [hx] at hp
              obtain ⟨k7, rfl, h1, h2⟩ := hp
              have HE : Hid (jlist (jvalue n) false (rst s (k + 1)) = .er r) := hide (by rw [HEQ.out, hx]; rfl)
              clear m7 hx hK
              go_wp2_with fail
              rename_i heq
              cases heq
              exact ⟨rfl, MP.er HE.out HMc1.out h1 h2⟩
            | ok jv r =>
              rw [hx] at hp
              obtain ⟨k7, u, rfl, ⟨x, rfl, rfl, hxi, hxf⟩, h1, h2⟩ := hp
              obtain ⟨c0, c1, c2, c3, n3, d3, c4, n4, d4, hcx⟩ := cells5 x
              have HCx := hide hcx
              rw [hcx]
              clear hcx
              have HX : Hid (jvalue n (rst s kv) = .ok x.v (rst s k7)) := hide (by rw [hx, h2])
              have Hc1 := hide h1
              have HXi1 := hide hxi
              have HXf : Hid (∀ g ∈ JFoot x, base ≤ g ∧ (Value.slice A l.length c).ownBlock ≠ some g ∧ (Value.slice B kb.length d).ownBlock ≠ some g) := hide (fun g hg => by
                have h3 := (hxf g hg).1
                have h4 := HMd.out.size
                have h5 := HBs.out
                refine ⟨by omega, fun e => ?_, fun e => ?_⟩
                · have := (HSd.out.lo.lt g e).2; omega
                · have := (HSd.out.ko.lt g e).2; omega)
              have HF1 : Hid (∀ g ∈ JFoot x, g < w7.heap.size) := hide (fun g hg => (hxf g hg).2)
              clear m7 hx h1 h2 hxi hxf hjv1
              refine hK.out _ _ trivial (fun _ => ?_)
              clear hK K
              try simp only [Act.put, List.setIfInBounds_toArray, List.set_cons_zero, List.set_cons_succ]
              refine wpAnyH_ready (rs := [9]) (by kernel_rfl) (by simp) ?_
              refine AllReadyH.cons rfl (fun K hK => ?_) AllReadyH.nil
              go_simp
              refine hK.out _ _ trivial (fun _ => ?_)
              clear hK K
              try simp only [Act.put, List.setIfInBounds_toArray, List.set_cons_zero, List.set_cons_succ]
              have HMa2 := hide (HMc1.out.alloc (.cells zcs 25))
              have HSa2 := hide (HSc1.out.mod ((Mod.refl [] w7).alloc (.cells zcs 25)) (by simp))
              have Ha2 := hide (Hc1.out.mod ((Mod.refl [] w7).alloc (.cells zcs 25)) (by simp))
              have HZ2 := hide (Blk.new w7 25 zcs)
              have qa2 := HSc1.out.v.lt
              have qb2 : (w7.alloc (.cells zcs 25)).cell? ⟨vb, 3, none⟩ = some (.slice A l.length c) := HSa2.out.v.cell 3
              unfold zcs at qb2
              have HX2 := hide (JIn.new ((Mod.refl [] w7).alloc (.cells zcs 25)) HXi1.out)
              have HF2 : Hid (∀ g ∈ JFoot x, g < (w7.alloc (.cells zcs 25)).heap.size) := hide (fun g hg => Nat.lt_of_lt_of_le (HF1.out g hg) ((Mod.refl [] w7).alloc (.cells zcs 25)).size)
              obtain ⟨g', c', w8, hrun, hv8, hgv, ⟨cur, hcb, hcs⟩, hfin⟩ := HSa2.out.val (W := w) HVb.out (by have := HMa2.out.size; have := HBs.out; omega) HLl.out x HX2.out (fun g hg => ⟨(HXf.out g hg).1, HF2.out g hg, (HXf.out g hg).2⟩) (w7.heap.size) HZ2.out
              have HRun := hide hrun
              have HFin := hide hfin
              have q8 : w8.cell? ⟨vb, 3, none⟩ = some (.slice A l.length c) := hv8.cell 3
              have f8 : w8.frozen? ⟨vb, 3, none⟩ = false := hv8.frozen 3
              have l8 := hv8.lt
              have hvg : ¬ vb = g' := fun e => hgv e.symm
              have lg := hcb.lt
              have hll : ((l.length : Nat) : Int) < (l.length : Int) + 1 := by omega
              have b0 : ∃ u, w8.cell? ⟨g', l.length * 5, none⟩ = some u := ⟨_, (hcb.cell _).trans (Array.getElem?_eq_getElem (by omega))⟩
              obtain ⟨u0, b0⟩ := b0
              have e0 : w8.frozen? ⟨g', l.length * 5, none⟩ = false := hcb.frozen _
              have b1 : ∃ u, w8.cell? ⟨g', l.length * 5 + 1, none⟩ = some u := ⟨_, (hcb.cell _).trans (Array.getElem?_eq_getElem (by omega))⟩
              obtain ⟨u1, b1⟩ := b1
              have e1 : w8.frozen? ⟨g', l.length * 5 + 1, none⟩ = false := hcb.frozen _
              have b2 : ∃ u, w8.cell? ⟨g', l.length * 5 + 2, none⟩ = some u := ⟨_, (hcb.cell _).trans (Array.getElem?_eq_getElem (by omega))⟩
              obtain ⟨u2, b2⟩ := b2
              have e2 : w8.frozen? ⟨g', l.length * 5 + 2, none⟩ = false := hcb.frozen _
              have b3 : ∃ u, w8.cell? ⟨g', l.length * 5 + 3, none⟩ = some u := ⟨_, (hcb.cell _).trans (Array.getElem?_eq_getElem (by omega))⟩
              obtain ⟨u3, b3⟩ := b3
              have e3 : w8.frozen? ⟨g', l.length * 5 + 3, none⟩ = false := hcb.frozen _
              have b4 : ∃ u, w8.cell? ⟨g', l.length * 5 + 4, none⟩ = some u := ⟨_, (hcb.cell _).trans (Array.getElem?_eq_getElem (by omega))⟩
              obtain ⟨u4, b4⟩ := b4
              have e4 : w8.frozen? ⟨g', l.length * 5 + 4, none⟩ = false := hcb.frozen _
              clear hrun hfin hv8 hcb hcs
              refine wpAnyH_ready (rs := [10]) (by kernel_rfl) (by simp) ?_
              refine AllReadyH.cons rfl (fun K hK => ?_) AllReadyH.nil
              refine step_append_runL rfl (.tmp 53) (.tmp 59) 22 22 rfl (.slice A l.length c) (.slice (some ⟨w7.heap.size, 0, none⟩) 1 1) (by simp [Act.eval]) (by simp [Act.eval]) HRun.out ?_
              refine hK.out _ _ trivial (fun _ => ?_)
              clear hK K
              try simp only [Act.put, List.setIfInBounds_toArray, List.set_cons_zero, List.set_cons_succ]
              refine take_dst (i := 13) (v := ?_) 62 rfl rfl (by kernel_rfl) (by kernel_rfl) (by kernel_rfl) (fun _ _ _ h => h) (Or.inl ⟨by rfl, ?_⟩) trivial ?_
              rotate_left
              · intro wq hSw
                go_simp
                first | done | (with_reducible rfl)
              simp only [Act.put, List.setIfInBounds_toArray, List.set_cons_zero, List.set_cons_succ]
              refine take_dst (i := 14) (v := ?_) 63 rfl rfl (by kernel_rfl) (by kernel_rfl) (by kernel_rfl) (fun _ _ _ h => h) (Or.inl ⟨by rfl, ?_⟩) trivial ?_
              rotate_left
              · intro wq hSw
                go_simp
                first | done | (with_reducible rfl)
              simp only [Act.put, List.setIfInBounds_toArray, List.set_cons_zero, List.set_cons_succ]
              refine take_dst (i := 11) (v := ?_) 61 rfl rfl (by kernel_rfl) (by kernel_rfl) (by kernel_rfl) (fun _ _ _ h => h) (Or.inl ⟨by rfl, ?_⟩) trivial ?_
              rotate_left
              · intro wq hSw
                go_simp
                first | done | (with_reducible rfl)
              simp only [Act.put, List.setIfInBounds_toArray, List.set_cons_zero, List.set_cons_succ]
              refine wpAnyH_ready (rs := [12, 15]) (by kernel_rfl) (by simp) ?_
              refine AllReadyH.cons rfl (fun K hK => ?_) (AllReadyH.cons rfl (fun K hK => ?_) AllReadyH.nil)
              · go_simp
                refine hK.out _ _ trivial (fun _ => ?_)
                clear hK K
                try simp only [Act.put, List.setIfInBounds_toArray, List.set_cons_zero, List.set_cons_succ]
                refine wpAnyH_ready (rs := [15]) (by kernel_rfl) (by simp) ?_
                refine AllReadyH.cons rfl (fun K hK => ?_) AllReadyH.nil
                go_simp
                refine hK.out _ _ trivial (fun _ => ?_)
                clear hK K
                try simp only [Act.put, List.setIfInBounds_toArray, List.set_cons_zero, List.set_cons_succ]
                refine wpAnyH_done (by kernel_rfl) ?_ _
                go_wp2_with fail
                go_meet
                obtain ⟨hms9, hmod9, hblk9⟩ := HFin.out _ (.inl (by rw [HCx.out]))
                exact ⟨k7, c', some ⟨g', 0, none⟩, x, HX, hide (hmod9 _ HMa2.out (by have := HBs.out; omega) (by simp)), hide ⟨hblk9 p _ _ HPb.out (by have := HVp.out; omega) Ha2.out.blk, Ha2.out.le, Ha2.out.small⟩, hide hms9⟩
              · go_simp
                refine hK.out _ _ trivial (fun _ => ?_)
                clear hK K
                try simp only [Act.put, List.setIfInBounds_toArray, List.set_cons_zero, List.set_cons_succ]
                refine wpAnyH_ready (rs := [12]) (by kernel_rfl) (by simp) ?_
                refine AllReadyH.cons rfl (fun K hK => ?_) AllReadyH.nil
                go_simp
                refine hK.out _ _ trivial (fun _ => ?_)
                clear hK K
                try simp only [Act.put, List.setIfInBounds_toArray, List.set_cons_zero, List.set_cons_succ]
                refine wpAnyH_done (by kernel_rfl) ?_ _
                go_wp2_with fail
                go_meet
                obtain ⟨hms9, hmod9, hblk9⟩ := HFin.out _ (.inr (by rw [HCx.out]))
                exact ⟨k7, c', some ⟨g', 0, none⟩, x, HX, hide (hmod9 _ HMa2.out (by have := HBs.out; omega) (by simp)), hide ⟨hblk9 p _ _ HPb.out (by have := HVp.out; omega) Ha2.out.blk, Ha2.out.le, Ha2.out.small⟩, hide hms9⟩
          · go_simp
            refine hK.out _ _ trivial (fun _ => ?_)
            clear hK K
            try simp only [Act.put, List.setIfInBounds_toArray, List.set_cons_zero, List.set_cons_succ]
            have HMa3 := hide (HMd.out.alloc (.cells zcs 25))
            have HSa3 := hide (HSd.out.mod ((Mod.refl [] wr.drew).alloc (.cells zcs 25)) (by simp))
            have Ha3 := hide (Hd.out.mod ((Mod.refl [] wr.drew).alloc (.cells zcs 25)) (by simp))
            have HZ3 := hide (Blk.new wr.drew 25 zcs)
            have qa3 := HSd.out.v.lt
            have qb3 : (wr.drew.alloc (.cells zcs 25)).cell? ⟨vb, 3, none⟩ = some (.slice A l.length c) := HSa3.out.v.cell 3
            unfold zcs at qb3
            refine wpAnyH_ready (rs := [7]) (by kernel_rfl) (by simp) ?_
            refine AllReadyH.cons rfl (fun K hK => ?_) AllReadyH.nil
            go_simp
            have hjv4 : JVars p (wr.drew.alloc (.cells zcs 25)) := HJ0.out.mod HMa3.out (by have := HPb.out; have := HBs.out; omega) (by simp; have := HVp.out; omega)
            refine (HVl.out _ _ _ _ Ha3.out hjv4).mono ?_
            rintro e w7 ⟨m7, hp⟩
            have HMc4 := hide (HMa3.out.trans m7 (by simp))
            have HSc4 := hide (HSa3.out.mod m7 (by simp; have := HPb.out; have := HVp.out; omega))
            have HZc4 := hide (m7.blk HZ3.out (by have := Ha3.out.blk.lt; have := HBs.out; have := HPb.out; have := HMa3.out.size; simp; simp at *; omega))
            cases hx : jvalue n (rst s kv) with
            | er r =>
              rw [hx] at hp
              obtain ⟨k7, rfl, h1, h2⟩ := hp
              have HE : Hid (jlist (jvalue n) false (rst s (k + 1)) = .er r) := hide (by rw [HEQ.out, hx]; rfl)
              clear m7 hx hK
              go_wp2_with fail
              rename_i heq
              cases heq
              exact ⟨rfl, MP.er HE.out HMc4.out h1 h2⟩
            | ok jv r =>
              rw [hx] at hp
              obtain ⟨k7, u, rfl, ⟨x, rfl, rfl, hxi, hxf⟩, h1, h2⟩ := hp
              obtain ⟨c0, c1, c2, c3, n3, d3, c4, n4, d4, hcx⟩ := cells5 x
              have HCx := hide hcx
              rw [hcx]
              clear hcx
              have HX : Hid (jvalue n (rst s kv) = .ok x.v (rst s k7)) := hide (by rw [hx, h2])
              have Hc4 := hide h1
              have HXi4 := hide hxi
              have HXf : Hid (∀ g ∈ JFoot x, base ≤ g ∧ (Value.slice A l.length c).ownBlock ≠ some g ∧ (Value.slice B kb.length d).ownBlock ≠ some g) := hide (fun g hg => by
                have h3 := (hxf g hg).1
                have h4 := HMa3.out.size
                have h5 := HBs.out
                refine ⟨by omega, fun e => ?_, fun e => ?_⟩
                · have := (HSa3.out.lo.lt g e).2; omega
                · have := (HSa3.out.ko.lt g e).2; omega)
              have HF4 : Hid (∀ g ∈ JFoot x, g < w7.heap.size) := hide (fun g hg => (hxf g hg).2)
              clear m7 hx h1 h2 hxi hxf hjv4
              refine hK.out _ _ trivial (fun _ => ?_)
              clear hK K
              try simp only [Act.put, List.setIfInBounds_toArray, List.set_cons_zero, List.set_cons_succ]
              obtain ⟨g', c', w8, hrun, hv8, hgv, ⟨cur, hcb, hcs⟩, hfin⟩ := HSc4.out.val (W := w) HVb.out (by have := HMc4.out.size; have := HBs.out; omega) HLl.out x HXi4.out (fun g hg => ⟨(HXf.out g hg).1, HF4.out g hg, (HXf.out g hg).2⟩) (wr.drew.heap.size) HZc4.out
              have HRun := hide hrun
              have HFin := hide hfin
              have q8 : w8.cell? ⟨vb, 3, none⟩ = some (.slice A l.length c) := hv8.cell 3
              have f8 : w8.frozen? ⟨vb, 3, none⟩ = false := hv8.frozen 3
              have l8 := hv8.lt
              have hvg : ¬ vb = g' := fun e => hgv e.symm
              have lg := hcb.lt
              have hll : ((l.length : Nat) : Int) < (l.length : Int) + 1 := by omega
              have b0 : ∃ u, w8.cell? ⟨g', l.length * 5, none⟩ = some u := ⟨_, (hcb.cell _).trans (Array.getElem?_eq_getElem (by omega))⟩
              obtain ⟨u0, b0⟩ := b0
              have e0 : w8.frozen? ⟨g', l.length * 5, none⟩ = false := hcb.frozen _
              have b1 : ∃ u, w8.cell? ⟨g', l.length * 5 + 1, none⟩ = some u := ⟨_, (hcb.cell _).trans (Array.getElem?_eq_getElem (by omega))⟩
              obtain ⟨u1, b1⟩ := b1
              have e1 : w8.frozen? ⟨g', l.length * 5 + 1, none⟩ = false := hcb.frozen _
              have b2 : ∃ u, w8.cell? ⟨g', l.length * 5 + 2, none⟩ = some u := ⟨_, (hcb.cell _).trans (Array.getElem?_eq_getElem (by omega))⟩
              obtain ⟨u2, b2⟩ := b2
              have e2 : w8.frozen? ⟨g', l.length * 5 + 2, none⟩ = false := hcb.frozen _
              have b3 : ∃ u, w8.cell? ⟨g', l.length * 5 + 3, none⟩ = some u := ⟨_, (hcb.cell _).trans (Array.getElem?_eq_getElem (by omega))⟩
              obtain ⟨u3, b3⟩ := b3
              have e3 : w8.frozen? ⟨g', l.length * 5 + 3, none⟩ = false := hcb.frozen _
              have b4 : ∃ u, w8.cell? ⟨g', l.length * 5 + 4, none⟩ = some u := ⟨_, (hcb.cell _).trans (Array.getElem?_eq_getElem (by omega))⟩
              obtain ⟨u4, b4⟩ := b4
              have e4 : w8.frozen? ⟨g', l.length * 5 + 4, none⟩ = false := hcb.frozen _
              clear hrun hfin hv8 hcb hcs
              refine wpAnyH_ready (rs := [10]) (by kernel_rfl) (by simp) ?_
              refine AllReadyH.cons rfl (fun K hK => ?_) AllReadyH.nil
              refine step_append_runL rfl (.tmp 53) (.tmp 59) 22 22 rfl (.slice A l.length c) (.slice (some ⟨wr.drew.heap.size, 0, none⟩) 1 1) (by simp [Act.eval]) (by simp [Act.eval]) HRun.out ?_
              refine hK.out _ _ trivial (fun _ => ?_)
              clear hK K
              try simp only [Act.put, List.setIfInBounds_toArray, List.set_cons_zero, List.set_cons_succ]
              refine take_dst (i := 13) (v := ?_) 62 rfl rfl (by kernel_rfl) (by kernel_rfl) (by kernel_rfl) (fun _ _ _ h => h) (Or.inl ⟨by rfl, ?_⟩) trivial ?_
              rotate_left
              · intro wq hSw
                go_simp
                first | done | (with_reducible rfl)
              simp only [Act.put, List.setIfInBounds_toArray, List.set_cons_zero, List.set_cons_succ]
              refine take_dst (i := 14) (v := ?_) 63 rfl rfl (by kernel_rfl) (by kernel_rfl) (by kernel_rfl) (fun _ _ _ h => h) (Or.inl ⟨by rfl, ?_⟩) trivial ?_
              rotate_left
              · intro wq hSw
                go_simp
                first | done | (with_reducible rfl)
              simp only [Act.put, List.setIfInBounds_toArray, List.set_cons_zero, List.set_cons_succ]
              refine take_dst (i := 11) (v := ?_) 61 rfl rfl (by kernel_rfl) (by kernel_rfl) (by kernel_rfl) (fun _ _ _ h => h) (Or.inl ⟨by rfl, ?_⟩) trivial ?_
              rotate_left
              · intro wq hSw
                go_simp
                first | done | (with_reducible rfl)
              simp only [Act.put, List.setIfInBounds_toArray, List.set_cons_zero, List.set_cons_succ]
              refine wpAnyH_ready (rs := [12, 15]) (by kernel_rfl) (by simp) ?_
              refine AllReadyH.cons rfl (fun K hK => ?_) (AllReadyH.cons rfl (fun K hK => ?_) AllReadyH.nil)
              · go_simp
                refine hK.out _ _ trivial (fun _ => ?_)
                clear hK K
                try simp only [Act.put, List.setIfInBounds_toArray, List.set_cons_zero, List.set_cons_succ]
                refine wpAnyH_ready (rs := [15]) (by kernel_rfl) (by simp) ?_
                refine AllReadyH.cons rfl (fun K hK => ?_) AllReadyH.nil
                go_simp
                refine hK.out _ _ trivial (fun _ => ?_)
                clear hK K
                try simp only [Act.put, List.setIfInBounds_toArray, List.set_cons_zero, List.set_cons_succ]
                refine wpAnyH_done (by kernel_rfl) ?_ _
                go_wp2_with fail
                go_meet
                obtain ⟨hms9, hmod9, hblk9⟩ := HFin.out _ (.inl (by rw [HCx.out]))
                exact ⟨k7, c', some ⟨g', 0, none⟩, x, HX, hide (hmod9 _ HMc4.out (by have := HBs.out; omega) (by simp)), hide ⟨hblk9 p _ _ HPb.out (by have := HVp.out; omega) Hc4.out.blk, Hc4.out.le, Hc4.out.small⟩, hide hms9⟩
              · go_simp
                refine hK.out _ _ trivial (fun _ => ?_)
                clear hK K
                try simp only [Act.put, List.setIfInBounds_toArray, List.set_cons_zero, List.set_cons_succ]
                refine wpAnyH_ready (rs := [12]) (by kernel_rfl) (by simp) ?_
                refine AllReadyH.cons rfl (fun K hK => ?_) AllReadyH.nil
                go_simp
                refine hK.out _ _ trivial (fun _ => ?_)
                clear hK K
                try simp only [Act.put, List.setIfInBounds_toArray, List.set_cons_zero, List.set_cons_succ]
                refine wpAnyH_done (by kernel_rfl) ?_ _
                go_wp2_with fail
                go_meet
                obtain ⟨hms9, hmod9, hblk9⟩ := HFin.out _ (.inr (by rw [HCx.out]))
                exact ⟨k7, c', some ⟨g', 0, none⟩, x, HX, hide (hmod9 _ HMc4.out (by have := HBs.out; omega) (by simp)), hide ⟨hblk9 p _ _ HPb.out (by have := HVp.out; omega) Hc4.out.blk, Hc4.out.le, Hc4.out.small⟩, hide hms9⟩
        · go_simp
          have hjv5 : JVars p wr.drew := HJ0.out.mod HMd.out (by have := HPb.out; have := HBs.out; omega) (by simp; have := HVp.out; omega)
          refine (HVl.out _ _ _ _ Hd.out hjv5).mono ?_
          rintro e w7 ⟨m7, hp⟩
          have HMc5 := hide (HMd.out.trans m7 (by simp))
          have HSc5 := hide (HSd.out.mod m7 (by simp; have := HPb.out; have := HVp.out; omega))
          cases hx : jvalue n (rst s kv) with
          | er r =>
            rw [hx] at hp
            obtain ⟨k7, rfl, h1, h2⟩ := hp
            have HE : Hid (jlist (jvalue n) false (rst s (k + 1)) = .er r) := hide (by rw [HEQ.out, hx]; rfl)
            clear m7 hx hK
            go_wp2_with fail
            rename_i heq
            cases heq
            exact ⟨rfl, MP.er HE.out HMc5.out h1 h2⟩
          | ok jv r =>
            rw [hx] at hp
            obtain ⟨k7, u, rfl, ⟨x, rfl, rfl, hxi, hxf⟩, h1, h2⟩ := hp
            obtain ⟨c0, c1, c2, c3, n3, d3, c4, n4, d4, hcx⟩ := cells5 x
            have HCx := hide hcx
            rw [hcx]
            clear hcx
            have HX : Hid (jvalue n (rst s kv) = .ok x.v (rst s k7)) := hide (by rw [hx, h2])
            have Hc5 := hide h1
            have HXi5 := hide hxi
            have HXf : Hid (∀ g ∈ JFoot x, base ≤ g ∧ (Value.slice A l.length c).ownBlock ≠ some g ∧ (Value.slice B kb.length d).ownBlock ≠ some g) := hide (fun g hg => by
              have h3 := (hxf g hg).1
              have h4 := HMd.out.size
              have h5 := HBs.out
              refine ⟨by omega, fun e => ?_, fun e => ?_⟩
              · have := (HSd.out.lo.lt g e).2; omega
              · have := (HSd.out.ko.lt g e).2; omega)
            have HF5 : Hid (∀ g ∈ JFoot x, g < w7.heap.size) := hide (fun g hg => (hxf g hg).2)
            clear m7 hx h1 h2 hxi hxf hjv5
            refine hK.out _ _ trivial (fun _ => ?_)
            clear hK K
            try simp only [Act.put, List.setIfInBounds_toArray, List.set_cons_zero, List.set_cons_succ]
            have qv5 : w7.cell? ⟨vb, 3, none⟩ = some (.slice A l.length c) := HSc5.out.v.cell 3
            refine wpAnyH_ready (rs := [3, 9]) (by kernel_rfl) (by simp) ?_
            refine AllReadyH.cons rfl (fun K hK => ?_) (AllReadyH.cons rfl (fun K hK => ?_) AllReadyH.nil)
            · go_simp
              refine hK.out _ _ trivial (fun _ => ?_)
              clear hK K
              try simp only [Act.put, List.setIfInBounds_toArray, List.set_cons_zero, List.set_cons_succ]
              refine take_dst (i := 8) (v := ?_) 58 rfl rfl (by kernel_rfl) (by kernel_rfl) (by kernel_rfl) (fun _ _ _ h => h) (Or.inl ⟨by rfl, ?_⟩) trivial ?_
              rotate_left
              · intro wq hSw
                go_simp
                first | done | (with_reducible rfl)
              simp only [Act.put, List.setIfInBounds_toArray, List.set_cons_zero, List.set_cons_succ]
              refine wpAnyH_ready (rs := [9]) (by kernel_rfl) (by simp) ?_
              refine AllReadyH.cons rfl (fun K hK => ?_) AllReadyH.nil
              go_simp
              refine hK.out _ _ trivial (fun _ => ?_)
              clear hK K
              try simp only [Act.put, List.setIfInBounds_toArray, List.set_cons_zero, List.set_cons_succ]
              have HMa6 := hide (HMc5.out.alloc (.cells zcs 25))
              have HSa6 := hide (HSc5.out.mod ((Mod.refl [] w7).alloc (.cells zcs 25)) (by simp))
              have Ha6 := hide (Hc5.out.mod ((Mod.refl [] w7).alloc (.cells zcs 25)) (by simp))
              have HZ6 := hide (Blk.new w7 25 zcs)
              have qa6 := HSc5.out.v.lt
              have qb6 : (w7.alloc (.cells zcs 25)).cell? ⟨vb, 3, none⟩ = some (.slice A l.length c) := HSa6.out.v.cell 3
              unfold zcs at qb6
              have HX6 := hide (JIn.new ((Mod.refl [] w7).alloc (.cells zcs 25)) HXi5.out)
              have HF6 : Hid (∀ g ∈ JFoot x, g < (w7.alloc (.cells zcs 25)).heap.size) := hide (fun g hg => Nat.lt_of_lt_of_le (HF5.out g hg) ((Mod.refl [] w7).alloc (.cells zcs 25)).size)
              obtain ⟨g', c', w8, hrun, hv8, hgv, ⟨cur, hcb, hcs⟩, hfin⟩ := HSa6.out.val (W := w) HVb.out (by have := HMa6.out.size; have := HBs.out; omega) HLl.out x HX6.out (fun g hg => ⟨(HXf.out g hg).1, HF6.out g hg, (HXf.out g hg).2⟩) (w7.heap.size) HZ6.out
              have HRun := hide hrun
              have HFin := hide hfin
              have q8 : w8.cell? ⟨vb, 3, none⟩ = some (.slice A l.length c) := hv8.cell 3
              have f8 : w8.frozen? ⟨vb, 3, none⟩ = false := hv8.frozen 3
              have l8 := hv8.lt
              have hvg : ¬ vb = g' := fun e => hgv e.symm
              have lg := hcb.lt
              have hll : ((l.length : Nat) : Int) < (l.length : Int) + 1 := by omega
              have b0 : ∃ u, w8.cell? ⟨g', l.length * 5, none⟩ = some u := ⟨_, (hcb.cell _).trans (Array.getElem?_eq_getElem (by omega))⟩
              obtain ⟨u0, b0⟩ := b0
              have e0 : w8.frozen? ⟨g', l.length * 5, none⟩ = false := hcb.frozen _
              have b1 : ∃ u, w8.cell? ⟨g', l.length * 5 + 1, none⟩ = some u := ⟨_, (hcb.cell _).trans (Array.getElem?_eq_getElem (by omega))⟩
              obtain ⟨u1, b1⟩ := b1
              have e1 : w8.frozen? ⟨g', l.length * 5 + 1, none⟩ = false := hcb.frozen _
              have b2 : ∃ u, w8.cell? ⟨g', l.length * 5 + 2, none⟩ = some u := ⟨_, (hcb.cell _).trans (Array.getElem?_eq_getElem (by omega))⟩
              obtain ⟨u2, b2⟩ := b2
              have e2 : w8.frozen? ⟨g', l.length * 5 + 2, none⟩ = false := hcb.frozen _
              have b3 : ∃ u, w8.cell? ⟨g', l.length * 5 + 3, none⟩ = some u := ⟨_, (hcb.cell _).trans (Array.getElem?_eq_getElem (by omega))⟩
              obtain ⟨u3, b3⟩ := b3
              have e3 : w8.frozen? ⟨g', l.length * 5 + 3, none⟩ = false := hcb.frozen _
              have b4 : ∃ u, w8.cell? ⟨g', l.length * 5 + 4, none⟩ = some u := ⟨_, (hcb.cell _).trans (Array.getElem?_eq_getElem (by omega))⟩
              obtain ⟨u4, b4⟩ := b4
              have e4 : w8.frozen? ⟨g', l.length * 5 + 4, none⟩ = false := hcb.frozen _
              clear hrun hfin hv8 hcb hcs
              refine wpAnyH_ready (rs := [10]) (by kernel_rfl) (by simp) ?_
              refine AllReadyH.cons rfl (fun K hK => ?_) AllReadyH.nil
              refine step_append_runL rfl (.tmp 53) (.tmp 59) 22 22 rfl (.slice A l.length c) (.slice (some ⟨w7.heap.size, 0, none⟩) 1 1) (by simp [Act.eval]) (by simp [Act.eval]) HRun.out ?_
              refine hK.out _ _ trivial (fun _ => ?_)
              clear hK K
              try simp only [Act.put, List.setIfInBounds_toArray, List.set_cons_zero, List.set_cons_succ]
              refine take_dst (i := 13) (v := ?_) 62 rfl rfl (by kernel_rfl) (by kernel_rfl) (by kernel_rfl) (fun _ _ _ h => h) (Or.inl ⟨by rfl, ?_⟩) trivial ?_
              rotate_left
              · intro wq hSw
                go_simp
                first | done | (with_reducible rfl)
              simp only [Act.put, List.setIfInBounds_toArray, List.set_cons_zero, List.set_cons_succ]
              refine take_dst (i := 14) (v := ?_) 63 rfl rfl (by kernel_rfl) (by kernel_rfl) (by kernel_rfl) (fun _ _ _ h => h) (Or.inl ⟨by rfl, ?_⟩) trivial ?_
              rotate_left
              · intro wq hSw
                go_simp
                first | done | (with_reducible rfl)
              simp only [Act.put, List.setIfInBounds_toArray, List.set_cons_zero, List.set_cons_succ]
              refine take_dst (i := 11) (v := ?_) 61 rfl rfl (by kernel_rfl) (by kernel_rfl) (by kernel_rfl) (fun _ _ _ h => h) (Or.inl ⟨by rfl, ?_⟩) trivial ?_
              rotate_left
              · intro wq hSw
                go_simp
                first | done | (with_reducible rfl)
              simp only [Act.put, List.setIfInBounds_toArray, List.set_cons_zero, List.set_cons_succ]
              refine wpAnyH_ready (rs := [12, 15]) (by kernel_rfl) (by simp) ?_
              refine AllReadyH.cons rfl (fun K hK => ?_) (AllReadyH.cons rfl (fun K hK => ?_) AllReadyH.nil)
              · go_simp
                refine hK.out _ _ trivial (fun _ => ?_)
                clear hK K
                try simp only [Act.put, List.setIfInBounds_toArray, List.set_cons_zero, List.set_cons_succ]
                refine wpAnyH_ready (rs := [15]) (by kernel_rfl) (by simp) ?_
                refine AllReadyH.cons rfl (fun K hK => ?_) AllReadyH.nil
                go_simp
                refine hK.out _ _ trivial (fun _ => ?_)
                clear hK K
                try simp only [Act.put, List.setIfInBounds_toArray, List.set_cons_zero, List.set_cons_succ]
                refine wpAnyH_done (by kernel_rfl) ?_ _
                go_wp2_with fail
                go_meet
                obtain ⟨hms9, hmod9, hblk9⟩ := HFin.out _ (.inl (by rw [HCx.out]))
                exact ⟨k7, c', some ⟨g', 0, none⟩, x, HX, hide (hmod9 _ HMa6.out (by have := HBs.out; omega) (by simp)), hide ⟨hblk9 p _ _ HPb.out (by have := HVp.out; omega) Ha6.out.blk, Ha6.out.le, Ha6.out.small⟩, hide hms9⟩
              · go_simp
                refine hK.out _ _ trivial (fun _ => ?_)
                clear hK K
                try simp only [Act.put, List.setIfInBounds_toArray, List.set_cons_zero, List.set_cons_succ]
                refine wpAnyH_ready (rs := [12]) (by kernel_rfl) (by simp) ?_
                refine AllReadyH.cons rfl (fun K hK => ?_) AllReadyH.nil
                go_simp
                refine hK.out _ _ trivial (fun _ => ?_)
                clear hK K
                try simp only [Act.put, List.setIfInBounds_toArray, List.set_cons_zero, List.set_cons_succ]
                refine wpAnyH_done (by kernel_rfl) ?_ _
                go_wp2_with fail
                go_meet
                obtain ⟨hms9, hmod9, hblk9⟩ := HFin.out _ (.inr (by rw [HCx.out]))
                exact ⟨k7, c', some ⟨g', 0, none⟩, x, HX, hide (hmod9 _ HMa6.out (by have := HBs.out; omega) (by simp)), hide ⟨hblk9 p _ _ HPb.out (by have := HVp.out; omega) Ha6.out.blk, Ha6.out.le, Ha6.out.small⟩, hide hms9⟩
            · go_simp
              refine hK.out _ _ trivial (fun _ => ?_)
              clear hK K
              try simp only [Act.put, List.setIfInBounds_toArray, List.set_cons_zero, List.set_cons_succ]
              have HMa7 := hide (HMc5.out.alloc (.cells zcs 25))
              have HSa7 := hide (HSc5.out.mod ((Mod.refl [] w7).alloc (.cells zcs 25)) (by simp))
              have Ha7 := hide (Hc5.out.mod ((Mod.refl [] w7).alloc (.cells zcs 25)) (by simp))
              have HZ7 := hide (Blk.new w7 25 zcs)
              have qa7 := HSc5.out.v.lt
              have qb7 : (w7.alloc (.cells zcs 25)).cell? ⟨vb, 3, none⟩ = some (.slice A l.length c) := HSa7.out.v.cell 3
              unfold zcs at qb7
              have HX7 := hide (JIn.new ((Mod.refl [] w7).alloc (.cells zcs 25)) HXi5.out)
              have HF7 : Hid (∀ g ∈ JFoot x, g < (w7.alloc (.cells zcs 25)).heap.size) := hide (fun g hg => Nat.lt_of_lt_of_le (HF5.out g hg) ((Mod.refl [] w7).alloc (.cells zcs 25)).size)
              refine wpAnyH_ready (rs := [3]) (by kernel_rfl) (by simp) ?_
              refine AllReadyH.cons rfl (fun K hK => ?_) AllReadyH.nil
              go_simp
              refine hK.out _ _ trivial (fun _ => ?_)
              clear hK K
              try simp only [Act.put, List.setIfInBounds_toArray, List.set_cons_zero, List.set_cons_succ]
              refine take_dst (i := 8) (v := ?_) 58 rfl rfl (by kernel_rfl) (by kernel_rfl) (by kernel_rfl) (fun _ _ _ h => h) (Or.inl ⟨by rfl, ?_⟩) trivial ?_
              rotate_left
              · intro wq hSw
                go_simp
                first | done | (with_reducible rfl)
              simp only [Act.put, List.setIfInBounds_toArray, List.set_cons_zero, List.set_cons_succ]
              obtain ⟨g', c', w8, hrun, hv8, hgv, ⟨cur, hcb, hcs⟩, hfin⟩ := HSa7.out.val (W := w) HVb.out (by have := HMa7.out.size; have := HBs.out; omega) HLl.out x HX7.out (fun g hg => ⟨(HXf.out g hg).1, HF7.out g hg, (HXf.out g hg).2⟩) (w7.heap.size) HZ7.out
              have HRun := hide hrun
              have HFin := hide hfin
              have q8 : w8.cell? ⟨vb, 3, none⟩ = some (.slice A l.length c) := hv8.cell 3
              have f8 : w8.frozen? ⟨vb, 3, none⟩ = false := hv8.frozen 3
              have l8 := hv8.lt
              have hvg : ¬ vb = g' := fun e => hgv e.symm
              have lg := hcb.lt
              have hll : ((l.length : Nat) : Int) < (l.length : Int) + 1 := by omega
              have b0 : ∃ u, w8.cell? ⟨g', l.length * 5, none⟩ = some u := ⟨_, (hcb.cell _).trans (Array.getElem?_eq_getElem (by omega))⟩
              obtain ⟨u0, b0⟩ := b0
              have e0 : w8.frozen? ⟨g', l.length * 5, none⟩ = false := hcb.frozen _
              have b1 : ∃ u, w8.cell? ⟨g', l.length * 5 + 1, none⟩ = some u := ⟨_, (hcb.cell _).trans (Array.getElem?_eq_getElem (by omega))⟩
              obtain ⟨u1, b1⟩ := b1
              have e1 : w8.frozen? ⟨g', l.length * 5 + 1, none⟩ = false := hcb.frozen _
              have b2 : ∃ u, w8.cell? ⟨g', l.length * 5 + 2, none⟩ = some u := ⟨_, (hcb.cell _).trans (Array.getElem?_eq_getElem (by omega))⟩
              obtain ⟨u2, b2⟩ := b2
              have e2 : w8.frozen? ⟨g', l.length * 5 + 2, none⟩ = false := hcb.frozen _
              have b3 : ∃ u, w8.cell? ⟨g', l.length * 5 + 3, none⟩ = some u := ⟨_, (hcb.cell _).trans (Array.getElem?_eq_getElem (by omega))⟩
              obtain ⟨u3, b3⟩ := b3
              have e3 : w8.frozen? ⟨g', l.length * 5 + 3, none⟩ = false := hcb.frozen _
              have b4 : ∃ u, w8.cell? ⟨g', l.length * 5 + 4, none⟩ = some u := ⟨_, (hcb.cell _).trans (Array.getElem?_eq_getElem (by omega))⟩
              obtain ⟨u4, b4⟩ := b4
              have e4 : w8.frozen? ⟨g', l.length * 5 + 4, none⟩ = false := hcb.frozen _
              clear hrun hfin hv8 hcb hcs
              refine wpAnyH_ready (rs := [10]) (by kernel_rfl) (by simp) ?_
              refine AllReadyH.cons rfl (fun K hK => ?_) AllReadyH.nil
              refine step_append_runL rfl (.tmp 53) (.tmp 59) 22 22 rfl (.slice A l.length c) (.slice (some ⟨w7.heap.size, 0, none⟩) 1 1) (by simp [Act.eval]) (by simp [Act.eval]) HRun.out ?_
              refine hK.out _ _ trivial (fun _ => ?_)
              clear hK K
              try simp only [Act.put, List.setIfInBounds_toArray, List.set_cons_zero, List.set_cons_succ]
              refine take_dst (i := 13) (v := ?_) 62 rfl rfl (by kernel_rfl) (by kernel_rfl) (by kernel_rfl) (fun _ _ _ h => h) (Or.inl ⟨by rfl, ?_⟩) trivial ?_
              rotate_left
              · intro wq hSw
                go_simp
                first | done | (with_reducible rfl)
              simp only [Act.put, List.setIfInBounds_toArray, List.set_cons_zero, List.set_cons_succ]
              refine take_dst (i := 14) (v := ?_) 63 rfl rfl (by kernel_rfl) (by kernel_rfl) (by kernel_rfl) (fun _ _ _ h => h) (Or.inl ⟨by rfl, ?_⟩) trivial ?_
              rotate_left
              · intro wq hSw
                go_simp
                first | done | (with_reducible rfl)
              simp only [Act.put, List.setIfInBounds_toArray, List.set_cons_zero, List.set_cons_succ]
              refine take_dst (i := 11) (v := ?_) 61 rfl rfl (by kernel_rfl) (by kernel_rfl) (by kernel_rfl) (fun _ _ _ h => h) (Or.inl ⟨by rfl, ?_⟩) trivial ?_
              rotate_left
              · intro wq hSw
                go_simp
                first | done | (with_reducible rfl)
              simp only [Act.put, List.setIfInBounds_toArray, List.set_cons_zero, List.set_cons_succ]
              refine wpAnyH_ready (rs := [12, 15]) (by kernel_rfl) (by simp) ?_
              refine AllReadyH.cons rfl (fun K hK => ?_) (AllReadyH.cons rfl (fun K hK => ?_) AllReadyH.nil)
              · go_simp
                refine hK.out _ _ trivial (fun _ => ?_)
                clear hK K
                try simp only [Act.put, List.setIfInBounds_toArray, List.set_cons_zero, List.set_cons_succ]
                refine wpAnyH_ready (rs := [15]) (by kernel_rfl) (by simp) ?_
                refine AllReadyH.cons rfl (fun K hK => ?_) AllReadyH.nil
                go_simp
                refine hK.out _ _ trivial (fun _ => ?_)
                clear hK K
                try simp only [Act.put, List.setIfInBounds_toArray, List.set_cons_zero, List.set_cons_succ]
                refine wpAnyH_done (by kernel_rfl) ?_ _
                go_wp2_with fail
                go_meet
                obtain ⟨hms9, hmod9, hblk9⟩ := HFin.out _ (.inl (by rw [HCx.out]))
                exact ⟨k7, c', some ⟨g', 0, none⟩, x, HX, hide (hmod9 _ HMa7.out (by have := HBs.out; omega) (by simp)), hide ⟨hblk9 p _ _ HPb.out (by have := HVp.out; omega) Ha7.out.blk, Ha7.out.le, Ha7.out.small⟩, hide hms9⟩
              · go_simp
                refine hK.out _ _ trivial (fun _ => ?_)
                clear hK K
                try simp only [Act.put, List.setIfInBounds_toArray, List.set_cons_zero, List.set_cons_succ]
                refine wpAnyH_ready (rs := [12]) (by kernel_rfl) (by simp) ?_
                refine AllReadyH.cons rfl (fun K hK => ?_) AllReadyH.nil
                go_simp
                refine hK.out _ _ trivial (fun _ => ?_)
                clear hK K
                try simp only [Act.put, List.setIfInBounds_toArray, List.set_cons_zero, List.set_cons_succ]
                refine wpAnyH_done (by kernel_rfl) ?_ _
                go_wp2_with fail
                go_meet
                obtain ⟨hms9, hmod9, hblk9⟩ := HFin.out _ (.inr (by rw [HCx.out]))
                exact ⟨k7, c', some ⟨g', 0, none⟩, x, HX, hide (hmod9 _ HMa7.out (by have := HBs.out; omega) (by simp)), hide ⟨hblk9 p _ _ HPb.out (by have := HVp.out; omega) Ha7.out.blk, Ha7.out.le, Ha7.out.small⟩, hide hms9⟩
        · go_simp
          refine hK.out _ _ trivial (fun _ => ?_)
          clear hK K
          try simp only [Act.put, List.setIfInBounds_toArray, List.set_cons_zero, List.set_cons_succ]
          have HMa8 := hide (HMd.out.alloc (.cells zcs 25))
          have HSa8 := hide (HSd.out.mod ((Mod.refl [] wr.drew).alloc (.cells zcs 25)) (by simp))
          have Ha8 := hide (Hd.out.mod ((Mod.refl [] wr.drew).alloc (.cells zcs 25)) (by simp))
          have HZ8 := hide (Blk.new wr.drew 25 zcs)
          have qa8 := HSd.out.v.lt
          have qb8 : (wr.drew.alloc (.cells zcs 25)).cell? ⟨vb, 3, none⟩ = some (.slice A l.length c) := HSa8.out.v.cell 3
          unfold zcs at qb8
          refine wpAnyH_ready (rs := [3, 7]) (by kernel_rfl) (by simp) ?_
          refine AllReadyH.cons rfl (fun K hK => ?_) (AllReadyH.cons rfl (fun K hK => ?_) AllReadyH.nil)
          · go_simp
            refine hK.out _ _ trivial (fun _ => ?_)
            clear hK K
            try simp only [Act.put, List.setIfInBounds_toArray, List.set_cons_zero, List.set_cons_succ]
            refine take_dst (i := 8) (v := ?_) 58 rfl rfl (by kernel_rfl) (by kernel_rfl) (by kernel_rfl) (fun _ _ _ h => h) (Or.inl ⟨by rfl, ?_⟩) trivial ?_
            rotate_left
            · intro wq hSw
              go_simp
              first | done | (with_reducible rfl)
            simp only [Act.put, List.setIfInBounds_toArray, List.set_cons_zero, List.set_cons_succ]
            refine wpAnyH_ready (rs := [7]) (by kernel_rfl) (by simp) ?_
            refine AllReadyH.cons rfl (fun K hK => ?_) AllReadyH.nil
            go_simp
            have hjv9 : JVars p (wr.drew.alloc (.cells zcs 25)) := HJ0.out.mod HMa8.out (by have := HPb.out; have := HBs.out; omega) (by simp; have := HVp.out; omega)
            refine (HVl.out _ _ _ _ Ha8.out hjv9).mono ?_
            rintro e w7 ⟨m7, hp⟩
            have HMc9 := hide (HMa8.out.trans m7 (by simp))
            have HSc9 := hide (HSa8.out.mod m7 (by simp; have := HPb.out; have := HVp.out; omega))
            have HZc9 := hide (m7.blk HZ8.out (by have := Ha8.out.blk.lt; have := HBs.out; have := HPb.out; have := HMa8.out.size; simp; simp at *; omega))
            cases hx : jvalue n (rst s kv) with
            | er r =>
              rw [hx] at hp
              obtain ⟨k7, rfl, h1, h2⟩ := hp
              have HE : Hid (jlist (jvalue n) false (rst s (k + 1)) = .er r) := hide (by rw [HEQ.out, hx]; rfl)
              clear m7 hx hK
              go_wp2_with fail
              rename_i heq
              cases heq
              exact ⟨rfl, MP.er HE.out HMc9.out h1 h2⟩
            | ok jv r =>
              rw [hx] at hp
              obtain ⟨k7, u, rfl, ⟨x, rfl, rfl, hxi, hxf⟩, h1, h2⟩ := hp
              obtain ⟨c0, c1, c2, c3, n3, d3, c4, n4, d4, hcx⟩ := cells5 x
              have HCx := hide hcx
              rw [hcx]
              clear hcx
              have HX : Hid (jvalue n (rst s kv) = .ok x.v (rst s k7)) := hide (by rw [hx, h2])
              have Hc9 := hide h1
              have HXi9 := hide hxi
              have HXf : Hid (∀ g ∈ JFoot x, base ≤ g ∧ (Value.slice A l.length c).ownBlock ≠ some g ∧ (Value.slice B kb.length d).ownBlock ≠ some g) := hide (fun g hg => by
                have h3 := (hxf g hg).1
                have h4 := HMa8.out.size
                have h5 := HBs.out
                refine ⟨by omega, fun e => ?_, fun e => ?_⟩
                · have := (HSa8.out.lo.lt g e).2; omega
                · have := (HSa8.out.ko.lt g e).2; omega)
              have HF9 : Hid (∀ g ∈ JFoot x, g < w7.heap.size) := hide (fun g hg => (hxf g hg).2)
              clear m7 hx h1 h2 hxi hxf hjv9
              refine hK.out _ _ trivial (fun _ => ?_)
              clear hK K
              try simp only [Act.put, List.setIfInBounds_toArray, List.set_cons_zero, List.set_cons_succ]
              obtain ⟨g', c', w8, hrun, hv8, hgv, ⟨cur, hcb, hcs⟩, hfin⟩ := HSc9.out.val (W := w) HVb.out (by have := HMc9.out.size; have := HBs.out; omega) HLl.out x HXi9.out (fun g hg => ⟨(HXf.out g hg).1, HF9.out g hg, (HXf.out g hg).2⟩) (wr.drew.heap.size) HZc9.out
              have HRun := hide hrun
              have HFin := hide hfin
              have q8 : w8.cell? ⟨vb, 3, none⟩ = some (.slice A l.length c) := hv8.cell 3
              have f8 : w8.frozen? ⟨vb, 3, none⟩ = false := hv8.frozen 3
              have l8 := hv8.lt
              have hvg : ¬ vb = g' := fun e => hgv e.symm
              have lg := hcb.lt
              have hll : ((l.length : Nat) : Int) < (l.length : Int) + 1 := by omega
              have b0 : ∃ u, w8.cell? ⟨g', l.length * 5, none⟩ = some u := ⟨_, (hcb.cell _).trans (Array.getElem?_eq_getElem (by omega))⟩
              obtain ⟨u0, b0⟩ := b0
              have e0 : w8.frozen? ⟨g', l.length * 5, none⟩ = false := hcb.frozen _
              have b1 : ∃ u, w8.cell? ⟨g', l.length * 5 + 1, none⟩ = some u := ⟨_, (hcb.cell _).trans (Array.getElem?_eq_getElem (by omega))⟩
              obtain ⟨u1, b1⟩ := b1
              have e1 : w8.frozen? ⟨g', l.length * 5 + 1, none⟩ = false := hcb.frozen _
              have b2 : ∃ u, w8.cell? ⟨g', l.length * 5 + 2, none⟩ = some u := ⟨_, (hcb.cell _).trans (Array.getElem?_eq_getElem (by omega))⟩
              obtain ⟨u2, b2⟩ := b2
              have e2 : w8.frozen? ⟨g', l.length * 5 + 2, none⟩ = false := hcb.frozen _
              have b3 : ∃ u, w8.cell? ⟨g', l.length * 5 + 3, none⟩ = some u := ⟨_, (hcb.cell _).trans (Array.getElem?_eq_getElem (by omega))⟩
              obtain ⟨u3, b3⟩ := b3
              have e3 : w8.frozen? ⟨g', l.length * 5 + 3, none⟩ = false := hcb.frozen _
              have b4 : ∃ u, w8.cell? ⟨g', l.length * 5 + 4, none⟩ = some u := ⟨_, (hcb.cell _).trans (Array.getElem?_eq_getElem (by omega))⟩
              obtain ⟨u4, b4⟩ := b4
              have e4 : w8.frozen? ⟨g', l.length * 5 + 4, none⟩ = false := hcb.frozen _
              clear hrun hfin hv8 hcb hcs
              refine wpAnyH_ready (rs := [10]) (by kernel_rfl) (by simp) ?_
              refine AllReadyH.cons rfl (fun K hK => ?_) AllReadyH.nil
              refine step_append_runL rfl (.tmp 53) (.tmp 59) 22 22 rfl (.slice A l.length c) (.slice (some ⟨wr.drew.heap.size, 0, none⟩) 1 1) (by simp [Act.eval]) (by simp [Act.eval]) HRun.out ?_
              refine hK.out _ _ trivial (fun _ => ?_)
              clear hK K
              try simp only [Act.put, List.setIfInBounds_toArray, List.set_cons_zero, List.set_cons_succ]
              refine take_dst (i := 13) (v := ?_) 62 rfl rfl (by kernel_rfl) (by kernel_rfl) (by kernel_rfl) (fun _ _ _ h => h) (Or.inl ⟨by rfl, ?_⟩) trivial ?_
              rotate_left
              · intro wq hSw
                go_simp
                first | done | (with_reducible rfl)
              simp only [Act.put, List.setIfInBounds_toArray, List.set_cons_zero, List.set_cons_succ]
              refine take_dst (i := 14) (v := ?_) 63 rfl rfl (by kernel_rfl) (by kernel_rfl) (by kernel_rfl) (fun _ _ _ h => h) (Or.inl ⟨by rfl, ?_⟩) trivial ?_
              rotate_left
              · intro wq hSw
                go_simp
                first | done | (with_reducible rfl)
              simp only [Act.put, List.setIfInBounds_toArray, List.set_cons_zero, List.set_cons_succ]
              refine take_dst (i := 11) (v := ?_) 61 rfl rfl (by kernel_rfl) (by kernel_rfl) (by kernel_rfl) (fun _ _ _ h => h) (Or.inl ⟨by rfl, ?_⟩) trivial ?_
              rotate_left
              · intro wq hSw
                go_simp
                first | done | (with_reducible rfl)
              simp only [Act.put, List.setIfInBounds_toArray, List.set_cons_zero, List.set_cons_succ]
              refine wpAnyH_ready (rs := [12, 15]) (by kernel_rfl) (by simp) ?_
              refine AllReadyH.cons rfl (fun K hK => ?_) (AllReadyH.cons rfl (fun K hK => ?_) AllReadyH.nil)
              · go_simp
                refine hK.out _ _ trivial (fun _ => ?_)
                clear hK K
                try simp only [Act.put, List.setIfInBounds_toArray, List.set_cons_zero, List.set_cons_succ]
                refine wpAnyH_ready (rs := [15]) (by kernel_rfl) (by simp) ?_
                refine AllReadyH.cons rfl (fun K hK => ?_) AllReadyH.nil
                go_simp
                refine hK.out _ _ trivial (fun _ => ?_)
                clear hK K
                try simp only [Act.put, List.setIfInBounds_toArray, List.set_cons_zero, List.set_cons_succ]
                refine wpAnyH_done (by kernel_rfl) ?_ _
                go_wp2_with fail
                go_meet
                obtain ⟨hms9, hmod9, hblk9⟩ := HFin.out _ (.inl (by rw [HCx.out]))
                exact ⟨k7, c', some ⟨g', 0, none⟩, x, HX, hide (hmod9 _ HMc9.out (by have := HBs.out; omega) (by simp)), hide ⟨hblk9 p _ _ HPb.out (by have := HVp.out; omega) Hc9.out.blk, Hc9.out.le, Hc9.out.small⟩, hide hms9⟩
              · go_simp
                refine hK.out _ _ trivial (fun _ => ?_)
                clear hK K
                try simp only [Act.put, List.setIfInBounds_toArray, List.set_cons_zero, List.set_cons_succ]
                refine wpAnyH_ready (rs := [12]) (by kernel_rfl) (by simp) ?_
                refine AllReadyH.cons rfl (fun K hK => ?_) AllReadyH.nil
                go_simp
                refine hK.out _ _ trivial (fun _ => ?_)
                clear hK K
                try simp only [Act.put, List.setIfInBounds_toArray, List.set_cons_zero, List.set_cons_succ]
                refine wpAnyH_done (by kernel_rfl) ?_ _
                go_wp2_with fail
                go_meet
                obtain ⟨hms9, hmod9, hblk9⟩ := HFin.out _ (.inr (by rw [HCx.out]))
                exact ⟨k7, c', some ⟨g', 0, none⟩, x, HX, hide (hmod9 _ HMc9.out (by have := HBs.out; omega) (by simp)), hide ⟨hblk9 p _ _ HPb.out (by have := HVp.out; omega) Hc9.out.blk, Hc9.out.le, Hc9.out.small⟩, hide hms9⟩
          · go_simp
            have hjv10 : JVars p (wr.drew.alloc (.cells zcs 25)) := HJ0.out.mod HMa8.out (by have := HPb.out; have := HBs.out; omega) (by simp; have := HVp.out; omega)
            refine (HVl.out _ _ _ _ Ha8.out hjv10).mono ?_
            rintro e w7 ⟨m7, hp⟩
            have HMc10 := hide (HMa8.out.trans m7 (by simp))
            have HSc10 := hide (HSa8.out.mod m7 (by simp; have := HPb.out; have := HVp.out; omega))
            have HZc10 := hide (m7.blk HZ8.out (by have := Ha8.out.blk.lt; have := HBs.out; have := HPb.out; have := HMa8.out.size; simp; simp at *; omega))
            cases hx : jvalue n (rst s kv) with
            | er r =>
              rw [hx] at hp
              obtain ⟨k7, rfl, h1, h2⟩ := hp
              have HE : Hid (jlist (jvalue n) false (rst s (k + 1)) = .er r) := hide (by rw [HEQ.out, hx]; rfl)
              clear m7 hx hK
              go_wp2_with fail
              rename_i heq
              cases heq
              exact ⟨rfl, MP.er HE.out HMc10.out h1 h2⟩
            | ok jv r =>
              rw [hx] at hp
              obtain ⟨k7, u, rfl, ⟨x, rfl, rfl, hxi, hxf⟩, h1, h2⟩ := hp
              obtain ⟨c0, c1, c2, c3, n3, d3, c4, n4, d4, hcx⟩ := cells5 x
              have HCx := hide hcx
              rw [hcx]
              clear hcx
              have HX : Hid (jvalue n (rst s kv) = .ok x.v (rst s k7)) := hide (by rw [hx, h2])
              have Hc10 := hide h1
              have HXi10 := hide hxi
              have HXf : Hid (∀ g ∈ JFoot x, base ≤ g ∧ (Value.slice A l.length c).ownBlock ≠ some g ∧ (Value.slice B kb.length d).ownBlock ≠ some g) := hide (fun g hg => by
                have h3 := (hxf g hg).1
                have h4 := HMa8.out.size
                have h5 := HBs.out
                refine ⟨by omega, fun e => ?_, fun e => ?_⟩
                · have := (HSa8.out.lo.lt g e).2; omega
                · have := (HSa8.out.ko.lt g e).2; omega)
              have HF10 : Hid (∀ g ∈ JFoot x, g < w7.heap.size) := hide (fun g hg => (hxf g hg).2)
              clear m7 hx h1 h2 hxi hxf hjv10
              refine hK.out _ _ trivial (fun _ => ?_)
              clear hK K
              try simp only [Act.put, List.setIfInBounds_toArray, List.set_cons_zero, List.set_cons_succ]
              have qv10 : w7.cell? ⟨vb, 3, none⟩ = some (.slice A l.length c) := HSc10.out.v.cell 3
              refine wpAnyH_ready (rs := [3]) (by kernel_rfl) (by simp) ?_
              refine AllReadyH.cons rfl (fun K hK => ?_) AllReadyH.nil
              go_simp
              refine hK.out _ _ trivial (fun _ => ?_)
              clear hK K
              try simp only [Act.put, List.setIfInBounds_toArray, List.set_cons_zero, List.set_cons_succ]
              refine take_dst (i := 8) (v := ?_) 58 rfl rfl (by kernel_rfl) (by kernel_rfl) (by kernel_rfl) (fun _ _ _ h => h) (Or.inl ⟨by rfl, ?_⟩) trivial ?_
              rotate_left
              · intro wq hSw
                go_simp
                first | done | (with_reducible rfl)
              simp only [Act.put, List.setIfInBounds_toArray, List.set_cons_zero, List.set_cons_succ]
              obtain ⟨g', c', w8, hrun, hv8, hgv, ⟨cur, hcb, hcs⟩, hfin⟩ := HSc10.out.val (W := w) HVb.out (by have := HMc10.out.size; have := HBs.out; omega) HLl.out x HXi10.out (fun g hg => ⟨(HXf.out g hg).1, HF10.out g hg, (HXf.out g hg).2⟩) (wr.drew.heap.size) HZc10.out
              have HRun := hide hrun
              have HFin := hide hfin
              have q8 : w8.cell? ⟨vb, 3, none⟩ = some (.slice A l.length c) := hv8.cell 3
              have f8 : w8.frozen? ⟨vb, 3, none⟩ = false := hv8.frozen 3
              have l8 := hv8.lt
              have hvg : ¬ vb = g' := fun e => hgv e.symm
              have lg := hcb.lt
              have hll : ((l.length : Nat) : Int) < (l.length : Int) + 1 := by omega
              have b0 : ∃ u, w8.cell? ⟨g', l.length * 5, none⟩ = some u := ⟨_, (hcb.cell _).trans (Array.getElem?_eq_getElem (by omega))⟩
              obtain ⟨u0, b0⟩ := b0
              have e0 : w8.frozen? ⟨g', l.length * 5, none⟩ = false := hcb.frozen _
              have b1 : ∃ u, w8.cell? ⟨g', l.length * 5 + 1, none⟩ = some u := ⟨_, (hcb.cell _).trans (Array.getElem?_eq_getElem (by omega))⟩
              obtain ⟨u1, b1⟩ := b1
              have e1 : w8.frozen? ⟨g', l.length * 5 + 1, none⟩ = false := hcb.frozen _
              have b2 : ∃ u, w8.cell? ⟨g', l.length * 5 + 2, none⟩ = some u := ⟨_, (hcb.cell _).trans (Array.getElem?_eq_getElem (by omega))⟩
              obtain ⟨u2, b2⟩ := b2
              have e2 : w8.frozen? ⟨g', l.length * 5 + 2, none⟩ = false := hcb.frozen _
              have b3 : ∃ u, w8.cell? ⟨g', l.length * 5 + 3, none⟩ = some u := ⟨_, (hcb.cell _).trans (Array.getElem?_eq_getElem (by omega))⟩
              obtain ⟨u3, b3⟩ := b3
              have e3 : w8.frozen? ⟨g', l.length * 5 + 3, none⟩ = false := hcb.frozen _
              have b4 : ∃ u, w8.cell? ⟨g', l.length * 5 + 4, none⟩ = some u := ⟨_, (hcb.cell _).trans (Array.getElem?_eq_getElem (by omega))⟩
              obtain ⟨u4, b4⟩ := b4
              have e4 : w8.frozen? ⟨g', l.length * 5 + 4, none⟩ = false := hcb.frozen _
              clear hrun hfin hv8 hcb hcs
              refine wpAnyH_ready (rs := [10]) (by kernel_rfl) (by simp) ?_
              refine AllReadyH.cons rfl (fun K hK => ?_) AllReadyH.nil
              refine step_append_runL rfl (.tmp 53) (.tmp 59) 22 22 rfl (.slice A l.length c) (.slice (some ⟨wr.drew.heap.size, 0, none⟩) 1 1) (by simp [Act.eval]) (by simp [Act.eval]) HRun.out ?_
              refine hK.out _ _ trivial (fun _ => ?_)
              clear hK K
              try simp only [Act.put, List.setIfInBounds_toArray, List.set_cons_zero, List.set_cons_succ]
              refine take_dst (i := 13) (v := ?_) 62 rfl rfl (by kernel_rfl) (by kernel_rfl) (by kernel_rfl) (fun _ _ _ h => h) (Or.inl ⟨by rfl, ?_⟩) trivial ?_
              rotate_left
              · intro wq hSw
                go_simp
                first | done | (with_reducible rfl)
              simp only [Act.put, List.setIfInBounds_toArray, List.set_cons_zero, List.set_cons_succ]
              refine take_dst (i := 14) (v := ?_) 63 rfl rfl (by kernel_rfl) (by kernel_rfl) (by kernel_rfl) (fun _ _ _ h => h) (Or.inl ⟨by rfl, ?_⟩) trivial ?_
              rotate_left
              · intro wq hSw
                go_simp
                first | done | (with_reducible rfl)
              simp only [Act.put, List.setIfInBounds_toArray, List.set_cons_zero, List.set_cons_succ]
              refine take_dst (i := 11) (v := ?_) 61 rfl rfl (by kernel_rfl) (by kernel_rfl) (by kernel_rfl) (fun _ _ _ h => h) (Or.inl ⟨by rfl, ?_⟩) trivial ?_
              rotate_left
              · intro wq hSw
                go_simp
                first | done | (with_reducible rfl)
              simp only [Act.put, List.setIfInBounds_toArray, List.set_cons_zero, List.set_cons_succ]
              refine wpAnyH_ready (rs := [12, 15]) (by kernel_rfl) (by simp) ?_
              refine AllReadyH.cons rfl (fun K hK => ?_) (AllReadyH.cons rfl (fun K hK => ?_) AllReadyH.nil)
              · go_simp
                refine hK.out _ _ trivial (fun _ => ?_)
                clear hK K
                try simp only [Act.put, List.setIfInBounds_toArray, List.set_cons_zero, List.set_cons_succ]
                refine wpAnyH_ready (rs := [15]) (by kernel_rfl) (by simp) ?_
                refine AllReadyH.cons rfl (fun K hK => ?_) AllReadyH.nil
                go_simp
                refine hK.out _ _ trivial (fun _ => ?_)
                clear hK K
                try simp only [Act.put, List.setIfInBounds_toArray, List.set_cons_zero, List.set_cons_succ]
                refine wpAnyH_done (by kernel_rfl) ?_ _
                go_wp2_with fail
                go_meet
                obtain ⟨hms9, hmod9, hblk9⟩ := HFin.out _ (.inl (by rw [HCx.out]))
                exact ⟨k7, c', some ⟨g', 0, none⟩, x, HX, hide (hmod9 _ HMc10.out (by have := HBs.out; omega) (by simp)), hide ⟨hblk9 p _ _ HPb.out (by have := HVp.out; omega) Hc10.out.blk, Hc10.out.le, Hc10.out.small⟩, hide hms9⟩
              · go_simp
                refine hK.out _ _ trivial (fun _ => ?_)
                clear hK K
                try simp only [Act.put, List.setIfInBounds_toArray, List.set_cons_zero, List.set_cons_succ]
                refine wpAnyH_ready (rs := [12]) (by kernel_rfl) (by simp) ?_
                refine AllReadyH.cons rfl (fun K hK => ?_) AllReadyH.nil
                go_simp
                refine hK.out _ _ trivial (fun _ => ?_)
                clear hK K
                try simp only [Act.put, List.setIfInBounds_toArray, List.set_cons_zero, List.set_cons_succ]
                refine wpAnyH_done (by kernel_rfl) ?_ _
                go_wp2_with fail
                go_meet
                obtain ⟨hms9, hmod9, hblk9⟩ := HFin.out _ (.inr (by rw [HCx.out]))
                exact ⟨k7, c', some ⟨g', 0, none⟩, x, HX, hide (hmod9 _ HMc10.out (by have := HBs.out; omega) (by simp)), hide ⟨hblk9 p _ _ HPb.out (by have := HVp.out; omega) Hc10.out.blk, Hc10.out.le, Hc10.out.small⟩, hide hms9⟩
      case rest =>
        obtain ⟨k7, c', A', x, HX, hm7, h7, hms7⟩ := hcut
        have HT7 := hide (fun w' (h' : Rd w' p s k7) => by
          have := take_any w' p k7 s ⟨#[44, 93]⟩ h'
          rw [sep93_in] at this
          exact this)
        have hcv : (convert 39 9 (.slice (some ⟨wc.heap.size, 0, none⟩) 2 2)).run Tryd.prog (wc.alloc (.cells #[.int .u8 44, .int .u8 93] 5)) = .ok (.string ⟨#[44, 93]⟩) (wc.alloc (.cells #[.int .u8 44, .int .u8 93] 5)) :=
          conv_bytes _ _ [44, 93] [] 2 (Blk.new wc _ _)
        have HMa := hide (hm7.out.alloc (.cells #[.int .u8 44, .int .u8 93] 5))
        have AL := (Mod.refl [] wc).alloc (.cells #[.int .u8 44, .int .u8 93] 5)
        have HSa := hide (hms7.out.mod AL (by simp))
        have Ha := hide (h7.out.mod AL (by simp))
        have hk7 : kv ≤ k7 := by
          have := (HGd.out.at_ (rst s kv)).le HX.out
          rw [rst_len s h7.out.le, rst_len s HKv.out] at this
          have := h7.out.le
          have := HKv.out
          omega
        have HK7 := hide hk7
        clear HMd HSd Hd HM9 HS9 H9 AL hm7 hms7 h7 hk7
        go_wp2_with fail
        refine (HT7.out _ Ha.out).mono ?_
        rintro e w9 ⟨m9, hp⟩
        have HM10 := hide (HMa.out.trans m9 (by simp))
        have HS10 := hide (HSa.out.mod m9 (by simp; have := HPb.out; have := HVp.out; omega))
        have HJ10 := hide (HJ0.out.mod HM10.out (by have := HPb.out; have := HBs.out; omega) (by simp; have := HVp.out; omega))
        clear hcv m9
        cases hx : jtake (fun c => c == 44 || c == 93) (rst s k7) with
        | er r =>
          rw [hx] at hp
          obtain ⟨k8, rfl, h1, h2⟩ := hp
          have HE : Hid (jlist (jvalue n) false (rst s (k + 1)) = .er r) := hide (by rw [HEQ.out, HX.out]; simp only [PR.bind]; rw [hx])
          clear hx
          go_wp2_with fail
          rename_i heq
          cases heq
          exact ⟨rfl, MP.er HE.out HM10.out h1 h2⟩
        | ok c9 r =>
          rw [hx] at hp
          obtain ⟨k8, u, rfl, rfl, h1, h2⟩ := hp
          have hk8 : k7 + 1 ≤ k8 := by
            obtain ⟨e1, _⟩ := take_ok hx
            have e2 := congrArg List.length e1
            rw [List.length_cons, ← h2, rst_len s h1.le, rst_len s Ha.out.le] at e2
            have := h1.le
            have := Ha.out.le
            omega
          have hH : Hid (jlist (jvalue n) false (rst s (k + 1)) = if (c9 == 93) = true then .ok (JN.vs l ++ [x.v], ks) (rst s k8) else (jmanyT (jvalue n) false (rst s k8)).bind fun y r =>   .ok (JN.vs l ++ (x.v :: y.1), ks ++ y.2) r) := hide (by rw [HEQ.out, HX.out]; simp only [PR.bind]; rw [hx, h2])
          have H10 := hide h1
          have HK8 := hide hk8
          clear hx h1 h2 hk8
          have hvs : JN.vs (l ++ [x]) = JN.vs l ++ [x.v] := by rw [JN.vs_app]; rfl
          have hll : (l ++ [x]).length = l.length + 1 := by simp
          by_cases hc9 : c9 = 93
          · have HE : Hid (jlist (jvalue n) false (rst s (k + 1)) = .ok (JN.vs l ++ [x.v], ks) (rst s k8)) := hide (by rw [hH.out, if_pos (by rw [hc9]; rfl)])
            have g1 : ((c9.toNat : Int) == 93) = true := by rw [hc9]; rfl
            have g2 : (c9.toNat == 93) = true := by rw [hc9]; rfl
            have hb1 : (l ++ [x]).length ≤ jmax := by have := HLl.out; unfold jmax; omega
            have hb2 : kb.length ≤ jmax := by have := HKl9.out; unfold jmax; omega
            obtain ⟨j1, j2⟩ := HS10.out.jin hb1 hb2
            have HJi := hide j1
            have HJf := hide j2
            have HVs := hide hvs
            clear hc9 hb1 hb2 j1 j2 hvs hll
            go_wp2_with fail
            first | refine ⟨rfl, _, results_none rfl _ _ _, ?_⟩ | refine bodyPost_ret (results_none rfl _ _ _) rfl ?_
            exact MP.ok HE.out HM10.out H10.out rfl HS10.out.v HVs.out HKb9.out HJi.out (fun g hg => by have := HJf.out g hg; have hb := HBs.out; exact ⟨by omega, this.2⟩)
          · have HN : Hid (jlist (jvalue n) false (rst s (k + 1)) = (jmanyT (jvalue n) false (rst s k8)).bind fun y r => .ok (JN.vs (l ++ [x]) ++ y.1, ks ++ y.2) r) := hide (by
              rw [hH.out, if_neg (by simpa using hc9), hvs]
              simp only [List.append_assoc, List.singleton_append, List.cons_append, List.nil_append])
            have hn9 : c9.toNat ≠ 93 := fun e => hc9 (UInt8.toNat_inj.1 (by rw [e]; rfl))
            have g1 : ((c9.toNat : Int) == 93) = false := by rw [beq_eq_false_iff_ne]; omega
            have g2 : (c9.toNat == 93) = false := by rw [beq_eq_false_iff_ne]; exact hn9
            clear hc9 hn9 hvs
            go_wp2_with fail
            have hk8 := HK8.out
            have hk7 := HK7.out
            have hkj := HKj9.out
            have hkl9 := HKlen.out
            have hle := H10.out.le
            refine ⟨?rel, ?measure⟩
            case rel => exact ⟨k8, c', d, A', B, l ++ [x], ks, by rw [hll]; omega, by omega, HM10, H10, by rw [← HKb9.out]; exact HS10, HJ10, by exact HN⟩
            case measure =>
              have e : atOf p w9 = k8 := by
                unfold atOf
                rw [H10.out.blk.cell 1]
                rfl
              rw [HA.out, e]
              omega
end Go.Proofs.YtkbpndohpkcikabDoor
