/-
  Contracts of the document's package, part 7 of 8: FrRf13.
-/
import Derived.Test.YtbjmcnmcodbkdaaDoorH6

/-
  frames: the document's package: head.
-/
namespace Go.Proofs.YtbjmcnmcodbkdaaDoor
open Go.RowKit Go.Sort
set_option linter.unusedVariables false
set_option linter.unusedSimpArgs false

def cellN (w : World) (F : Nat) : Nat := match w.cell? ⟨F, 1, none⟩ with
  | some (.int _ n) => n.toNat
  | _ => 0
theorem zeros_at {s : List UInt8} {j : Nat} (h : ∀ i, i < j → s[i]? = some 0) : j ≤ zeros s := by
  induction j generalizing s with
  | zero => omega
  | succ j ih =>
    match s, h with
    | [], h => have := h 0 (by omega); cases this
    | c :: t, h =>
      have h0 := h 0 (by omega)
      obtain rfl : c = 0 := Option.some.inj h0
      have := ih (s := t) (fun i hi => h (i + 1) (by omega))
      unfold zeros at this ⊢
      simp
      omega
theorem zeros_end {s : List UInt8} {j : Nat} (h : ∀ i, i < j → s[i]? = some 0) (he : s[j]? ≠ some 0) : zeros s = j := by
  induction j generalizing s with
  | zero =>
    match s, he with
    | [], _ => rfl
    | c :: t, he =>
      have : c ≠ 0 := fun e => he (by rw [e]; rfl)
      unfold zeros
      simp [this]
  | succ j ih =>
    match s, h with
    | [], h => have := h 0 (by omega); cases this
    | c :: t, h =>
      have h0 := h 0 (by omega)
      obtain rfl : c = 0 := Option.some.inj h0
      have := ih (s := t) (fun i hi => h (i + 1) (by omega)) (by simpa using he)
      unfold zeros at this ⊢
      simp
      omega

theorem AckS.num_ {w X : World} {RB F c cn cn' : Nat} {A An An' : Option Addr} {f : Fr} {ns ns' : List Nat} (h : AckS w X RB F A c f An cn ns) (hn : NOwn X w.heap.size An' cn' ns') : AckS w X RB F A c f An' cn' ns' := ⟨h.fr, h.rb, h.own, hn, h.mod⟩
theorem AckS.pad {w X : World} {RB F cn m : Nat} {An : Option Addr} {f : Fr} {ns : List Nat} (h : AckS w X RB F none 0 f An cn ns) (hl : f.list = []) (hn : ns.length ≤ 1000) (hm : ns.length = m) :
    ∃ g' c' X6, (Builtin.append_ #[68, 68] 68 #[.slice An m cn, .slice (some ⟨X.heap.size, 0, none⟩) 3 3]).run Tryd.prog (X.alloc (.cells #[.int .u64 0, .int .u64 0, .int .u64 0] 23)) = .ok (.slice (some ⟨g', 0, none⟩) (m + 3) c') X6 ∧
      AckS w X6 RB F none 0 f (some ⟨g', 0, none⟩) c' (ns ++ [0, 0, 0]) := by
  subst hm
  have h2 := h.new ((Mod.refl [] X).alloc (.cells #[.int .u64 0, .int .u64 0, .int .u64 0] 23))
  have hb : Blk (X.alloc (.cells #[.int .u64 0, .int .u64 0, .int .u64 0] 23)) X.heap.size 23 (([0, 0, 0] : List Nat).map u64v).toArray := Blk.new X _ _
  obtain ⟨A', c', X6, h3, h4, h5⟩ := h2.num.app h2.mod.size (by omega) [0, 0, 0] (by simp) _ hb
  have hnF : F ∉ (Value.slice An ns.length cn).ownBlock.toList := by
    intro hm
    rw [Option.mem_toList] at hm
    exact h2.num.ne h2.fr (by decide) F hm rfl
  have hnR : RB ∉ (Value.slice An ns.length cn).ownBlock.toList := by
    intro hm
    rw [Option.mem_toList] at hm
    exact h2.num.ne h2.rb (by decide) RB hm rfl
  have e3 : (ns ++ [0, 0, 0]).length = ns.length + 3 := by simp
  obtain ⟨g', rfl, _⟩ := h4.at_ (i := 0) (x := (ns ++ [0, 0, 0])[0]'(by simp)) (List.getElem?_eq_getElem _)
  rw [e3] at h3
  have hown : ROwn X6 w.heap.size none 0 f.list := by rw [hl]; exact ROwn.nil _ _
  exact ⟨g', c', X6, h3, h5.blk h2.fr hnF, h5.blk h2.rb hnR, hown, h4, h2.mod.keep h5 h2.num (Nat.le_refl _)⟩
theorem pad_at (ns : List Nat) : (ns ++ [0, 0, 0])[0]? = some (ns.getD 0 0) ∧ (ns ++ [0, 0, 0])[1]? = some (ns.getD 1 0) ∧ (ns ++ [0, 0, 0])[2]? = some (ns.getD 2 0) := by
  match ns with
  | [] => exact ⟨rfl, rfl, rfl⟩
  | [a] => exact ⟨rfl, rfl, rfl⟩
  | [a, b] => exact ⟨rfl, rfl, rfl⟩
  | a :: b :: c :: t => exact ⟨rfl, rfl, rfl⟩

set_option maxRecDepth 100000 in
set_option maxHeartbeats 16000000 in
theorem head_any (w : World) (x : ByteArray) (hx : x.size ≤ 1000000) :
    Calls Tryd.prog 28 #[.string x] w (HdP w (phead x.data.toList)) := by
  have HB0 := hide (Blk.new w 26 #[.int .u64 0, .int .u64 0, .int .u64 0, .int .u64 0, .bool false, .string ⟨#[]⟩, .string ⟨#[]⟩, .slice none 0 0])
  have HM0 := hide ((Mod.refl [] w).alloc (.cells #[.int .u64 0, .int .u64 0, .int .u64 0, .int .u64 0, .bool false, .string ⟨#[]⟩, .string ⟨#[]⟩, .slice none 0 0] 26))
  have HT := hide (fun w => rtake_any w x)
  obtain ⟨n, hn⟩ : ∃ n, (vtake x.data.toList).n = n := ⟨_, rfl⟩
  obtain ⟨r, hr⟩ : ∃ r, (vtake x.data.toList).rest = r := ⟨_, rfl⟩
  obtain ⟨er, her⟩ : ∃ r, (vtake x.data.toList).e = r := ⟨_, rfl⟩
  have hrl : r.length ≤ x.size := by rw [← hr, ← bytes_len]; exact vtake_rest _
  have hn62 : n < 4611686018427387904 := by rw [← hn]; exact vtake_n_lt _
  obtain ⟨T, hT, hTs, hTl⟩ := putB2 r
  rw [hn, hr, her, hT] at HT
  have hvn : vnum x.data.toList = if er = 0 then some (n, T.data.toList) else none := by unfold vnum; rw [her, hn, hr, hTl]
  have HVn := hide hvn
  have hTx : T.size ≤ 1000000 := by omega
  clear hn hr her hT hvn hrl hTs hTl
  obtain ⟨RB, hRB⟩ : ∃ RB, w.heap.size = RB := ⟨_, rfl⟩
  have HRBw : Hid (w.heap.size ≤ RB) := hide (by omega)
  rw [hRB] at HB0
  go_enter Tryd.func28, Tryd.ntmps28
  go_wp2_with fail
  refine (HT.out _).mono ?_
  rintro e0 w1 ⟨rfl, m1⟩
  have HR1 := hide (m1.blk HB0.out (by simp))
  have HM1 := hide (HM0.out.trans m1 (by simp))
  clear m1 hRB HB0 HM0
  have z0 : w1.cell? ⟨RB, 0, none⟩ = some (.int .u64 0) := HR1.out.cell 0
  have r0 : w1.frozen? ⟨RB, 0, none⟩ = false := HR1.out.frozen 0
  have z1 : w1.cell? ⟨RB, 1, none⟩ = some (.int .u64 0) := HR1.out.cell 1
  have r1 : w1.frozen? ⟨RB, 1, none⟩ = false := HR1.out.frozen 1
  have z2 : w1.cell? ⟨RB, 2, none⟩ = some (.int .u64 0) := HR1.out.cell 2
  have r2 : w1.frozen? ⟨RB, 2, none⟩ = false := HR1.out.frozen 2
  have z3 : w1.cell? ⟨RB, 3, none⟩ = some (.int .u64 0) := HR1.out.cell 3
  have r3 : w1.frozen? ⟨RB, 3, none⟩ = false := HR1.out.frozen 3
  have z4 : w1.cell? ⟨RB, 4, none⟩ = some (.bool false) := HR1.out.cell 4
  have r4 : w1.frozen? ⟨RB, 4, none⟩ = false := HR1.out.frozen 4
  have z5 : w1.cell? ⟨RB, 5, none⟩ = some (.string ⟨#[]⟩) := HR1.out.cell 5
  have r5 : w1.frozen? ⟨RB, 5, none⟩ = false := HR1.out.frozen 5
  have z6 : w1.cell? ⟨RB, 6, none⟩ = some (.string ⟨#[]⟩) := HR1.out.cell 6
  have r6 : w1.frozen? ⟨RB, 6, none⟩ = false := HR1.out.frozen 6
  have z7 : w1.cell? ⟨RB, 7, none⟩ = some (.slice none 0 0) := HR1.out.cell 7
  have r7 : w1.frozen? ⟨RB, 7, none⟩ = false := HR1.out.frozen 7
  have lR := HR1.out.lt
  by_cases h0 : er = 0
  rotate_left
  · have HV : Hid (HdV (phead x.data.toList) ⟨0, 0, 0, 0, false, ⟨#[]⟩, ⟨#[]⟩, []⟩ false) := hide (HdV.no (by unfold phead; rw [HVn.out, if_neg h0]; rfl))
    have g1 : (er == 0) = false := by simpa using h0
    have g2 : (er != 0) = true := by simpa using h0
    clear h0
    go_wp2_with fail
    have HE := hide (HdP.fin (X := w1) (f := ⟨0, 0, 0, 0, false, ⟨#[]⟩, ⟨#[]⟩, []⟩) HV.out rfl HM1.out HR1.out HRBw.out)
    refine bodyPost_ret (results_cell_tmp_row rfl _ _ RB 26 (fcs none 0 0 ⟨0, 0, 0, 0, false, ⟨#[]⟩, ⟨#[]⟩, []⟩) _ rfl ?_ Tryd.underlying26 rfl (by kernel_rfl)) rfl ?_
    · exact HE.out.1
    exact HE.out.2
  subst h0
  have HPh : Hid (phead x.data.toList = if n = 2 ∨ n = 3 then hacked n T.data.toList
    else if n = 0 then some ⟨0, min (zeros x.data.toList) 16384, 0, 0, false, ⟨#[]⟩, ⟨#[]⟩, []⟩
    else (hmany n).bind fun m => (vnums m T.data.toList).bind fun y => hended ⟨hkind n, y.1.getD 0 0, y.1.getD 1 0, y.1.getD 2 0, decide (8 ≤ n ∧ n ≤ 15) && decide (n % 2 = 1), ⟨#[]⟩, ⟨#[]⟩, []⟩ y.2) := hide (by
    unfold phead
    rw [HVn.out, if_pos rfl]
    rfl)
  by_cases h23 : n = 2 ∨ n = 3
  · have HPa := hide (HPh.out.trans (if_pos h23))
    have HA := hide (fun w' => acked_any w' n h23 T hTx)
    have hh : n = 2 ∨ n = 3 := h23
    have g1 : ((n : Int) == 2) = decide (n = 2) := by rw [Bool.eq_iff_iff]; simp; omega
    have g2 : (n == 2) = decide (n = 2) := by rw [Bool.eq_iff_iff]; simp
    clear h23
    rcases hh with rfl | rfl
    all_goals
      clear g1 g2
      go_wp2_with fail
      refine (HA.out _).mono ?_
      rintro e0 w2 ⟨f', A', c', rfl, hf, ho, hl, m2⟩
      have HR2 := hide (m2.blk HR1.out (by simp))
      have HM2 := hide (HM1.out.trans m2 (by simp))
      have HO2 := hide (ho.base HM1.out.size)
      have HF := hide hf
      clear z0 r0 z1 r1 z2 r2 z3 r3 z4 r4 z5 r5 z6 r6 z7 r7 lR m2 ho hf
      have z0 : w2.cell? ⟨RB, 0, none⟩ = some (.int .u64 0) := HR2.out.cell 0
      have r0 : w2.frozen? ⟨RB, 0, none⟩ = false := HR2.out.frozen 0
      have z1 : w2.cell? ⟨RB, 1, none⟩ = some (.int .u64 0) := HR2.out.cell 1
      have r1 : w2.frozen? ⟨RB, 1, none⟩ = false := HR2.out.frozen 1
      have z2 : w2.cell? ⟨RB, 2, none⟩ = some (.int .u64 0) := HR2.out.cell 2
      have r2 : w2.frozen? ⟨RB, 2, none⟩ = false := HR2.out.frozen 2
      have z3 : w2.cell? ⟨RB, 3, none⟩ = some (.int .u64 0) := HR2.out.cell 3
      have r3 : w2.frozen? ⟨RB, 3, none⟩ = false := HR2.out.frozen 3
      have z4 : w2.cell? ⟨RB, 4, none⟩ = some (.bool false) := HR2.out.cell 4
      have r4 : w2.frozen? ⟨RB, 4, none⟩ = false := HR2.out.frozen 4
      have z5 : w2.cell? ⟨RB, 5, none⟩ = some (.string ⟨#[]⟩) := HR2.out.cell 5
      have r5 : w2.frozen? ⟨RB, 5, none⟩ = false := HR2.out.frozen 5
      have z6 : w2.cell? ⟨RB, 6, none⟩ = some (.string ⟨#[]⟩) := HR2.out.cell 6
      have r6 : w2.frozen? ⟨RB, 6, none⟩ = false := HR2.out.frozen 6
      have z7 : w2.cell? ⟨RB, 7, none⟩ = some (.slice none 0 0) := HR2.out.cell 7
      have r7 : w2.frozen? ⟨RB, 7, none⟩ = false := HR2.out.frozen 7
      have lR := HR2.out.lt
      unfold fcs
      go_wp2_with fail
      have HE := hide (HdP.fin2 (X := w2) (f := f') (A := A') (c := c') (o := phead x.data.toList) (by rw [HPa.out]; exact ⟨rfl, HF.out⟩) HO2.out hl HM2.out HR2.out HRBw.out)
      refine bodyPost_ret (results_cell_tmp_row rfl _ _ RB 26 (fcs A' f'.list.length c' f') _ rfl ?_ Tryd.underlying26 rfl (by kernel_rfl)) rfl ?_
      · exact HE.out.1
      exact HE.out.2
  have HPb := hide (HPh.out.trans (if_neg h23))
  have g2 : ((n : Int) == 2) = false := by simp; omega
  have g2b : (n == 2) = false := by simp; omega
  have g3 : ((n : Int) == 3) = false := by simp; omega
  have g3b : (n == 3) = false := by simp; omega
  by_cases hz : n = 0
  · subst hz
    have HPz := hide (HPb.out.trans (if_pos rfl))
    have HN := hide (fun w => rnumbers_any w 0)
    rw [show fnumI 0 = 1 from rfl] at HN
    clear h23 g2 g2b g3 g3b
    go_wp2_with fail
    refine (HN.out _).mono ?_
    rintro e0 w2 ⟨rfl, rfl⟩
    go_wp2_with fail
    have HFb := hide (Blk.new w1 26 #[.int .u64 0, .int .u64 0, .int .u64 0, .int .u64 0, .bool false, .string ⟨#[]⟩, .string ⟨#[]⟩, .slice none 0 0])
    have HR3 := hide (HR1.out.alloc (.cells #[.int .u64 0, .int .u64 0, .int .u64 0, .int .u64 0, .bool false, .string ⟨#[]⟩, .string ⟨#[]⟩, .slice none 0 0] 26))
    have HM3 := hide (HM1.out.alloc (.cells #[.int .u64 0, .int .u64 0, .int .u64 0, .int .u64 0, .bool false, .string ⟨#[]⟩, .string ⟨#[]⟩, .slice none 0 0] 26))
    obtain ⟨F, hF⟩ : ∃ F, w1.heap.size = F := ⟨_, rfl⟩
    have HFw : Hid (w.heap.size ≤ F) := hide (by rw [← hF]; exact HM1.out.size)
    have HFR : Hid (RB ≠ F) := hide (by rw [← hF]; have := HR1.out.lt; omega)
    obtain ⟨W3, hW3⟩ : ∃ W3, w1.alloc (.cells #[.int .u64 0, .int .u64 0, .int .u64 0, .int .u64 0, .bool false, .string ⟨#[]⟩, .string ⟨#[]⟩, .slice none 0 0] 26) = W3 := ⟨_, rfl⟩
    rw [hF] at HFb
    rw [hW3] at HFb HR3 HM3
    rw [hW3, hF]
    clear hW3 hF z0 r0 z1 r1 z2 r2 z3 r3 z4 r4 z5 r5 z6 r6 z7 r7 lR
    go_loopw [] (fun wr => ∃ j : Nat, j ≤ 16384 ∧ j ≤ x.size ∧ Hid (∀ i, i < j → x.data.toList[i]? = some 0) ∧ Hid (Blk wr F 26 #[.int .u64 0, .int .u64 (j : Nat), .int .u64 0, .int .u64 0, .bool false, .string ⟨#[]⟩, .string ⟨#[]⟩, .slice none 0 0]) ∧ Hid (Blk wr RB 26 #[.int .u64 0, .int .u64 0, .int .u64 0, .int .u64 0, .bool false, .string ⟨#[]⟩, .string ⟨#[]⟩, .slice none 0 0]) ∧ Hid (Mod [] w wr)) (fun wr => 16384 - cellN wr F)
    case atStart => exact ⟨0, by omega, by omega, hide (fun i h => by omega), HFb, HR3, HM3⟩
    case round =>
      obtain ⟨j, hj, hjx, hzs, hb, hrb, hm⟩ := hrel
      have hcn : cellN wr F = j := by unfold cellN; rw [show wr.cell? ⟨F, 1, none⟩ = some (.int .u64 (j : Nat)) from hb.out.cell 1]; rfl
      have HCn := hide hcn
      clear hcn
      have p0 : wr.cell? ⟨F, 0, none⟩ = some (.int .u64 0) := hb.out.cell 0
      have f0 : wr.frozen? ⟨F, 0, none⟩ = false := hb.out.frozen 0
      have p1 : wr.cell? ⟨F, 1, none⟩ = some (.int .u64 (j : Nat)) := hb.out.cell 1
      have f1 : wr.frozen? ⟨F, 1, none⟩ = false := hb.out.frozen 1
      have p2 : wr.cell? ⟨F, 2, none⟩ = some (.int .u64 0) := hb.out.cell 2
      have f2 : wr.frozen? ⟨F, 2, none⟩ = false := hb.out.frozen 2
      have p3 : wr.cell? ⟨F, 3, none⟩ = some (.int .u64 0) := hb.out.cell 3
      have f3 : wr.frozen? ⟨F, 3, none⟩ = false := hb.out.frozen 3
      have p4 : wr.cell? ⟨F, 4, none⟩ = some (.bool false) := hb.out.cell 4
      have f4 : wr.frozen? ⟨F, 4, none⟩ = false := hb.out.frozen 4
      have p5 : wr.cell? ⟨F, 5, none⟩ = some (.string ⟨#[]⟩) := hb.out.cell 5
      have f5 : wr.frozen? ⟨F, 5, none⟩ = false := hb.out.frozen 5
      have p6 : wr.cell? ⟨F, 6, none⟩ = some (.string ⟨#[]⟩) := hb.out.cell 6
      have f6 : wr.frozen? ⟨F, 6, none⟩ = false := hb.out.frozen 6
      have p7 : wr.cell? ⟨F, 7, none⟩ = some (.slice none 0 0) := hb.out.cell 7
      have f7 : wr.frozen? ⟨F, 7, none⟩ = false := hb.out.frozen 7
      have lF := hb.out.lt
      have z0 : wr.cell? ⟨RB, 0, none⟩ = some (.int .u64 0) := hrb.out.cell 0
      have r0 : wr.frozen? ⟨RB, 0, none⟩ = false := hrb.out.frozen 0
      have z1 : wr.cell? ⟨RB, 1, none⟩ = some (.int .u64 0) := hrb.out.cell 1
      have r1 : wr.frozen? ⟨RB, 1, none⟩ = false := hrb.out.frozen 1
      have z2 : wr.cell? ⟨RB, 2, none⟩ = some (.int .u64 0) := hrb.out.cell 2
      have r2 : wr.frozen? ⟨RB, 2, none⟩ = false := hrb.out.frozen 2
      have z3 : wr.cell? ⟨RB, 3, none⟩ = some (.int .u64 0) := hrb.out.cell 3
      have r3 : wr.frozen? ⟨RB, 3, none⟩ = false := hrb.out.frozen 3
      have z4 : wr.cell? ⟨RB, 4, none⟩ = some (.bool false) := hrb.out.cell 4
      have r4 : wr.frozen? ⟨RB, 4, none⟩ = false := hrb.out.frozen 4
      have z5 : wr.cell? ⟨RB, 5, none⟩ = some (.string ⟨#[]⟩) := hrb.out.cell 5
      have r5 : wr.frozen? ⟨RB, 5, none⟩ = false := hrb.out.frozen 5
      have z6 : wr.cell? ⟨RB, 6, none⟩ = some (.string ⟨#[]⟩) := hrb.out.cell 6
      have r6 : wr.frozen? ⟨RB, 6, none⟩ = false := hrb.out.frozen 6
      have z7 : wr.cell? ⟨RB, 7, none⟩ = some (.slice none 0 0) := hrb.out.cell 7
      have r7 : wr.frozen? ⟨RB, 7, none⟩ = false := hrb.out.frozen 7
      have lR := hrb.out.lt
      by_cases h16 : j < 16384
      · have a1 : decide ((j : Int) < 16384) = true := decide_eq_true (by omega)
        have a2 : decide (j < 16384) = true := decide_eq_true h16
        have a3 : IntKind.i64.wrap (j : Int) = j := IntWalk.i64_in _ (by omega)
        by_cases hlt : j < x.size
        · have b1 : decide ((j : Int) < x.size) = true := decide_eq_true (by omega)
          have b2 : decide (j < x.size) = true := decide_eq_true hlt
          have hlti : (j : Int) < x.size := by omega
          obtain ⟨c, hc⟩ : ∃ c, x.data.toList[j]? = some c := ⟨_, List.getElem?_eq_getElem (by rw [bytes_len]; exact hlt)⟩
          have hxc : x[j]'hlt = c := getElem_list x j _ c hc
          by_cases hc0 : c = 0
          · subst hc0
            have HZ : Hid (∀ i, i < j + 1 → x.data.toList[i]? = some 0) := hide (fun i hi => by
              by_cases e : i = j
              · subst e; exact hc
              · exact hzs.out i (by omega))
            have HB4 : Hid (Blk (wr.setCell ⟨F, 1, none⟩ (.int .u64 ((j : Int) + 1))) F 26 #[.int .u64 0, .int .u64 ((j + 1 : Nat) : Int), .int .u64 0, .int .u64 0, .bool false, .string ⟨#[]⟩, .string ⟨#[]⟩, .slice none 0 0]) := hide (hb.out.set_ 1 (.int .u64 ((j : Int) + 1)))
            have HR4 := hide (hrb.out.far (p := ⟨F, 1, none⟩) HFR.out (.int .u64 ((j : Int) + 1)))
            have HM4 := hide (hm.out.setCell (p := ⟨F, 1, none⟩) (.inr HFw.out) (.int .u64 ((j : Int) + 1)))
            have HJ16 := hide h16
            clear hc h16
            go_wp2_with fail
            have h16 := HJ16.out
            refine ⟨?rel, ?measure⟩
            case rel => exact ⟨j + 1, by omega, by omega, HZ, HB4, HR4, HM4⟩
            case measure =>
              have e : cellN (wr.setCell ⟨F, 1, none⟩ (.int .u64 ((j : Int) + 1))) F = j + 1 := by unfold cellN; rw [show (wr.setCell ⟨F, 1, none⟩ (.int .u64 ((j : Int) + 1))).cell? ⟨F, 1, none⟩ = some (.int .u64 ((j + 1 : Nat) : Int)) from HB4.out.cell 1]; rfl
              rw [HCn.out, e]
              omega
          · have c1 : ((c.toNat : Int) == 0) = false := by
              have : c.toNat ≠ 0 := fun e => hc0 (by rw [← UInt8.ofNat_toNat (x := c), e]; rfl)
              rw [beq_eq_false_iff_ne]; omega
            have c2 : (c.toNat == 0) = false := by
              have : c.toNat ≠ 0 := fun e => hc0 (by rw [← UInt8.ofNat_toNat (x := c), e]; rfl)
              rw [beq_eq_false_iff_ne]; exact this
            have HV : Hid (HdV (phead x.data.toList) ⟨0, j, 0, 0, false, ⟨#[]⟩, ⟨#[]⟩, []⟩ true) := hide (HdV.yes (by
              rw [HPz.out, zeros_end hzs.out (by rw [hc]; exact fun e => hc0 (Option.some.inj e)), Nat.min_eq_left (by omega)]))
            clear hc hc0 h16
            go_wp2_with fail
            have HE := hide (HdP.fin (X := wr) (f := ⟨0, j, 0, 0, false, ⟨#[]⟩, ⟨#[]⟩, []⟩) HV.out rfl hm.out hrb.out HRBw.out)
            refine bodyPost_ret (results_cell_tmp_row rfl _ _ RB 26 (fcs none 0 0 ⟨0, j, 0, 0, false, ⟨#[]⟩, ⟨#[]⟩, []⟩) _ rfl ?_ Tryd.underlying26 rfl (by kernel_rfl)) rfl ?_
            · exact HE.out.1
            exact HE.out.2
        · obtain rfl : j = x.size := by omega
          have b1 : decide ((x.size : Int) < x.size) = false := decide_eq_false (by omega)
          have b2 : decide (x.size < x.size) = false := decide_eq_false hlt
          have HV : Hid (HdV (phead x.data.toList) ⟨0, x.size, 0, 0, false, ⟨#[]⟩, ⟨#[]⟩, []⟩ true) := hide (HdV.yes (by
            rw [HPz.out, zeros_end hzs.out (by rw [List.getElem?_eq_none (by rw [bytes_len]; exact Nat.le_refl _)]; simp), Nat.min_eq_left (by omega)]))
          clear h16
          go_wp2_with fail
          have HE := hide (HdP.fin (X := wr) (f := ⟨0, x.size, 0, 0, false, ⟨#[]⟩, ⟨#[]⟩, []⟩) HV.out rfl hm.out hrb.out HRBw.out)
          refine bodyPost_ret (results_cell_tmp_row rfl _ _ RB 26 (fcs none 0 0 ⟨0, x.size, 0, 0, false, ⟨#[]⟩, ⟨#[]⟩, []⟩) _ rfl ?_ Tryd.underlying26 rfl (by kernel_rfl)) rfl ?_
          · exact HE.out.1
          exact HE.out.2
      · obtain rfl : j = 16384 := by omega
        have HV : Hid (HdV (phead x.data.toList) ⟨0, 16384, 0, 0, false, ⟨#[]⟩, ⟨#[]⟩, []⟩ true) := hide (HdV.yes (by
          have := zeros_at hzs.out
          rw [HPz.out, Nat.min_eq_right (by omega)]))
        clear h16
        go_wp2_with fail
        have HE := hide (HdP.fin (X := wr) (f := ⟨0, 16384, 0, 0, false, ⟨#[]⟩, ⟨#[]⟩, []⟩) HV.out rfl hm.out hrb.out HRBw.out)
        refine bodyPost_ret (results_cell_tmp_row rfl _ _ RB 26 (fcs none 0 0 ⟨0, 16384, 0, 0, false, ⟨#[]⟩, ⟨#[]⟩, []⟩) _ rfl ?_ Tryd.underlying26 rfl (by kernel_rfl)) rfl ?_
        · exact HE.out.1
        exact HE.out.2
  have HPn := hide (HPb.out.trans (if_neg hz))
  have gz : ((n : Int) == 0) = false := by simp; omega
  have gzb : (n == 0) = false := by simp; omega
  by_cases h815 : 8 ≤ n ∧ n ≤ 15
  · have a1 : decide ((8 : Int) ≤ n) = true := decide_eq_true (by omega)
    have a2 : decide (8 ≤ n) = true := decide_eq_true (by omega)
    have a3 : decide ((n : Int) ≤ 15) = true := decide_eq_true (by omega)
    have a4 : decide (n ≤ 15) = true := decide_eq_true (by omega)
    have hkk : hkind n = 8 := if_pos h815
    obtain ⟨fin, hfin⟩ : ∃ fin, decide (n % 2 = 1) = fin := ⟨_, rfl⟩
    have a5 : ((n : Int) % 2 == 1) = fin := by rw [← hfin, Bool.eq_iff_iff]; simp; omega
    have a6 : (n % 2 == 1) = fin := by rw [← hfin, Bool.eq_iff_iff]; simp
    have a7 : ((n : Int).tmod 2 == 1) = fin := by rw [← a5, Int.tmod_eq_emod_of_nonneg (by omega)]
    have HN := hide (fun w => rnumbers_any w 8)
    rw [show fnumI 8 = 2 from rfl] at HN
    have HS3 : Hid (AckS w (w1.alloc (.cells #[.int .u64 (n : Nat), .int .u64 0, .int .u64 0, .int .u64 0, .bool false, .string ⟨#[]⟩, .string ⟨#[]⟩, .slice none 0 0] 26)) RB w1.heap.size none 0 ⟨n, 0, 0, 0, false, ⟨#[]⟩, ⟨#[]⟩, []⟩ none 0 []) := hide ⟨Blk.new w1 _ _, HR1.out.alloc _, ROwn.nil _ _, World.ownsRow_nil _ _ _ _, HM1.out.alloc _⟩
    obtain ⟨F, hF⟩ : ∃ F, w1.heap.size = F := ⟨_, rfl⟩
    have HFw : Hid (w.heap.size ≤ F) := hide (by rw [← hF]; exact HM1.out.size)
    have HFR : Hid (RB ≠ F) := hide (by rw [← hF]; have := HR1.out.lt; omega)
    have HFe := hide hF
    clear hF
    by_cases h12 : n < 12
    · have a8 : decide ((n : Int) < 12) = true := decide_eq_true (by omega)
      have a9 : decide (n < 12) = true := decide_eq_true h12
      have HPg : Hid (phead x.data.toList = (vnums 1 T.data.toList).bind fun y => hended ⟨8, y.1.getD 0 0, y.1.getD 1 0, y.1.getD 2 0, fin, ⟨#[]⟩, ⟨#[]⟩, []⟩ y.2) := hide (by
        rw [HPn.out, hkk, show hmany n = some 1 from if_pos ⟨h815.1, h12⟩, decide_eq_true h815, hfin]; rfl)
      clear h815 h12 hkk hfin h23 hz
      go_wp2_with fail
      have HSx : Hid (AckS w (w1.alloc (.cells #[.int .u64 8, .int .u64 0, .int .u64 0, .int .u64 0, .bool fin, .string ⟨#[]⟩, .string ⟨#[]⟩, .slice none 0 0] 26)) RB w1.heap.size none 0 ⟨8, 0, 0, 0, fin, ⟨#[]⟩, ⟨#[]⟩, []⟩ none 0 []) := hide ⟨Blk.new w1 _ _, HR1.out.alloc _, ROwn.nil _ _, World.ownsRow_nil _ _ _ _, HM1.out.alloc _⟩
      refine (HN.out _).mono ?_
      rintro e0 w2 ⟨rfl, rfl⟩
      obtain ⟨X, hX⟩ : ∃ X, w1.alloc (.cells #[.int .u64 8, .int .u64 0, .int .u64 0, .int .u64 0, .bool fin, .string ⟨#[]⟩, .string ⟨#[]⟩, .slice none 0 0] 26) = X := ⟨_, rfl⟩
      rw [hX] at HSx
      rw [hX]
      have hF := HFe.out
      try rw [hF] at HSx
      try rw [hF]
      clear hX hF HS3 HFe z0 r0 z1 r1 z2 r2 z3 r3 z4 r4 z5 r5 z6 r6 z7 r7 lR
      have p0 : X.cell? ⟨F, 0, none⟩ = some (.int .u64 8) := HSx.out.fr.cell 0
      have f0 : X.frozen? ⟨F, 0, none⟩ = false := HSx.out.fr.frozen 0
      have p1 : X.cell? ⟨F, 1, none⟩ = some (.int .u64 0) := HSx.out.fr.cell 1
      have f1 : X.frozen? ⟨F, 1, none⟩ = false := HSx.out.fr.frozen 1
      have p2 : X.cell? ⟨F, 2, none⟩ = some (.int .u64 0) := HSx.out.fr.cell 2
      have f2 : X.frozen? ⟨F, 2, none⟩ = false := HSx.out.fr.frozen 2
      have p3 : X.cell? ⟨F, 3, none⟩ = some (.int .u64 0) := HSx.out.fr.cell 3
      have f3 : X.frozen? ⟨F, 3, none⟩ = false := HSx.out.fr.frozen 3
      have p4 : X.cell? ⟨F, 4, none⟩ = some (.bool fin) := HSx.out.fr.cell 4
      have f4 : X.frozen? ⟨F, 4, none⟩ = false := HSx.out.fr.frozen 4
      have p5 : X.cell? ⟨F, 5, none⟩ = some (.string ⟨#[]⟩) := HSx.out.fr.cell 5
      have f5 : X.frozen? ⟨F, 5, none⟩ = false := HSx.out.fr.frozen 5
      have p6 : X.cell? ⟨F, 6, none⟩ = some (.string ⟨#[]⟩) := HSx.out.fr.cell 6
      have f6 : X.frozen? ⟨F, 6, none⟩ = false := HSx.out.fr.frozen 6
      have p7 : X.cell? ⟨F, 7, none⟩ = some (.slice none 0 0) := HSx.out.fr.cell 7
      have f7 : X.frozen? ⟨F, 7, none⟩ = false := HSx.out.fr.frozen 7
      have lF := HSx.out.fr.lt
      have z0 : X.cell? ⟨RB, 0, none⟩ = some (.int .u64 0) := HSx.out.rb.cell 0
      have r0 : X.frozen? ⟨RB, 0, none⟩ = false := HSx.out.rb.frozen 0
      have z1 : X.cell? ⟨RB, 1, none⟩ = some (.int .u64 0) := HSx.out.rb.cell 1
      have r1 : X.frozen? ⟨RB, 1, none⟩ = false := HSx.out.rb.frozen 1
      have z2 : X.cell? ⟨RB, 2, none⟩ = some (.int .u64 0) := HSx.out.rb.cell 2
      have r2 : X.frozen? ⟨RB, 2, none⟩ = false := HSx.out.rb.frozen 2
      have z3 : X.cell? ⟨RB, 3, none⟩ = some (.int .u64 0) := HSx.out.rb.cell 3
      have r3 : X.frozen? ⟨RB, 3, none⟩ = false := HSx.out.rb.frozen 3
      have z4 : X.cell? ⟨RB, 4, none⟩ = some (.bool false) := HSx.out.rb.cell 4
      have r4 : X.frozen? ⟨RB, 4, none⟩ = false := HSx.out.rb.frozen 4
      have z5 : X.cell? ⟨RB, 5, none⟩ = some (.string ⟨#[]⟩) := HSx.out.rb.cell 5
      have r5 : X.frozen? ⟨RB, 5, none⟩ = false := HSx.out.rb.frozen 5
      have z6 : X.cell? ⟨RB, 6, none⟩ = some (.string ⟨#[]⟩) := HSx.out.rb.cell 6
      have r6 : X.frozen? ⟨RB, 6, none⟩ = false := HSx.out.rb.frozen 6
      have z7 : X.cell? ⟨RB, 7, none⟩ = some (.slice none 0 0) := HSx.out.rb.cell 7
      have r7 : X.frozen? ⟨RB, 7, none⟩ = false := HSx.out.rb.frozen 7
      have lR := HSx.out.rb.lt
      have HTk := hide (fun w' => took_any w' T 1 (by omega))
      have HEn := hide (fun w' b0 b1 b2 S hS => ended_any w' 8 b0 b1 b2 fin ⟨#[]⟩ ⟨#[]⟩ S hS)
      unfold fcs at HEn
      simp only at HEn
      go_wp2_with fail
      refine (HTk.out _).mono ?_
      rintro e0 w2 ⟨m2, hp⟩
      have HS2 := hide (HSx.out.new m2)
      clear m2 p0 f0 p1 f1 p2 f2 p3 f3 p4 f4 p5 f5 p6 f6 p7 f7 lF z0 r0 z1 r1 z2 r2 z3 r3 z4 r4 z5 r5 z6 r6 z7 r7 lR
      have p0 : w2.cell? ⟨F, 0, none⟩ = some (.int .u64 8) := HS2.out.fr.cell 0
      have f0 : w2.frozen? ⟨F, 0, none⟩ = false := HS2.out.fr.frozen 0
      have p1 : w2.cell? ⟨F, 1, none⟩ = some (.int .u64 0) := HS2.out.fr.cell 1
      have f1 : w2.frozen? ⟨F, 1, none⟩ = false := HS2.out.fr.frozen 1
      have p2 : w2.cell? ⟨F, 2, none⟩ = some (.int .u64 0) := HS2.out.fr.cell 2
      have f2 : w2.frozen? ⟨F, 2, none⟩ = false := HS2.out.fr.frozen 2
      have p3 : w2.cell? ⟨F, 3, none⟩ = some (.int .u64 0) := HS2.out.fr.cell 3
      have f3 : w2.frozen? ⟨F, 3, none⟩ = false := HS2.out.fr.frozen 3
      have p4 : w2.cell? ⟨F, 4, none⟩ = some (.bool fin) := HS2.out.fr.cell 4
      have f4 : w2.frozen? ⟨F, 4, none⟩ = false := HS2.out.fr.frozen 4
      have p5 : w2.cell? ⟨F, 5, none⟩ = some (.string ⟨#[]⟩) := HS2.out.fr.cell 5
      have f5 : w2.frozen? ⟨F, 5, none⟩ = false := HS2.out.fr.frozen 5
      have p6 : w2.cell? ⟨F, 6, none⟩ = some (.string ⟨#[]⟩) := HS2.out.fr.cell 6
      have f6 : w2.frozen? ⟨F, 6, none⟩ = false := HS2.out.fr.frozen 6
      have p7 : w2.cell? ⟨F, 7, none⟩ = some (.slice none 0 0) := HS2.out.fr.cell 7
      have f7 : w2.frozen? ⟨F, 7, none⟩ = false := HS2.out.fr.frozen 7
      have lF := HS2.out.fr.lt
      have z0 : w2.cell? ⟨RB, 0, none⟩ = some (.int .u64 0) := HS2.out.rb.cell 0
      have r0 : w2.frozen? ⟨RB, 0, none⟩ = false := HS2.out.rb.frozen 0
      have z1 : w2.cell? ⟨RB, 1, none⟩ = some (.int .u64 0) := HS2.out.rb.cell 1
      have r1 : w2.frozen? ⟨RB, 1, none⟩ = false := HS2.out.rb.frozen 1
      have z2 : w2.cell? ⟨RB, 2, none⟩ = some (.int .u64 0) := HS2.out.rb.cell 2
      have r2 : w2.frozen? ⟨RB, 2, none⟩ = false := HS2.out.rb.frozen 2
      have z3 : w2.cell? ⟨RB, 3, none⟩ = some (.int .u64 0) := HS2.out.rb.cell 3
      have r3 : w2.frozen? ⟨RB, 3, none⟩ = false := HS2.out.rb.frozen 3
      have z4 : w2.cell? ⟨RB, 4, none⟩ = some (.bool false) := HS2.out.rb.cell 4
      have r4 : w2.frozen? ⟨RB, 4, none⟩ = false := HS2.out.rb.frozen 4
      have z5 : w2.cell? ⟨RB, 5, none⟩ = some (.string ⟨#[]⟩) := HS2.out.rb.cell 5
      have r5 : w2.frozen? ⟨RB, 5, none⟩ = false := HS2.out.rb.frozen 5
      have z6 : w2.cell? ⟨RB, 6, none⟩ = some (.string ⟨#[]⟩) := HS2.out.rb.cell 6
      have r6 : w2.frozen? ⟨RB, 6, none⟩ = false := HS2.out.rb.frozen 6
      have z7 : w2.cell? ⟨RB, 7, none⟩ = some (.slice none 0 0) := HS2.out.rb.cell 7
      have r7 : w2.frozen? ⟨RB, 7, none⟩ = false := HS2.out.rb.frozen 7
      have lR := HS2.out.rb.lt
      cases hv : vnums 1 T.data.toList with
      | none =>
        rw [hv] at hp
        simp only at hp
        subst hp
        have HV : Hid (HdV (phead x.data.toList) ⟨8, 0, 0, 0, fin, ⟨#[]⟩, ⟨#[]⟩, []⟩ false) := hide (HdV.no (by rw [HPg.out, hv]; rfl))
        clear hv
        go_wp2_with fail
        have HE := hide (HdP.fin (X := w2) (f := ⟨8, 0, 0, 0, fin, ⟨#[]⟩, ⟨#[]⟩, []⟩) HV.out rfl HS2.out.mod HS2.out.rb HRBw.out)
        refine bodyPost_ret (results_cell_tmp_row rfl _ _ RB 26 (fcs none 0 0 ⟨8, 0, 0, 0, fin, ⟨#[]⟩, ⟨#[]⟩, []⟩) _ rfl ?_ Tryd.underlying26 rfl (by kernel_rfl)) rfl ?_
        · exact HE.out.1
        exact HE.out.2
      | some xx =>
        rw [hv] at hp
        obtain ⟨ns, r⟩ := xx
        obtain ⟨An, cn, rfl, hn⟩ := hp
        obtain ⟨hl, -, hrl⟩ := vnums_len 1 _ _ hv
        simp only at hl hrl hn
        obtain ⟨S, hS, hSz, hSl⟩ := putB2 r
        rw [hS, hl]
        have hSs : S.size ≤ 1000000 := by rw [hSz]; have := bytes_len T; omega
        obtain ⟨b0, hb0⟩ : ∃ b, ns.getD 0 0 = b := ⟨_, rfl⟩
        obtain ⟨b1, hb1⟩ : ∃ b, ns.getD 1 0 = b := ⟨_, rfl⟩
        obtain ⟨b2, hb2⟩ : ∃ b, ns.getD 2 0 = b := ⟨_, rfl⟩
        have HPh2 : Hid (phead x.data.toList = hended ⟨8, b0, b1, b2, fin, ⟨#[]⟩, ⟨#[]⟩, []⟩ S.data.toList) := hide (by
          rw [HPg.out, hv, ← hb0, ← hb1, ← hb2, hSl]; rfl)
        have hpad := pad_at ns
        rw [hb0, hb1, hb2] at hpad
        obtain ⟨g', c', X6, hrun, hS6⟩ := (HS2.out.num_ (hn.base HSx.out.mod.size)).pad rfl (by omega) hl
        have HRun := hide hrun
        have HS6 := hide hS6
        have HS7 := hide (((hS6.set (g := ⟨8, b0, 0, 0, fin, ⟨#[]⟩, ⟨#[]⟩, []⟩) HFw.out HFR.out 1 (.int .u64 (b0 : Nat)) rfl rfl).set (g := ⟨8, b0, b1, 0, fin, ⟨#[]⟩, ⟨#[]⟩, []⟩) HFw.out HFR.out 2 (.int .u64 (b1 : Nat)) rfl rfl).set (g := ⟨8, b0, b1, b2, fin, ⟨#[]⟩, ⟨#[]⟩, []⟩) HFw.out HFR.out 3 (.int .u64 (b2 : Nat)) rfl rfl)
        obtain ⟨_, hA, hgl, _, y0⟩ := hS6.num.at_ hpad.1
        cases hA
        obtain ⟨_, hA, _, _, y1⟩ := hS6.num.at_ hpad.2.1
        cases hA
        obtain ⟨_, hA, _, _, y2⟩ := hS6.num.at_ hpad.2.2
        cases hA
        have hwv : ¬ g' = F := fun e => hS6.num.ne hS6.fr (by decide) _ rfl e
        have hwv2 : ¬ F = g' := fun e => hwv e.symm
        have HEn2 := hide (fun w' => HEn.out w' b0 b1 b2 S hSs)
        clear hv hl hrl hn hS hSz hSl hb0 hb1 hb2 hpad hrun hS6 hSs HEn HTk
        clear p0 f0 p1 f1 p2 f2 p3 f3 p4 f4 p5 f5 p6 f6 p7 f7 lF z0 r0 z1 r1 z2 r2 z3 r3 z4 r4 z5 r5 z6 r6 z7 r7 lR
        have p0 : X6.cell? ⟨F, 0, none⟩ = some (.int .u64 8) := HS6.out.fr.cell 0
        have f0 : X6.frozen? ⟨F, 0, none⟩ = false := HS6.out.fr.frozen 0
        have p1 : X6.cell? ⟨F, 1, none⟩ = some (.int .u64 0) := HS6.out.fr.cell 1
        have f1 : X6.frozen? ⟨F, 1, none⟩ = false := HS6.out.fr.frozen 1
        have p2 : X6.cell? ⟨F, 2, none⟩ = some (.int .u64 0) := HS6.out.fr.cell 2
        have f2 : X6.frozen? ⟨F, 2, none⟩ = false := HS6.out.fr.frozen 2
        have p3 : X6.cell? ⟨F, 3, none⟩ = some (.int .u64 0) := HS6.out.fr.cell 3
        have f3 : X6.frozen? ⟨F, 3, none⟩ = false := HS6.out.fr.frozen 3
        have p4 : X6.cell? ⟨F, 4, none⟩ = some (.bool fin) := HS6.out.fr.cell 4
        have f4 : X6.frozen? ⟨F, 4, none⟩ = false := HS6.out.fr.frozen 4
        have p5 : X6.cell? ⟨F, 5, none⟩ = some (.string ⟨#[]⟩) := HS6.out.fr.cell 5
        have f5 : X6.frozen? ⟨F, 5, none⟩ = false := HS6.out.fr.frozen 5
        have p6 : X6.cell? ⟨F, 6, none⟩ = some (.string ⟨#[]⟩) := HS6.out.fr.cell 6
        have f6 : X6.frozen? ⟨F, 6, none⟩ = false := HS6.out.fr.frozen 6
        have p7 : X6.cell? ⟨F, 7, none⟩ = some (.slice none 0 0) := HS6.out.fr.cell 7
        have f7 : X6.frozen? ⟨F, 7, none⟩ = false := HS6.out.fr.frozen 7
        have lF := HS6.out.fr.lt
        have z0 : X6.cell? ⟨RB, 0, none⟩ = some (.int .u64 0) := HS6.out.rb.cell 0
        have r0 : X6.frozen? ⟨RB, 0, none⟩ = false := HS6.out.rb.frozen 0
        have z1 : X6.cell? ⟨RB, 1, none⟩ = some (.int .u64 0) := HS6.out.rb.cell 1
        have r1 : X6.frozen? ⟨RB, 1, none⟩ = false := HS6.out.rb.frozen 1
        have z2 : X6.cell? ⟨RB, 2, none⟩ = some (.int .u64 0) := HS6.out.rb.cell 2
        have r2 : X6.frozen? ⟨RB, 2, none⟩ = false := HS6.out.rb.frozen 2
        have z3 : X6.cell? ⟨RB, 3, none⟩ = some (.int .u64 0) := HS6.out.rb.cell 3
        have r3 : X6.frozen? ⟨RB, 3, none⟩ = false := HS6.out.rb.frozen 3
        have z4 : X6.cell? ⟨RB, 4, none⟩ = some (.bool false) := HS6.out.rb.cell 4
        have r4 : X6.frozen? ⟨RB, 4, none⟩ = false := HS6.out.rb.frozen 4
        have z5 : X6.cell? ⟨RB, 5, none⟩ = some (.string ⟨#[]⟩) := HS6.out.rb.cell 5
        have r5 : X6.frozen? ⟨RB, 5, none⟩ = false := HS6.out.rb.frozen 5
        have z6 : X6.cell? ⟨RB, 6, none⟩ = some (.string ⟨#[]⟩) := HS6.out.rb.cell 6
        have r6 : X6.frozen? ⟨RB, 6, none⟩ = false := HS6.out.rb.frozen 6
        have z7 : X6.cell? ⟨RB, 7, none⟩ = some (.slice none 0 0) := HS6.out.rb.cell 7
        have r7 : X6.frozen? ⟨RB, 7, none⟩ = false := HS6.out.rb.frozen 7
        have lR := HS6.out.rb.lt
        go_wp2_with (at_builtin; refine Lib.wpList_append_run _ rfl (.tmp 95) (.tmp 96) 68 68 rfl (.slice An 1 cn) (.slice (some ⟨w2.heap.size, 0, none⟩) 3 3) rfl rfl _ X6 HRun.out ?_)
        try go_wp2_with fail
        obtain ⟨X7, hX7⟩ : ∃ X7, ((X6.setCell ⟨F, 1, none⟩ (.int .u64 (b0 : Nat))).setCell ⟨F, 2, none⟩ (.int .u64 (b1 : Nat))).setCell ⟨F, 3, none⟩ (.int .u64 (b2 : Nat)) = X7 := ⟨_, rfl⟩
        rw [hX7] at HS7
        rw [hX7]
        clear hX7 p0 f0 p1 f1 p2 f2 p3 f3 p4 f4 p5 f5 p6 f6 p7 f7 lF z0 r0 z1 r1 z2 r2 z3 r3 z4 r4 z5 r5 z6 r6 z7 r7 lR y0 y1 y2 hgl hwv hwv2
        have p0 : X7.cell? ⟨F, 0, none⟩ = some (.int .u64 8) := HS7.out.fr.cell 0
        have f0 : X7.frozen? ⟨F, 0, none⟩ = false := HS7.out.fr.frozen 0
        have p1 : X7.cell? ⟨F, 1, none⟩ = some (.int .u64 (b0 : Nat)) := HS7.out.fr.cell 1
        have f1 : X7.frozen? ⟨F, 1, none⟩ = false := HS7.out.fr.frozen 1
        have p2 : X7.cell? ⟨F, 2, none⟩ = some (.int .u64 (b1 : Nat)) := HS7.out.fr.cell 2
        have f2 : X7.frozen? ⟨F, 2, none⟩ = false := HS7.out.fr.frozen 2
        have p3 : X7.cell? ⟨F, 3, none⟩ = some (.int .u64 (b2 : Nat)) := HS7.out.fr.cell 3
        have f3 : X7.frozen? ⟨F, 3, none⟩ = false := HS7.out.fr.frozen 3
        have p4 : X7.cell? ⟨F, 4, none⟩ = some (.bool fin) := HS7.out.fr.cell 4
        have f4 : X7.frozen? ⟨F, 4, none⟩ = false := HS7.out.fr.frozen 4
        have p5 : X7.cell? ⟨F, 5, none⟩ = some (.string ⟨#[]⟩) := HS7.out.fr.cell 5
        have f5 : X7.frozen? ⟨F, 5, none⟩ = false := HS7.out.fr.frozen 5
        have p6 : X7.cell? ⟨F, 6, none⟩ = some (.string ⟨#[]⟩) := HS7.out.fr.cell 6
        have f6 : X7.frozen? ⟨F, 6, none⟩ = false := HS7.out.fr.frozen 6
        have p7 : X7.cell? ⟨F, 7, none⟩ = some (.slice none 0 0) := HS7.out.fr.cell 7
        have f7 : X7.frozen? ⟨F, 7, none⟩ = false := HS7.out.fr.frozen 7
        have lF := HS7.out.fr.lt
        have z0 : X7.cell? ⟨RB, 0, none⟩ = some (.int .u64 0) := HS7.out.rb.cell 0
        have r0 : X7.frozen? ⟨RB, 0, none⟩ = false := HS7.out.rb.frozen 0
        have z1 : X7.cell? ⟨RB, 1, none⟩ = some (.int .u64 0) := HS7.out.rb.cell 1
        have r1 : X7.frozen? ⟨RB, 1, none⟩ = false := HS7.out.rb.frozen 1
        have z2 : X7.cell? ⟨RB, 2, none⟩ = some (.int .u64 0) := HS7.out.rb.cell 2
        have r2 : X7.frozen? ⟨RB, 2, none⟩ = false := HS7.out.rb.frozen 2
        have z3 : X7.cell? ⟨RB, 3, none⟩ = some (.int .u64 0) := HS7.out.rb.cell 3
        have r3 : X7.frozen? ⟨RB, 3, none⟩ = false := HS7.out.rb.frozen 3
        have z4 : X7.cell? ⟨RB, 4, none⟩ = some (.bool false) := HS7.out.rb.cell 4
        have r4 : X7.frozen? ⟨RB, 4, none⟩ = false := HS7.out.rb.frozen 4
        have z5 : X7.cell? ⟨RB, 5, none⟩ = some (.string ⟨#[]⟩) := HS7.out.rb.cell 5
        have r5 : X7.frozen? ⟨RB, 5, none⟩ = false := HS7.out.rb.frozen 5
        have z6 : X7.cell? ⟨RB, 6, none⟩ = some (.string ⟨#[]⟩) := HS7.out.rb.cell 6
        have r6 : X7.frozen? ⟨RB, 6, none⟩ = false := HS7.out.rb.frozen 6
        have z7 : X7.cell? ⟨RB, 7, none⟩ = some (.slice none 0 0) := HS7.out.rb.cell 7
        have r7 : X7.frozen? ⟨RB, 7, none⟩ = false := HS7.out.rb.frozen 7
        have lR := HS7.out.rb.lt
        refine (HEn2.out _).mono ?_
        rintro e0 w8 ⟨f', A', cc', rfl, hf, ho, hl, m2⟩
        have HR2 := hide (m2.blk HS7.out.rb (by simp))
        have HM2 := hide (HS7.out.mod.trans m2 (by simp))
        have HO2 := hide (ho.base HS7.out.mod.size)
        have HF := hide hf
        clear p0 f0 p1 f1 p2 f2 p3 f3 p4 f4 p5 f5 p6 f6 p7 f7 lF z0 r0 z1 r1 z2 r2 z3 r3 z4 r4 z5 r5 z6 r6 z7 r7 lR m2 ho hf
        have z0 : w8.cell? ⟨RB, 0, none⟩ = some (.int .u64 0) := HR2.out.cell 0
        have r0 : w8.frozen? ⟨RB, 0, none⟩ = false := HR2.out.frozen 0
        have z1 : w8.cell? ⟨RB, 1, none⟩ = some (.int .u64 0) := HR2.out.cell 1
        have r1 : w8.frozen? ⟨RB, 1, none⟩ = false := HR2.out.frozen 1
        have z2 : w8.cell? ⟨RB, 2, none⟩ = some (.int .u64 0) := HR2.out.cell 2
        have r2 : w8.frozen? ⟨RB, 2, none⟩ = false := HR2.out.frozen 2
        have z3 : w8.cell? ⟨RB, 3, none⟩ = some (.int .u64 0) := HR2.out.cell 3
        have r3 : w8.frozen? ⟨RB, 3, none⟩ = false := HR2.out.frozen 3
        have z4 : w8.cell? ⟨RB, 4, none⟩ = some (.bool false) := HR2.out.cell 4
        have r4 : w8.frozen? ⟨RB, 4, none⟩ = false := HR2.out.frozen 4
        have z5 : w8.cell? ⟨RB, 5, none⟩ = some (.string ⟨#[]⟩) := HR2.out.cell 5
        have r5 : w8.frozen? ⟨RB, 5, none⟩ = false := HR2.out.frozen 5
        have z6 : w8.cell? ⟨RB, 6, none⟩ = some (.string ⟨#[]⟩) := HR2.out.cell 6
        have r6 : w8.frozen? ⟨RB, 6, none⟩ = false := HR2.out.frozen 6
        have z7 : w8.cell? ⟨RB, 7, none⟩ = some (.slice none 0 0) := HR2.out.cell 7
        have r7 : w8.frozen? ⟨RB, 7, none⟩ = false := HR2.out.frozen 7
        have lR := HR2.out.lt
        unfold fcs
        go_wp2_with fail
        have HE := hide (HdP.fin2 (X := w8) (f := f') (A := A') (c := cc') (o := phead x.data.toList) (by rw [HPh2.out]; exact ⟨rfl, HF.out⟩) HO2.out hl HM2.out HR2.out HRBw.out)
        refine bodyPost_ret (results_cell_tmp_row rfl _ _ RB 26 (fcs A' f'.list.length cc' f') _ rfl ?_ Tryd.underlying26 rfl (by kernel_rfl)) rfl ?_
        · exact HE.out.1
        exact HE.out.2
    · have a8 : decide ((n : Int) < 12) = false := decide_eq_false (by omega)
      have a9 : decide (n < 12) = false := decide_eq_false h12
      have HPg : Hid (phead x.data.toList = (vnums 2 T.data.toList).bind fun y => hended ⟨8, y.1.getD 0 0, y.1.getD 1 0, y.1.getD 2 0, fin, ⟨#[]⟩, ⟨#[]⟩, []⟩ y.2) := hide (by
        rw [HPn.out, hkk, show hmany n = some 2 by unfold hmany; rw [if_neg (by omega), hkk]; rfl, decide_eq_true h815, hfin]; rfl)
      clear h815 h12 hkk hfin h23 hz
      go_wp2_with fail
      have HSx : Hid (AckS w (w1.alloc (.cells #[.int .u64 8, .int .u64 0, .int .u64 0, .int .u64 0, .bool fin, .string ⟨#[]⟩, .string ⟨#[]⟩, .slice none 0 0] 26)) RB w1.heap.size none 0 ⟨8, 0, 0, 0, fin, ⟨#[]⟩, ⟨#[]⟩, []⟩ none 0 []) := hide ⟨Blk.new w1 _ _, HR1.out.alloc _, ROwn.nil _ _, World.ownsRow_nil _ _ _ _, HM1.out.alloc _⟩
      refine (HN.out _).mono ?_
      rintro e0 w2 ⟨rfl, rfl⟩
      obtain ⟨X, hX⟩ : ∃ X, w1.alloc (.cells #[.int .u64 8, .int .u64 0, .int .u64 0, .int .u64 0, .bool fin, .string ⟨#[]⟩, .string ⟨#[]⟩, .slice none 0 0] 26) = X := ⟨_, rfl⟩
      rw [hX] at HSx
      rw [hX]
      have hF := HFe.out
      try rw [hF] at HSx
      try rw [hF]
      clear hX hF HS3 HFe z0 r0 z1 r1 z2 r2 z3 r3 z4 r4 z5 r5 z6 r6 z7 r7 lR
      have p0 : X.cell? ⟨F, 0, none⟩ = some (.int .u64 8) := HSx.out.fr.cell 0
      have f0 : X.frozen? ⟨F, 0, none⟩ = false := HSx.out.fr.frozen 0
      have p1 : X.cell? ⟨F, 1, none⟩ = some (.int .u64 0) := HSx.out.fr.cell 1
      have f1 : X.frozen? ⟨F, 1, none⟩ = false := HSx.out.fr.frozen 1
      have p2 : X.cell? ⟨F, 2, none⟩ = some (.int .u64 0) := HSx.out.fr.cell 2
      have f2 : X.frozen? ⟨F, 2, none⟩ = false := HSx.out.fr.frozen 2
      have p3 : X.cell? ⟨F, 3, none⟩ = some (.int .u64 0) := HSx.out.fr.cell 3
      have f3 : X.frozen? ⟨F, 3, none⟩ = false := HSx.out.fr.frozen 3
      have p4 : X.cell? ⟨F, 4, none⟩ = some (.bool fin) := HSx.out.fr.cell 4
      have f4 : X.frozen? ⟨F, 4, none⟩ = false := HSx.out.fr.frozen 4
      have p5 : X.cell? ⟨F, 5, none⟩ = some (.string ⟨#[]⟩) := HSx.out.fr.cell 5
      have f5 : X.frozen? ⟨F, 5, none⟩ = false := HSx.out.fr.frozen 5
      have p6 : X.cell? ⟨F, 6, none⟩ = some (.string ⟨#[]⟩) := HSx.out.fr.cell 6
      have f6 : X.frozen? ⟨F, 6, none⟩ = false := HSx.out.fr.frozen 6
      have p7 : X.cell? ⟨F, 7, none⟩ = some (.slice none 0 0) := HSx.out.fr.cell 7
      have f7 : X.frozen? ⟨F, 7, none⟩ = false := HSx.out.fr.frozen 7
      have lF := HSx.out.fr.lt
      have z0 : X.cell? ⟨RB, 0, none⟩ = some (.int .u64 0) := HSx.out.rb.cell 0
      have r0 : X.frozen? ⟨RB, 0, none⟩ = false := HSx.out.rb.frozen 0
      have z1 : X.cell? ⟨RB, 1, none⟩ = some (.int .u64 0) := HSx.out.rb.cell 1
      have r1 : X.frozen? ⟨RB, 1, none⟩ = false := HSx.out.rb.frozen 1
      have z2 : X.cell? ⟨RB, 2, none⟩ = some (.int .u64 0) := HSx.out.rb.cell 2
      have r2 : X.frozen? ⟨RB, 2, none⟩ = false := HSx.out.rb.frozen 2
      have z3 : X.cell? ⟨RB, 3, none⟩ = some (.int .u64 0) := HSx.out.rb.cell 3
      have r3 : X.frozen? ⟨RB, 3, none⟩ = false := HSx.out.rb.frozen 3
      have z4 : X.cell? ⟨RB, 4, none⟩ = some (.bool false) := HSx.out.rb.cell 4
      have r4 : X.frozen? ⟨RB, 4, none⟩ = false := HSx.out.rb.frozen 4
      have z5 : X.cell? ⟨RB, 5, none⟩ = some (.string ⟨#[]⟩) := HSx.out.rb.cell 5
      have r5 : X.frozen? ⟨RB, 5, none⟩ = false := HSx.out.rb.frozen 5
      have z6 : X.cell? ⟨RB, 6, none⟩ = some (.string ⟨#[]⟩) := HSx.out.rb.cell 6
      have r6 : X.frozen? ⟨RB, 6, none⟩ = false := HSx.out.rb.frozen 6
      have z7 : X.cell? ⟨RB, 7, none⟩ = some (.slice none 0 0) := HSx.out.rb.cell 7
      have r7 : X.frozen? ⟨RB, 7, none⟩ = false := HSx.out.rb.frozen 7
      have lR := HSx.out.rb.lt
      have HTk := hide (fun w' => took_any w' T 2 (by omega))
      have HEn := hide (fun w' b0 b1 b2 S hS => ended_any w' 8 b0 b1 b2 fin ⟨#[]⟩ ⟨#[]⟩ S hS)
      unfold fcs at HEn
      simp only at HEn
      go_wp2_with fail
      refine (HTk.out _).mono ?_
      rintro e0 w2 ⟨m2, hp⟩
      have HS2 := hide (HSx.out.new m2)
      clear m2 p0 f0 p1 f1 p2 f2 p3 f3 p4 f4 p5 f5 p6 f6 p7 f7 lF z0 r0 z1 r1 z2 r2 z3 r3 z4 r4 z5 r5 z6 r6 z7 r7 lR
      have p0 : w2.cell? ⟨F, 0, none⟩ = some (.int .u64 8) := HS2.out.fr.cell 0
      have f0 : w2.frozen? ⟨F, 0, none⟩ = false := HS2.out.fr.frozen 0
      have p1 : w2.cell? ⟨F, 1, none⟩ = some (.int .u64 0) := HS2.out.fr.cell 1
      have f1 : w2.frozen? ⟨F, 1, none⟩ = false := HS2.out.fr.frozen 1
      have p2 : w2.cell? ⟨F, 2, none⟩ = some (.int .u64 0) := HS2.out.fr.cell 2
      have f2 : w2.frozen? ⟨F, 2, none⟩ = false := HS2.out.fr.frozen 2
      have p3 : w2.cell? ⟨F, 3, none⟩ = some (.int .u64 0) := HS2.out.fr.cell 3
      have f3 : w2.frozen? ⟨F, 3, none⟩ = false := HS2.out.fr.frozen 3
      have p4 : w2.cell? ⟨F, 4, none⟩ = some (.bool fin) := HS2.out.fr.cell 4
      have f4 : w2.frozen? ⟨F, 4, none⟩ = false := HS2.out.fr.frozen 4
      have p5 : w2.cell? ⟨F, 5, none⟩ = some (.string ⟨#[]⟩) := HS2.out.fr.cell 5
      have f5 : w2.frozen? ⟨F, 5, none⟩ = false := HS2.out.fr.frozen 5
      have p6 : w2.cell? ⟨F, 6, none⟩ = some (.string ⟨#[]⟩) := HS2.out.fr.cell 6
      have f6 : w2.frozen? ⟨F, 6, none⟩ = false := HS2.out.fr.frozen 6
      have p7 : w2.cell? ⟨F, 7, none⟩ = some (.slice none 0 0) := HS2.out.fr.cell 7
      have f7 : w2.frozen? ⟨F, 7, none⟩ = false := HS2.out.fr.frozen 7
      have lF := HS2.out.fr.lt
      have z0 : w2.cell? ⟨RB, 0, none⟩ = some (.int .u64 0) := HS2.out.rb.cell 0
      have r0 : w2.frozen? ⟨RB, 0, none⟩ = false := HS2.out.rb.frozen 0
      have z1 : w2.cell? ⟨RB, 1, none⟩ = some (.int .u64 0) := HS2.out.rb.cell 1
      have r1 : w2.frozen? ⟨RB, 1, none⟩ = false := HS2.out.rb.frozen 1
      have z2 : w2.cell? ⟨RB, 2, none⟩ = some (.int .u64 0) := HS2.out.rb.cell 2
      have r2 : w2.frozen? ⟨RB, 2, none⟩ = false := HS2.out.rb.frozen 2
      have z3 : w2.cell? ⟨RB, 3, none⟩ = some (.int .u64 0) := HS2.out.rb.cell 3
      have r3 : w2.frozen? ⟨RB, 3, none⟩ = false := HS2.out.rb.frozen 3
      have z4 : w2.cell? ⟨RB, 4, none⟩ = some (.bool false) := HS2.out.rb.cell 4
      have r4 : w2.frozen? ⟨RB, 4, none⟩ = false := HS2.out.rb.frozen 4
      have z5 : w2.cell? ⟨RB, 5, none⟩ = some (.string ⟨#[]⟩) := HS2.out.rb.cell 5
      have r5 : w2.frozen? ⟨RB, 5, none⟩ = false := HS2.out.rb.frozen 5
      have z6 : w2.cell? ⟨RB, 6, none⟩ = some (.string ⟨#[]⟩) := HS2.out.rb.cell 6
      have r6 : w2.frozen? ⟨RB, 6, none⟩ = false := HS2.out.rb.frozen 6
      have z7 : w2.cell? ⟨RB, 7, none⟩ = some (.slice none 0 0) := HS2.out.rb.cell 7
      have r7 : w2.frozen? ⟨RB, 7, none⟩ = false := HS2.out.rb.frozen 7
      have lR := HS2.out.rb.lt
      cases hv : vnums 2 T.data.toList with
      | none =>
        rw [hv] at hp
        simp only at hp
        subst hp
        have HV : Hid (HdV (phead x.data.toList) ⟨8, 0, 0, 0, fin, ⟨#[]⟩, ⟨#[]⟩, []⟩ false) := hide (HdV.no (by rw [HPg.out, hv]; rfl))
        clear hv
        go_wp2_with fail
        have HE := hide (HdP.fin (X := w2) (f := ⟨8, 0, 0, 0, fin, ⟨#[]⟩, ⟨#[]⟩, []⟩) HV.out rfl HS2.out.mod HS2.out.rb HRBw.out)
        refine bodyPost_ret (results_cell_tmp_row rfl _ _ RB 26 (fcs none 0 0 ⟨8, 0, 0, 0, fin, ⟨#[]⟩, ⟨#[]⟩, []⟩) _ rfl ?_ Tryd.underlying26 rfl (by kernel_rfl)) rfl ?_
        · exact HE.out.1
        exact HE.out.2
      | some xx =>
        rw [hv] at hp
        obtain ⟨ns, r⟩ := xx
        obtain ⟨An, cn, rfl, hn⟩ := hp
        obtain ⟨hl, -, hrl⟩ := vnums_len 2 _ _ hv
        simp only at hl hrl hn
        obtain ⟨S, hS, hSz, hSl⟩ := putB2 r
        rw [hS, hl]
        have hSs : S.size ≤ 1000000 := by rw [hSz]; have := bytes_len T; omega
        obtain ⟨b0, hb0⟩ : ∃ b, ns.getD 0 0 = b := ⟨_, rfl⟩
        obtain ⟨b1, hb1⟩ : ∃ b, ns.getD 1 0 = b := ⟨_, rfl⟩
        obtain ⟨b2, hb2⟩ : ∃ b, ns.getD 2 0 = b := ⟨_, rfl⟩
        have HPh2 : Hid (phead x.data.toList = hended ⟨8, b0, b1, b2, fin, ⟨#[]⟩, ⟨#[]⟩, []⟩ S.data.toList) := hide (by
          rw [HPg.out, hv, ← hb0, ← hb1, ← hb2, hSl]; rfl)
        have hpad := pad_at ns
        rw [hb0, hb1, hb2] at hpad
        obtain ⟨g', c', X6, hrun, hS6⟩ := (HS2.out.num_ (hn.base HSx.out.mod.size)).pad rfl (by omega) hl
        have HRun := hide hrun
        have HS6 := hide hS6
        have HS7 := hide (((hS6.set (g := ⟨8, b0, 0, 0, fin, ⟨#[]⟩, ⟨#[]⟩, []⟩) HFw.out HFR.out 1 (.int .u64 (b0 : Nat)) rfl rfl).set (g := ⟨8, b0, b1, 0, fin, ⟨#[]⟩, ⟨#[]⟩, []⟩) HFw.out HFR.out 2 (.int .u64 (b1 : Nat)) rfl rfl).set (g := ⟨8, b0, b1, b2, fin, ⟨#[]⟩, ⟨#[]⟩, []⟩) HFw.out HFR.out 3 (.int .u64 (b2 : Nat)) rfl rfl)
        obtain ⟨_, hA, hgl, _, y0⟩ := hS6.num.at_ hpad.1
        cases hA
        obtain ⟨_, hA, _, _, y1⟩ := hS6.num.at_ hpad.2.1
        cases hA
        obtain ⟨_, hA, _, _, y2⟩ := hS6.num.at_ hpad.2.2
        cases hA
        have hwv : ¬ g' = F := fun e => hS6.num.ne hS6.fr (by decide) _ rfl e
        have hwv2 : ¬ F = g' := fun e => hwv e.symm
        have HEn2 := hide (fun w' => HEn.out w' b0 b1 b2 S hSs)
        clear hv hl hrl hn hS hSz hSl hb0 hb1 hb2 hpad hrun hS6 hSs HEn HTk
        clear p0 f0 p1 f1 p2 f2 p3 f3 p4 f4 p5 f5 p6 f6 p7 f7 lF z0 r0 z1 r1 z2 r2 z3 r3 z4 r4 z5 r5 z6 r6 z7 r7 lR
        have p0 : X6.cell? ⟨F, 0, none⟩ = some (.int .u64 8) := HS6.out.fr.cell 0
        have f0 : X6.frozen? ⟨F, 0, none⟩ = false := HS6.out.fr.frozen 0
        have p1 : X6.cell? ⟨F, 1, none⟩ = some (.int .u64 0) := HS6.out.fr.cell 1
        have f1 : X6.frozen? ⟨F, 1, none⟩ = false := HS6.out.fr.frozen 1
        have p2 : X6.cell? ⟨F, 2, none⟩ = some (.int .u64 0) := HS6.out.fr.cell 2
        have f2 : X6.frozen? ⟨F, 2, none⟩ = false := HS6.out.fr.frozen 2
        have p3 : X6.cell? ⟨F, 3, none⟩ = some (.int .u64 0) := HS6.out.fr.cell 3
        have f3 : X6.frozen? ⟨F, 3, none⟩ = false := HS6.out.fr.frozen 3
        have p4 : X6.cell? ⟨F, 4, none⟩ = some (.bool fin) := HS6.out.fr.cell 4
        have f4 : X6.frozen? ⟨F, 4, none⟩ = false := HS6.out.fr.frozen 4
        have p5 : X6.cell? ⟨F, 5, none⟩ = some (.string ⟨#[]⟩) := HS6.out.fr.cell 5
        have f5 : X6.frozen? ⟨F, 5, none⟩ = false := HS6.out.fr.frozen 5
        have p6 : X6.cell? ⟨F, 6, none⟩ = some (.string ⟨#[]⟩) := HS6.out.fr.cell 6
        have f6 : X6.frozen? ⟨F, 6, none⟩ = false := HS6.out.fr.frozen 6
        have p7 : X6.cell? ⟨F, 7, none⟩ = some (.slice none 0 0) := HS6.out.fr.cell 7
        have f7 : X6.frozen? ⟨F, 7, none⟩ = false := HS6.out.fr.frozen 7
        have lF := HS6.out.fr.lt
        have z0 : X6.cell? ⟨RB, 0, none⟩ = some (.int .u64 0) := HS6.out.rb.cell 0
        have r0 : X6.frozen? ⟨RB, 0, none⟩ = false := HS6.out.rb.frozen 0
        have z1 : X6.cell? ⟨RB, 1, none⟩ = some (.int .u64 0) := HS6.out.rb.cell 1
        have r1 : X6.frozen? ⟨RB, 1, none⟩ = false := HS6.out.rb.frozen 1
        have z2 : X6.cell? ⟨RB, 2, none⟩ = some (.int .u64 0) := HS6.out.rb.cell 2
        have r2 : X6.frozen? ⟨RB, 2, none⟩ = false := HS6.out.rb.frozen 2
        have z3 : X6.cell? ⟨RB, 3, none⟩ = some (.int .u64 0) := HS6.out.rb.cell 3
        have r3 : X6.frozen? ⟨RB, 3, none⟩ = false := HS6.out.rb.frozen 3
        have z4 : X6.cell? ⟨RB, 4, none⟩ = some (.bool false) := HS6.out.rb.cell 4
        have r4 : X6.frozen? ⟨RB, 4, none⟩ = false := HS6.out.rb.frozen 4
        have z5 : X6.cell? ⟨RB, 5, none⟩ = some (.string ⟨#[]⟩) := HS6.out.rb.cell 5
        have r5 : X6.frozen? ⟨RB, 5, none⟩ = false := HS6.out.rb.frozen 5
        have z6 : X6.cell? ⟨RB, 6, none⟩ = some (.string ⟨#[]⟩) := HS6.out.rb.cell 6
        have r6 : X6.frozen? ⟨RB, 6, none⟩ = false := HS6.out.rb.frozen 6
        have z7 : X6.cell? ⟨RB, 7, none⟩ = some (.slice none 0 0) := HS6.out.rb.cell 7
        have r7 : X6.frozen? ⟨RB, 7, none⟩ = false := HS6.out.rb.frozen 7
        have lR := HS6.out.rb.lt
        go_wp2_with (at_builtin; refine Lib.wpList_append_run _ rfl (.tmp 95) (.tmp 96) 68 68 rfl (.slice An 2 cn) (.slice (some ⟨w2.heap.size, 0, none⟩) 3 3) rfl rfl _ X6 HRun.out ?_)
        try go_wp2_with fail
        obtain ⟨X7, hX7⟩ : ∃ X7, ((X6.setCell ⟨F, 1, none⟩ (.int .u64 (b0 : Nat))).setCell ⟨F, 2, none⟩ (.int .u64 (b1 : Nat))).setCell ⟨F, 3, none⟩ (.int .u64 (b2 : Nat)) = X7 := ⟨_, rfl⟩
        rw [hX7] at HS7
        rw [hX7]
        clear hX7 p0 f0 p1 f1 p2 f2 p3 f3 p4 f4 p5 f5 p6 f6 p7 f7 lF z0 r0 z1 r1 z2 r2 z3 r3 z4 r4 z5 r5 z6 r6 z7 r7 lR y0 y1 y2 hgl hwv hwv2
        have p0 : X7.cell? ⟨F, 0, none⟩ = some (.int .u64 8) := HS7.out.fr.cell 0
        have f0 : X7.frozen? ⟨F, 0, none⟩ = false := HS7.out.fr.frozen 0
        have p1 : X7.cell? ⟨F, 1, none⟩ = some (.int .u64 (b0 : Nat)) := HS7.out.fr.cell 1
        have f1 : X7.frozen? ⟨F, 1, none⟩ = false := HS7.out.fr.frozen 1
        have p2 : X7.cell? ⟨F, 2, none⟩ = some (.int .u64 (b1 : Nat)) := HS7.out.fr.cell 2
        have f2 : X7.frozen? ⟨F, 2, none⟩ = false := HS7.out.fr.frozen 2
        have p3 : X7.cell? ⟨F, 3, none⟩ = some (.int .u64 (b2 : Nat)) := HS7.out.fr.cell 3
        have f3 : X7.frozen? ⟨F, 3, none⟩ = false := HS7.out.fr.frozen 3
        have p4 : X7.cell? ⟨F, 4, none⟩ = some (.bool fin) := HS7.out.fr.cell 4
        have f4 : X7.frozen? ⟨F, 4, none⟩ = false := HS7.out.fr.frozen 4
        have p5 : X7.cell? ⟨F, 5, none⟩ = some (.string ⟨#[]⟩) := HS7.out.fr.cell 5
        have f5 : X7.frozen? ⟨F, 5, none⟩ = false := HS7.out.fr.frozen 5
        have p6 : X7.cell? ⟨F, 6, none⟩ = some (.string ⟨#[]⟩) := HS7.out.fr.cell 6
        have f6 : X7.frozen? ⟨F, 6, none⟩ = false := HS7.out.fr.frozen 6
        have p7 : X7.cell? ⟨F, 7, none⟩ = some (.slice none 0 0) := HS7.out.fr.cell 7
        have f7 : X7.frozen? ⟨F, 7, none⟩ = false := HS7.out.fr.frozen 7
        have lF := HS7.out.fr.lt
        have z0 : X7.cell? ⟨RB, 0, none⟩ = some (.int .u64 0) := HS7.out.rb.cell 0
        have r0 : X7.frozen? ⟨RB, 0, none⟩ = false := HS7.out.rb.frozen 0
        have z1 : X7.cell? ⟨RB, 1, none⟩ = some (.int .u64 0) := HS7.out.rb.cell 1
        have r1 : X7.frozen? ⟨RB, 1, none⟩ = false := HS7.out.rb.frozen 1
        have z2 : X7.cell? ⟨RB, 2, none⟩ = some (.int .u64 0) := HS7.out.rb.cell 2
        have r2 : X7.frozen? ⟨RB, 2, none⟩ = false := HS7.out.rb.frozen 2
        have z3 : X7.cell? ⟨RB, 3, none⟩ = some (.int .u64 0) := HS7.out.rb.cell 3
        have r3 : X7.frozen? ⟨RB, 3, none⟩ = false := HS7.out.rb.frozen 3
        have z4 : X7.cell? ⟨RB, 4, none⟩ = some (.bool false) := HS7.out.rb.cell 4
        have r4 : X7.frozen? ⟨RB, 4, none⟩ = false := HS7.out.rb.frozen 4
        have z5 : X7.cell? ⟨RB, 5, none⟩ = some (.string ⟨#[]⟩) := HS7.out.rb.cell 5
        have r5 : X7.frozen? ⟨RB, 5, none⟩ = false := HS7.out.rb.frozen 5
        have z6 : X7.cell? ⟨RB, 6, none⟩ = some (.string ⟨#[]⟩) := HS7.out.rb.cell 6
        have r6 : X7.frozen? ⟨RB, 6, none⟩ = false := HS7.out.rb.frozen 6
        have z7 : X7.cell? ⟨RB, 7, none⟩ = some (.slice none 0 0) := HS7.out.rb.cell 7
        have r7 : X7.frozen? ⟨RB, 7, none⟩ = false := HS7.out.rb.frozen 7
        have lR := HS7.out.rb.lt
        refine (HEn2.out _).mono ?_
        rintro e0 w8 ⟨f', A', cc', rfl, hf, ho, hl, m2⟩
        have HR2 := hide (m2.blk HS7.out.rb (by simp))
        have HM2 := hide (HS7.out.mod.trans m2 (by simp))
        have HO2 := hide (ho.base HS7.out.mod.size)
        have HF := hide hf
        clear p0 f0 p1 f1 p2 f2 p3 f3 p4 f4 p5 f5 p6 f6 p7 f7 lF z0 r0 z1 r1 z2 r2 z3 r3 z4 r4 z5 r5 z6 r6 z7 r7 lR m2 ho hf
        have z0 : w8.cell? ⟨RB, 0, none⟩ = some (.int .u64 0) := HR2.out.cell 0
        have r0 : w8.frozen? ⟨RB, 0, none⟩ = false := HR2.out.frozen 0
        have z1 : w8.cell? ⟨RB, 1, none⟩ = some (.int .u64 0) := HR2.out.cell 1
        have r1 : w8.frozen? ⟨RB, 1, none⟩ = false := HR2.out.frozen 1
        have z2 : w8.cell? ⟨RB, 2, none⟩ = some (.int .u64 0) := HR2.out.cell 2
        have r2 : w8.frozen? ⟨RB, 2, none⟩ = false := HR2.out.frozen 2
        have z3 : w8.cell? ⟨RB, 3, none⟩ = some (.int .u64 0) := HR2.out.cell 3
        have r3 : w8.frozen? ⟨RB, 3, none⟩ = false := HR2.out.frozen 3
        have z4 : w8.cell? ⟨RB, 4, none⟩ = some (.bool false) := HR2.out.cell 4
        have r4 : w8.frozen? ⟨RB, 4, none⟩ = false := HR2.out.frozen 4
        have z5 : w8.cell? ⟨RB, 5, none⟩ = some (.string ⟨#[]⟩) := HR2.out.cell 5
        have r5 : w8.frozen? ⟨RB, 5, none⟩ = false := HR2.out.frozen 5
        have z6 : w8.cell? ⟨RB, 6, none⟩ = some (.string ⟨#[]⟩) := HR2.out.cell 6
        have r6 : w8.frozen? ⟨RB, 6, none⟩ = false := HR2.out.frozen 6
        have z7 : w8.cell? ⟨RB, 7, none⟩ = some (.slice none 0 0) := HR2.out.cell 7
        have r7 : w8.frozen? ⟨RB, 7, none⟩ = false := HR2.out.frozen 7
        have lR := HR2.out.lt
        unfold fcs
        go_wp2_with fail
        have HE := hide (HdP.fin2 (X := w8) (f := f') (A := A') (c := cc') (o := phead x.data.toList) (by rw [HPh2.out]; exact ⟨rfl, HF.out⟩) HO2.out hl HM2.out HR2.out HRBw.out)
        refine bodyPost_ret (results_cell_tmp_row rfl _ _ RB 26 (fcs A' f'.list.length cc' f') _ rfl ?_ Tryd.underlying26 rfl (by kernel_rfl)) rfl ?_
        · exact HE.out.1
        exact HE.out.2
  have hkk : hkind n = n := if_neg h815
  have hmn : hmany n = fnumbers n := by unfold hmany; rw [if_neg (by omega), hkk]
  have hdf : (decide (8 ≤ n ∧ n ≤ 15) && decide (n % 2 = 1)) = false := by rw [decide_eq_false h815]; rfl
  have g8 : ((n : Int) == 8) = false := by simp; omega
  have g8b : (n == 8) = false := by simp; omega
  have HN := hide (fun w => rnumbers_any w n)
  obtain ⟨b815, hb815⟩ : ∃ b, decide ((8 : Int) ≤ n) = b := ⟨_, rfl⟩
  have a3 : b815 = true → decide ((n : Int) ≤ 15) = false := fun h => by rw [← hb815, decide_eq_true_eq] at h; exact decide_eq_false (by omega)
  have HS3 : Hid (AckS w (w1.alloc (.cells #[.int .u64 (n : Nat), .int .u64 0, .int .u64 0, .int .u64 0, .bool false, .string ⟨#[]⟩, .string ⟨#[]⟩, .slice none 0 0] 26)) RB w1.heap.size none 0 ⟨n, 0, 0, 0, false, ⟨#[]⟩, ⟨#[]⟩, []⟩ none 0 []) := hide ⟨Blk.new w1 _ _, HR1.out.alloc _, ROwn.nil _ _, World.ownsRow_nil _ _ _ _, HM1.out.alloc _⟩
  obtain ⟨F, hF⟩ : ∃ F, w1.heap.size = F := ⟨_, rfl⟩
  have HFw : Hid (w.heap.size ≤ F) := hide (by rw [← hF]; exact HM1.out.size)
  have HFR : Hid (RB ≠ F) := hide (by rw [← hF]; have := HR1.out.lt; omega)
  have HFe := hide hF
  clear hF
  cases hfn : fnumbers n with
  | none =>
    rw [show fnumI n = -1 by unfold fnumI; rw [hfn]] at HN
    have HPg : Hid (phead x.data.toList = none) := hide (by rw [HPn.out, hmn, hfn]; rfl)
    clear hkk hmn hdf hfn h23 hz h815
    cases b815
    · have a1 := hb815
      clear hb815 a3
      go_wp2_with fail
      have HSx := hide HS3.out
      refine (HN.out _).mono ?_
      rintro e0 w2 ⟨rfl, rfl⟩
      obtain ⟨X, hX⟩ : ∃ X, w1.alloc (.cells #[.int .u64 (n : Nat), .int .u64 0, .int .u64 0, .int .u64 0, .bool false, .string ⟨#[]⟩, .string ⟨#[]⟩, .slice none 0 0] 26) = X := ⟨_, rfl⟩
      rw [hX] at HSx
      rw [hX]
      have hF := HFe.out
      try rw [hF] at HSx
      try rw [hF]
      clear hX hF HS3 HFe z0 r0 z1 r1 z2 r2 z3 r3 z4 r4 z5 r5 z6 r6 z7 r7 lR
      have p0 : X.cell? ⟨F, 0, none⟩ = some (.int .u64 (n : Nat)) := HSx.out.fr.cell 0
      have f0 : X.frozen? ⟨F, 0, none⟩ = false := HSx.out.fr.frozen 0
      have p1 : X.cell? ⟨F, 1, none⟩ = some (.int .u64 0) := HSx.out.fr.cell 1
      have f1 : X.frozen? ⟨F, 1, none⟩ = false := HSx.out.fr.frozen 1
      have p2 : X.cell? ⟨F, 2, none⟩ = some (.int .u64 0) := HSx.out.fr.cell 2
      have f2 : X.frozen? ⟨F, 2, none⟩ = false := HSx.out.fr.frozen 2
      have p3 : X.cell? ⟨F, 3, none⟩ = some (.int .u64 0) := HSx.out.fr.cell 3
      have f3 : X.frozen? ⟨F, 3, none⟩ = false := HSx.out.fr.frozen 3
      have p4 : X.cell? ⟨F, 4, none⟩ = some (.bool false) := HSx.out.fr.cell 4
      have f4 : X.frozen? ⟨F, 4, none⟩ = false := HSx.out.fr.frozen 4
      have p5 : X.cell? ⟨F, 5, none⟩ = some (.string ⟨#[]⟩) := HSx.out.fr.cell 5
      have f5 : X.frozen? ⟨F, 5, none⟩ = false := HSx.out.fr.frozen 5
      have p6 : X.cell? ⟨F, 6, none⟩ = some (.string ⟨#[]⟩) := HSx.out.fr.cell 6
      have f6 : X.frozen? ⟨F, 6, none⟩ = false := HSx.out.fr.frozen 6
      have p7 : X.cell? ⟨F, 7, none⟩ = some (.slice none 0 0) := HSx.out.fr.cell 7
      have f7 : X.frozen? ⟨F, 7, none⟩ = false := HSx.out.fr.frozen 7
      have lF := HSx.out.fr.lt
      have z0 : X.cell? ⟨RB, 0, none⟩ = some (.int .u64 0) := HSx.out.rb.cell 0
      have r0 : X.frozen? ⟨RB, 0, none⟩ = false := HSx.out.rb.frozen 0
      have z1 : X.cell? ⟨RB, 1, none⟩ = some (.int .u64 0) := HSx.out.rb.cell 1
      have r1 : X.frozen? ⟨RB, 1, none⟩ = false := HSx.out.rb.frozen 1
      have z2 : X.cell? ⟨RB, 2, none⟩ = some (.int .u64 0) := HSx.out.rb.cell 2
      have r2 : X.frozen? ⟨RB, 2, none⟩ = false := HSx.out.rb.frozen 2
      have z3 : X.cell? ⟨RB, 3, none⟩ = some (.int .u64 0) := HSx.out.rb.cell 3
      have r3 : X.frozen? ⟨RB, 3, none⟩ = false := HSx.out.rb.frozen 3
      have z4 : X.cell? ⟨RB, 4, none⟩ = some (.bool false) := HSx.out.rb.cell 4
      have r4 : X.frozen? ⟨RB, 4, none⟩ = false := HSx.out.rb.frozen 4
      have z5 : X.cell? ⟨RB, 5, none⟩ = some (.string ⟨#[]⟩) := HSx.out.rb.cell 5
      have r5 : X.frozen? ⟨RB, 5, none⟩ = false := HSx.out.rb.frozen 5
      have z6 : X.cell? ⟨RB, 6, none⟩ = some (.string ⟨#[]⟩) := HSx.out.rb.cell 6
      have r6 : X.frozen? ⟨RB, 6, none⟩ = false := HSx.out.rb.frozen 6
      have z7 : X.cell? ⟨RB, 7, none⟩ = some (.slice none 0 0) := HSx.out.rb.cell 7
      have r7 : X.frozen? ⟨RB, 7, none⟩ = false := HSx.out.rb.frozen 7
      have lR := HSx.out.rb.lt
      have HTk := hide (fun w' => took_any w' T 0 (by omega))
      have HEn := hide (fun w' b0 b1 b2 S hS => ended_any w' n b0 b1 b2 false ⟨#[]⟩ ⟨#[]⟩ S hS)
      unfold fcs at HEn
      simp only at HEn
      go_wp2_with fail
      refine (HTk.out _).mono ?_
      rintro e0 w2 ⟨m2, hp⟩
      have HS2 := hide (HSx.out.new m2)
      clear m2 p0 f0 p1 f1 p2 f2 p3 f3 p4 f4 p5 f5 p6 f6 p7 f7 lF z0 r0 z1 r1 z2 r2 z3 r3 z4 r4 z5 r5 z6 r6 z7 r7 lR
      have p0 : w2.cell? ⟨F, 0, none⟩ = some (.int .u64 (n : Nat)) := HS2.out.fr.cell 0
      have f0 : w2.frozen? ⟨F, 0, none⟩ = false := HS2.out.fr.frozen 0
      have p1 : w2.cell? ⟨F, 1, none⟩ = some (.int .u64 0) := HS2.out.fr.cell 1
      have f1 : w2.frozen? ⟨F, 1, none⟩ = false := HS2.out.fr.frozen 1
      have p2 : w2.cell? ⟨F, 2, none⟩ = some (.int .u64 0) := HS2.out.fr.cell 2
      have f2 : w2.frozen? ⟨F, 2, none⟩ = false := HS2.out.fr.frozen 2
      have p3 : w2.cell? ⟨F, 3, none⟩ = some (.int .u64 0) := HS2.out.fr.cell 3
      have f3 : w2.frozen? ⟨F, 3, none⟩ = false := HS2.out.fr.frozen 3
      have p4 : w2.cell? ⟨F, 4, none⟩ = some (.bool false) := HS2.out.fr.cell 4
      have f4 : w2.frozen? ⟨F, 4, none⟩ = false := HS2.out.fr.frozen 4
      have p5 : w2.cell? ⟨F, 5, none⟩ = some (.string ⟨#[]⟩) := HS2.out.fr.cell 5
      have f5 : w2.frozen? ⟨F, 5, none⟩ = false := HS2.out.fr.frozen 5
      have p6 : w2.cell? ⟨F, 6, none⟩ = some (.string ⟨#[]⟩) := HS2.out.fr.cell 6
      have f6 : w2.frozen? ⟨F, 6, none⟩ = false := HS2.out.fr.frozen 6
      have p7 : w2.cell? ⟨F, 7, none⟩ = some (.slice none 0 0) := HS2.out.fr.cell 7
      have f7 : w2.frozen? ⟨F, 7, none⟩ = false := HS2.out.fr.frozen 7
      have lF := HS2.out.fr.lt
      have z0 : w2.cell? ⟨RB, 0, none⟩ = some (.int .u64 0) := HS2.out.rb.cell 0
      have r0 : w2.frozen? ⟨RB, 0, none⟩ = false := HS2.out.rb.frozen 0
      have z1 : w2.cell? ⟨RB, 1, none⟩ = some (.int .u64 0) := HS2.out.rb.cell 1
      have r1 : w2.frozen? ⟨RB, 1, none⟩ = false := HS2.out.rb.frozen 1
      have z2 : w2.cell? ⟨RB, 2, none⟩ = some (.int .u64 0) := HS2.out.rb.cell 2
      have r2 : w2.frozen? ⟨RB, 2, none⟩ = false := HS2.out.rb.frozen 2
      have z3 : w2.cell? ⟨RB, 3, none⟩ = some (.int .u64 0) := HS2.out.rb.cell 3
      have r3 : w2.frozen? ⟨RB, 3, none⟩ = false := HS2.out.rb.frozen 3
      have z4 : w2.cell? ⟨RB, 4, none⟩ = some (.bool false) := HS2.out.rb.cell 4
      have r4 : w2.frozen? ⟨RB, 4, none⟩ = false := HS2.out.rb.frozen 4
      have z5 : w2.cell? ⟨RB, 5, none⟩ = some (.string ⟨#[]⟩) := HS2.out.rb.cell 5
      have r5 : w2.frozen? ⟨RB, 5, none⟩ = false := HS2.out.rb.frozen 5
      have z6 : w2.cell? ⟨RB, 6, none⟩ = some (.string ⟨#[]⟩) := HS2.out.rb.cell 6
      have r6 : w2.frozen? ⟨RB, 6, none⟩ = false := HS2.out.rb.frozen 6
      have z7 : w2.cell? ⟨RB, 7, none⟩ = some (.slice none 0 0) := HS2.out.rb.cell 7
      have r7 : w2.frozen? ⟨RB, 7, none⟩ = false := HS2.out.rb.frozen 7
      have lR := HS2.out.rb.lt
      have HV : Hid (HdV (phead x.data.toList) ⟨n, 0, 0, 0, false, ⟨#[]⟩, ⟨#[]⟩, []⟩ false) := hide (HdV.no HPg.out)
      cases hv : vnums 0 T.data.toList with
      | none =>
        rw [hv] at hp
        simp only at hp
        subst hp
        clear hv
        go_wp2_with fail
        have HE := hide (HdP.fin (X := w2) (f := ⟨n, 0, 0, 0, false, ⟨#[]⟩, ⟨#[]⟩, []⟩) HV.out rfl HS2.out.mod HS2.out.rb HRBw.out)
        refine bodyPost_ret (results_cell_tmp_row rfl _ _ RB 26 (fcs none 0 0 ⟨n, 0, 0, 0, false, ⟨#[]⟩, ⟨#[]⟩, []⟩) _ rfl ?_ Tryd.underlying26 rfl (by kernel_rfl)) rfl ?_
        · exact HE.out.1
        exact HE.out.2
      | some xx =>
        rw [hv] at hp
        obtain ⟨ns, r⟩ := xx
        obtain ⟨An, cn, rfl, hn⟩ := hp
        obtain ⟨hl, -, hrl⟩ := vnums_len 0 _ _ hv
        simp only at hl hrl hn
        rw [hl]
        clear hv hl hrl hn
        go_wp2_with fail
        have HE := hide (HdP.fin (X := w2) (f := ⟨n, 0, 0, 0, false, ⟨#[]⟩, ⟨#[]⟩, []⟩) HV.out rfl HS2.out.mod HS2.out.rb HRBw.out)
        refine bodyPost_ret (results_cell_tmp_row rfl _ _ RB 26 (fcs none 0 0 ⟨n, 0, 0, 0, false, ⟨#[]⟩, ⟨#[]⟩, []⟩) _ rfl ?_ Tryd.underlying26 rfl (by kernel_rfl)) rfl ?_
        · exact HE.out.1
        exact HE.out.2
    · have a1 := hb815
      have a2 := a3 rfl
      clear hb815 a3
      go_wp2_with fail
      have HSx := hide HS3.out
      refine (HN.out _).mono ?_
      rintro e0 w2 ⟨rfl, rfl⟩
      obtain ⟨X, hX⟩ : ∃ X, w1.alloc (.cells #[.int .u64 (n : Nat), .int .u64 0, .int .u64 0, .int .u64 0, .bool false, .string ⟨#[]⟩, .string ⟨#[]⟩, .slice none 0 0] 26) = X := ⟨_, rfl⟩
      rw [hX] at HSx
      rw [hX]
      have hF := HFe.out
      try rw [hF] at HSx
      try rw [hF]
      clear hX hF HS3 HFe z0 r0 z1 r1 z2 r2 z3 r3 z4 r4 z5 r5 z6 r6 z7 r7 lR
      have p0 : X.cell? ⟨F, 0, none⟩ = some (.int .u64 (n : Nat)) := HSx.out.fr.cell 0
      have f0 : X.frozen? ⟨F, 0, none⟩ = false := HSx.out.fr.frozen 0
      have p1 : X.cell? ⟨F, 1, none⟩ = some (.int .u64 0) := HSx.out.fr.cell 1
      have f1 : X.frozen? ⟨F, 1, none⟩ = false := HSx.out.fr.frozen 1
      have p2 : X.cell? ⟨F, 2, none⟩ = some (.int .u64 0) := HSx.out.fr.cell 2
      have f2 : X.frozen? ⟨F, 2, none⟩ = false := HSx.out.fr.frozen 2
      have p3 : X.cell? ⟨F, 3, none⟩ = some (.int .u64 0) := HSx.out.fr.cell 3
      have f3 : X.frozen? ⟨F, 3, none⟩ = false := HSx.out.fr.frozen 3
      have p4 : X.cell? ⟨F, 4, none⟩ = some (.bool false) := HSx.out.fr.cell 4
      have f4 : X.frozen? ⟨F, 4, none⟩ = false := HSx.out.fr.frozen 4
      have p5 : X.cell? ⟨F, 5, none⟩ = some (.string ⟨#[]⟩) := HSx.out.fr.cell 5
      have f5 : X.frozen? ⟨F, 5, none⟩ = false := HSx.out.fr.frozen 5
      have p6 : X.cell? ⟨F, 6, none⟩ = some (.string ⟨#[]⟩) := HSx.out.fr.cell 6
      have f6 : X.frozen? ⟨F, 6, none⟩ = false := HSx.out.fr.frozen 6
      have p7 : X.cell? ⟨F, 7, none⟩ = some (.slice none 0 0) := HSx.out.fr.cell 7
      have f7 : X.frozen? ⟨F, 7, none⟩ = false := HSx.out.fr.frozen 7
      have lF := HSx.out.fr.lt
      have z0 : X.cell? ⟨RB, 0, none⟩ = some (.int .u64 0) := HSx.out.rb.cell 0
      have r0 : X.frozen? ⟨RB, 0, none⟩ = false := HSx.out.rb.frozen 0
      have z1 : X.cell? ⟨RB, 1, none⟩ = some (.int .u64 0) := HSx.out.rb.cell 1
      have r1 : X.frozen? ⟨RB, 1, none⟩ = false := HSx.out.rb.frozen 1
      have z2 : X.cell? ⟨RB, 2, none⟩ = some (.int .u64 0) := HSx.out.rb.cell 2
      have r2 : X.frozen? ⟨RB, 2, none⟩ = false := HSx.out.rb.frozen 2
      have z3 : X.cell? ⟨RB, 3, none⟩ = some (.int .u64 0) := HSx.out.rb.cell 3
      have r3 : X.frozen? ⟨RB, 3, none⟩ = false := HSx.out.rb.frozen 3
      have z4 : X.cell? ⟨RB, 4, none⟩ = some (.bool false) := HSx.out.rb.cell 4
      have r4 : X.frozen? ⟨RB, 4, none⟩ = false := HSx.out.rb.frozen 4
      have z5 : X.cell? ⟨RB, 5, none⟩ = some (.string ⟨#[]⟩) := HSx.out.rb.cell 5
      have r5 : X.frozen? ⟨RB, 5, none⟩ = false := HSx.out.rb.frozen 5
      have z6 : X.cell? ⟨RB, 6, none⟩ = some (.string ⟨#[]⟩) := HSx.out.rb.cell 6
      have r6 : X.frozen? ⟨RB, 6, none⟩ = false := HSx.out.rb.frozen 6
      have z7 : X.cell? ⟨RB, 7, none⟩ = some (.slice none 0 0) := HSx.out.rb.cell 7
      have r7 : X.frozen? ⟨RB, 7, none⟩ = false := HSx.out.rb.frozen 7
      have lR := HSx.out.rb.lt
      have HTk := hide (fun w' => took_any w' T 0 (by omega))
      have HEn := hide (fun w' b0 b1 b2 S hS => ended_any w' n b0 b1 b2 false ⟨#[]⟩ ⟨#[]⟩ S hS)
      unfold fcs at HEn
      simp only at HEn
      go_wp2_with fail
      refine (HTk.out _).mono ?_
      rintro e0 w2 ⟨m2, hp⟩
      have HS2 := hide (HSx.out.new m2)
      clear m2 p0 f0 p1 f1 p2 f2 p3 f3 p4 f4 p5 f5 p6 f6 p7 f7 lF z0 r0 z1 r1 z2 r2 z3 r3 z4 r4 z5 r5 z6 r6 z7 r7 lR
      have p0 : w2.cell? ⟨F, 0, none⟩ = some (.int .u64 (n : Nat)) := HS2.out.fr.cell 0
      have f0 : w2.frozen? ⟨F, 0, none⟩ = false := HS2.out.fr.frozen 0
      have p1 : w2.cell? ⟨F, 1, none⟩ = some (.int .u64 0) := HS2.out.fr.cell 1
      have f1 : w2.frozen? ⟨F, 1, none⟩ = false := HS2.out.fr.frozen 1
      have p2 : w2.cell? ⟨F, 2, none⟩ = some (.int .u64 0) := HS2.out.fr.cell 2
      have f2 : w2.frozen? ⟨F, 2, none⟩ = false := HS2.out.fr.frozen 2
      have p3 : w2.cell? ⟨F, 3, none⟩ = some (.int .u64 0) := HS2.out.fr.cell 3
      have f3 : w2.frozen? ⟨F, 3, none⟩ = false := HS2.out.fr.frozen 3
      have p4 : w2.cell? ⟨F, 4, none⟩ = some (.bool false) := HS2.out.fr.cell 4
      have f4 : w2.frozen? ⟨F, 4, none⟩ = false := HS2.out.fr.frozen 4
      have p5 : w2.cell? ⟨F, 5, none⟩ = some (.string ⟨#[]⟩) := HS2.out.fr.cell 5
      have f5 : w2.frozen? ⟨F, 5, none⟩ = false := HS2.out.fr.frozen 5
      have p6 : w2.cell? ⟨F, 6, none⟩ = some (.string ⟨#[]⟩) := HS2.out.fr.cell 6
      have f6 : w2.frozen? ⟨F, 6, none⟩ = false := HS2.out.fr.frozen 6
      have p7 : w2.cell? ⟨F, 7, none⟩ = some (.slice none 0 0) := HS2.out.fr.cell 7
      have f7 : w2.frozen? ⟨F, 7, none⟩ = false := HS2.out.fr.frozen 7
      have lF := HS2.out.fr.lt
      have z0 : w2.cell? ⟨RB, 0, none⟩ = some (.int .u64 0) := HS2.out.rb.cell 0
      have r0 : w2.frozen? ⟨RB, 0, none⟩ = false := HS2.out.rb.frozen 0
      have z1 : w2.cell? ⟨RB, 1, none⟩ = some (.int .u64 0) := HS2.out.rb.cell 1
      have r1 : w2.frozen? ⟨RB, 1, none⟩ = false := HS2.out.rb.frozen 1
      have z2 : w2.cell? ⟨RB, 2, none⟩ = some (.int .u64 0) := HS2.out.rb.cell 2
      have r2 : w2.frozen? ⟨RB, 2, none⟩ = false := HS2.out.rb.frozen 2
      have z3 : w2.cell? ⟨RB, 3, none⟩ = some (.int .u64 0) := HS2.out.rb.cell 3
      have r3 : w2.frozen? ⟨RB, 3, none⟩ = false := HS2.out.rb.frozen 3
      have z4 : w2.cell? ⟨RB, 4, none⟩ = some (.bool false) := HS2.out.rb.cell 4
      have r4 : w2.frozen? ⟨RB, 4, none⟩ = false := HS2.out.rb.frozen 4
      have z5 : w2.cell? ⟨RB, 5, none⟩ = some (.string ⟨#[]⟩) := HS2.out.rb.cell 5
      have r5 : w2.frozen? ⟨RB, 5, none⟩ = false := HS2.out.rb.frozen 5
      have z6 : w2.cell? ⟨RB, 6, none⟩ = some (.string ⟨#[]⟩) := HS2.out.rb.cell 6
      have r6 : w2.frozen? ⟨RB, 6, none⟩ = false := HS2.out.rb.frozen 6
      have z7 : w2.cell? ⟨RB, 7, none⟩ = some (.slice none 0 0) := HS2.out.rb.cell 7
      have r7 : w2.frozen? ⟨RB, 7, none⟩ = false := HS2.out.rb.frozen 7
      have lR := HS2.out.rb.lt
      have HV : Hid (HdV (phead x.data.toList) ⟨n, 0, 0, 0, false, ⟨#[]⟩, ⟨#[]⟩, []⟩ false) := hide (HdV.no HPg.out)
      cases hv : vnums 0 T.data.toList with
      | none =>
        rw [hv] at hp
        simp only at hp
        subst hp
        clear hv
        go_wp2_with fail
        have HE := hide (HdP.fin (X := w2) (f := ⟨n, 0, 0, 0, false, ⟨#[]⟩, ⟨#[]⟩, []⟩) HV.out rfl HS2.out.mod HS2.out.rb HRBw.out)
        refine bodyPost_ret (results_cell_tmp_row rfl _ _ RB 26 (fcs none 0 0 ⟨n, 0, 0, 0, false, ⟨#[]⟩, ⟨#[]⟩, []⟩) _ rfl ?_ Tryd.underlying26 rfl (by kernel_rfl)) rfl ?_
        · exact HE.out.1
        exact HE.out.2
      | some xx =>
        rw [hv] at hp
        obtain ⟨ns, r⟩ := xx
        obtain ⟨An, cn, rfl, hn⟩ := hp
        obtain ⟨hl, -, hrl⟩ := vnums_len 0 _ _ hv
        simp only at hl hrl hn
        rw [hl]
        clear hv hl hrl hn
        go_wp2_with fail
        have HE := hide (HdP.fin (X := w2) (f := ⟨n, 0, 0, 0, false, ⟨#[]⟩, ⟨#[]⟩, []⟩) HV.out rfl HS2.out.mod HS2.out.rb HRBw.out)
        refine bodyPost_ret (results_cell_tmp_row rfl _ _ RB 26 (fcs none 0 0 ⟨n, 0, 0, 0, false, ⟨#[]⟩, ⟨#[]⟩, []⟩) _ rfl ?_ Tryd.underlying26 rfl (by kernel_rfl)) rfl ?_
        · exact HE.out.1
        exact HE.out.2
  | some m =>
    have hm3 : m ≤ 3 := by
      unfold fnumbers at hfn
      repeat' split at hfn
      all_goals first | (cases hfn; omega) | (cases hfn; done)
    rw [show fnumI n = (m : Nat) by unfold fnumI; rw [hfn]] at HN
    have b1 : max (m : Int) 0 = (m : Int) := by omega
    have b2 : decide ((m : Int) < 0) = false := decide_eq_false (by omega)
    have HPg : Hid (phead x.data.toList = (vnums m T.data.toList).bind fun y => hended ⟨n, y.1.getD 0 0, y.1.getD 1 0, y.1.getD 2 0, false, ⟨#[]⟩, ⟨#[]⟩, []⟩ y.2) := hide (by rw [HPn.out, hmn, hfn, hkk, hdf]; rfl)
    clear hkk hmn hdf hfn h23 hz h815
    cases b815
    · have a1 := hb815
      clear hb815 a3
      go_wp2_with fail
      have HSx := hide HS3.out
      refine (HN.out _).mono ?_
      rintro e0 w2 ⟨rfl, rfl⟩
      obtain ⟨X, hX⟩ : ∃ X, w1.alloc (.cells #[.int .u64 (n : Nat), .int .u64 0, .int .u64 0, .int .u64 0, .bool false, .string ⟨#[]⟩, .string ⟨#[]⟩, .slice none 0 0] 26) = X := ⟨_, rfl⟩
      rw [hX] at HSx
      rw [hX]
      have hF := HFe.out
      try rw [hF] at HSx
      try rw [hF]
      clear hX hF HS3 HFe z0 r0 z1 r1 z2 r2 z3 r3 z4 r4 z5 r5 z6 r6 z7 r7 lR
      have p0 : X.cell? ⟨F, 0, none⟩ = some (.int .u64 (n : Nat)) := HSx.out.fr.cell 0
      have f0 : X.frozen? ⟨F, 0, none⟩ = false := HSx.out.fr.frozen 0
      have p1 : X.cell? ⟨F, 1, none⟩ = some (.int .u64 0) := HSx.out.fr.cell 1
      have f1 : X.frozen? ⟨F, 1, none⟩ = false := HSx.out.fr.frozen 1
      have p2 : X.cell? ⟨F, 2, none⟩ = some (.int .u64 0) := HSx.out.fr.cell 2
      have f2 : X.frozen? ⟨F, 2, none⟩ = false := HSx.out.fr.frozen 2
      have p3 : X.cell? ⟨F, 3, none⟩ = some (.int .u64 0) := HSx.out.fr.cell 3
      have f3 : X.frozen? ⟨F, 3, none⟩ = false := HSx.out.fr.frozen 3
      have p4 : X.cell? ⟨F, 4, none⟩ = some (.bool false) := HSx.out.fr.cell 4
      have f4 : X.frozen? ⟨F, 4, none⟩ = false := HSx.out.fr.frozen 4
      have p5 : X.cell? ⟨F, 5, none⟩ = some (.string ⟨#[]⟩) := HSx.out.fr.cell 5
      have f5 : X.frozen? ⟨F, 5, none⟩ = false := HSx.out.fr.frozen 5
      have p6 : X.cell? ⟨F, 6, none⟩ = some (.string ⟨#[]⟩) := HSx.out.fr.cell 6
      have f6 : X.frozen? ⟨F, 6, none⟩ = false := HSx.out.fr.frozen 6
      have p7 : X.cell? ⟨F, 7, none⟩ = some (.slice none 0 0) := HSx.out.fr.cell 7
      have f7 : X.frozen? ⟨F, 7, none⟩ = false := HSx.out.fr.frozen 7
      have lF := HSx.out.fr.lt
      have z0 : X.cell? ⟨RB, 0, none⟩ = some (.int .u64 0) := HSx.out.rb.cell 0
      have r0 : X.frozen? ⟨RB, 0, none⟩ = false := HSx.out.rb.frozen 0
      have z1 : X.cell? ⟨RB, 1, none⟩ = some (.int .u64 0) := HSx.out.rb.cell 1
      have r1 : X.frozen? ⟨RB, 1, none⟩ = false := HSx.out.rb.frozen 1
      have z2 : X.cell? ⟨RB, 2, none⟩ = some (.int .u64 0) := HSx.out.rb.cell 2
      have r2 : X.frozen? ⟨RB, 2, none⟩ = false := HSx.out.rb.frozen 2
      have z3 : X.cell? ⟨RB, 3, none⟩ = some (.int .u64 0) := HSx.out.rb.cell 3
      have r3 : X.frozen? ⟨RB, 3, none⟩ = false := HSx.out.rb.frozen 3
      have z4 : X.cell? ⟨RB, 4, none⟩ = some (.bool false) := HSx.out.rb.cell 4
      have r4 : X.frozen? ⟨RB, 4, none⟩ = false := HSx.out.rb.frozen 4
      have z5 : X.cell? ⟨RB, 5, none⟩ = some (.string ⟨#[]⟩) := HSx.out.rb.cell 5
      have r5 : X.frozen? ⟨RB, 5, none⟩ = false := HSx.out.rb.frozen 5
      have z6 : X.cell? ⟨RB, 6, none⟩ = some (.string ⟨#[]⟩) := HSx.out.rb.cell 6
      have r6 : X.frozen? ⟨RB, 6, none⟩ = false := HSx.out.rb.frozen 6
      have z7 : X.cell? ⟨RB, 7, none⟩ = some (.slice none 0 0) := HSx.out.rb.cell 7
      have r7 : X.frozen? ⟨RB, 7, none⟩ = false := HSx.out.rb.frozen 7
      have lR := HSx.out.rb.lt
      have HTk := hide (fun w' => took_any w' T m (by omega))
      have HEn := hide (fun w' b0 b1 b2 S hS => ended_any w' n b0 b1 b2 false ⟨#[]⟩ ⟨#[]⟩ S hS)
      unfold fcs at HEn
      simp only at HEn
      go_wp2_with fail
      refine (HTk.out _).mono ?_
      rintro e0 w2 ⟨m2, hp⟩
      have HS2 := hide (HSx.out.new m2)
      clear m2 p0 f0 p1 f1 p2 f2 p3 f3 p4 f4 p5 f5 p6 f6 p7 f7 lF z0 r0 z1 r1 z2 r2 z3 r3 z4 r4 z5 r5 z6 r6 z7 r7 lR
      have p0 : w2.cell? ⟨F, 0, none⟩ = some (.int .u64 (n : Nat)) := HS2.out.fr.cell 0
      have f0 : w2.frozen? ⟨F, 0, none⟩ = false := HS2.out.fr.frozen 0
      have p1 : w2.cell? ⟨F, 1, none⟩ = some (.int .u64 0) := HS2.out.fr.cell 1
      have f1 : w2.frozen? ⟨F, 1, none⟩ = false := HS2.out.fr.frozen 1
      have p2 : w2.cell? ⟨F, 2, none⟩ = some (.int .u64 0) := HS2.out.fr.cell 2
      have f2 : w2.frozen? ⟨F, 2, none⟩ = false := HS2.out.fr.frozen 2
      have p3 : w2.cell? ⟨F, 3, none⟩ = some (.int .u64 0) := HS2.out.fr.cell 3
      have f3 : w2.frozen? ⟨F, 3, none⟩ = false := HS2.out.fr.frozen 3
      have p4 : w2.cell? ⟨F, 4, none⟩ = some (.bool false) := HS2.out.fr.cell 4
      have f4 : w2.frozen? ⟨F, 4, none⟩ = false := HS2.out.fr.frozen 4
      have p5 : w2.cell? ⟨F, 5, none⟩ = some (.string ⟨#[]⟩) := HS2.out.fr.cell 5
      have f5 : w2.frozen? ⟨F, 5, none⟩ = false := HS2.out.fr.frozen 5
      have p6 : w2.cell? ⟨F, 6, none⟩ = some (.string ⟨#[]⟩) := HS2.out.fr.cell 6
      have f6 : w2.frozen? ⟨F, 6, none⟩ = false := HS2.out.fr.frozen 6
      have p7 : w2.cell? ⟨F, 7, none⟩ = some (.slice none 0 0) := HS2.out.fr.cell 7
      have f7 : w2.frozen? ⟨F, 7, none⟩ = false := HS2.out.fr.frozen 7
      have lF := HS2.out.fr.lt
      have z0 : w2.cell? ⟨RB, 0, none⟩ = some (.int .u64 0) := HS2.out.rb.cell 0
      have r0 : w2.frozen? ⟨RB, 0, none⟩ = false := HS2.out.rb.frozen 0
      have z1 : w2.cell? ⟨RB, 1, none⟩ = some (.int .u64 0) := HS2.out.rb.cell 1
      have r1 : w2.frozen? ⟨RB, 1, none⟩ = false := HS2.out.rb.frozen 1
      have z2 : w2.cell? ⟨RB, 2, none⟩ = some (.int .u64 0) := HS2.out.rb.cell 2
      have r2 : w2.frozen? ⟨RB, 2, none⟩ = false := HS2.out.rb.frozen 2
      have z3 : w2.cell? ⟨RB, 3, none⟩ = some (.int .u64 0) := HS2.out.rb.cell 3
      have r3 : w2.frozen? ⟨RB, 3, none⟩ = false := HS2.out.rb.frozen 3
      have z4 : w2.cell? ⟨RB, 4, none⟩ = some (.bool false) := HS2.out.rb.cell 4
      have r4 : w2.frozen? ⟨RB, 4, none⟩ = false := HS2.out.rb.frozen 4
      have z5 : w2.cell? ⟨RB, 5, none⟩ = some (.string ⟨#[]⟩) := HS2.out.rb.cell 5
      have r5 : w2.frozen? ⟨RB, 5, none⟩ = false := HS2.out.rb.frozen 5
      have z6 : w2.cell? ⟨RB, 6, none⟩ = some (.string ⟨#[]⟩) := HS2.out.rb.cell 6
      have r6 : w2.frozen? ⟨RB, 6, none⟩ = false := HS2.out.rb.frozen 6
      have z7 : w2.cell? ⟨RB, 7, none⟩ = some (.slice none 0 0) := HS2.out.rb.cell 7
      have r7 : w2.frozen? ⟨RB, 7, none⟩ = false := HS2.out.rb.frozen 7
      have lR := HS2.out.rb.lt
      cases hv : vnums m T.data.toList with
      | none =>
        rw [hv] at hp
        simp only at hp
        subst hp
        have HV : Hid (HdV (phead x.data.toList) ⟨n, 0, 0, 0, false, ⟨#[]⟩, ⟨#[]⟩, []⟩ false) := hide (HdV.no (by rw [HPg.out, hv]; rfl))
        clear hv
        go_wp2_with fail
        have HE := hide (HdP.fin (X := w2) (f := ⟨n, 0, 0, 0, false, ⟨#[]⟩, ⟨#[]⟩, []⟩) HV.out rfl HS2.out.mod HS2.out.rb HRBw.out)
        refine bodyPost_ret (results_cell_tmp_row rfl _ _ RB 26 (fcs none 0 0 ⟨n, 0, 0, 0, false, ⟨#[]⟩, ⟨#[]⟩, []⟩) _ rfl ?_ Tryd.underlying26 rfl (by kernel_rfl)) rfl ?_
        · exact HE.out.1
        exact HE.out.2
      | some xx =>
        rw [hv] at hp
        obtain ⟨ns, r⟩ := xx
        obtain ⟨An, cn, rfl, hn⟩ := hp
        obtain ⟨hl, -, hrl⟩ := vnums_len m _ _ hv
        simp only at hl hrl hn
        obtain ⟨S, hS, hSz, hSl⟩ := putB2 r
        rw [hS, hl]
        have hSs : S.size ≤ 1000000 := by rw [hSz]; have := bytes_len T; omega
        obtain ⟨b0, hb0⟩ : ∃ b, ns.getD 0 0 = b := ⟨_, rfl⟩
        obtain ⟨b1, hb1⟩ : ∃ b, ns.getD 1 0 = b := ⟨_, rfl⟩
        obtain ⟨b2, hb2⟩ : ∃ b, ns.getD 2 0 = b := ⟨_, rfl⟩
        have HPh2 : Hid (phead x.data.toList = hended ⟨n, b0, b1, b2, false, ⟨#[]⟩, ⟨#[]⟩, []⟩ S.data.toList) := hide (by
          rw [HPg.out, hv, ← hb0, ← hb1, ← hb2, hSl]; rfl)
        have hpad := pad_at ns
        rw [hb0, hb1, hb2] at hpad
        obtain ⟨g', c', X6, hrun, hS6⟩ := (HS2.out.num_ (hn.base HSx.out.mod.size)).pad rfl (by omega) hl
        have HRun := hide hrun
        have HS6 := hide hS6
        have HS7 := hide (((hS6.set (g := ⟨n, b0, 0, 0, false, ⟨#[]⟩, ⟨#[]⟩, []⟩) HFw.out HFR.out 1 (.int .u64 (b0 : Nat)) rfl rfl).set (g := ⟨n, b0, b1, 0, false, ⟨#[]⟩, ⟨#[]⟩, []⟩) HFw.out HFR.out 2 (.int .u64 (b1 : Nat)) rfl rfl).set (g := ⟨n, b0, b1, b2, false, ⟨#[]⟩, ⟨#[]⟩, []⟩) HFw.out HFR.out 3 (.int .u64 (b2 : Nat)) rfl rfl)
        obtain ⟨_, hA, hgl, _, y0⟩ := hS6.num.at_ hpad.1
        cases hA
        obtain ⟨_, hA, _, _, y1⟩ := hS6.num.at_ hpad.2.1
        cases hA
        obtain ⟨_, hA, _, _, y2⟩ := hS6.num.at_ hpad.2.2
        cases hA
        have hwv : ¬ g' = F := fun e => hS6.num.ne hS6.fr (by decide) _ rfl e
        have hwv2 : ¬ F = g' := fun e => hwv e.symm
        have HEn2 := hide (fun w' => HEn.out w' b0 b1 b2 S hSs)
        clear hv hl hrl hn hS hSz hSl hb0 hb1 hb2 hpad hrun hS6 hSs HEn HTk
        clear p0 f0 p1 f1 p2 f2 p3 f3 p4 f4 p5 f5 p6 f6 p7 f7 lF z0 r0 z1 r1 z2 r2 z3 r3 z4 r4 z5 r5 z6 r6 z7 r7 lR
        have p0 : X6.cell? ⟨F, 0, none⟩ = some (.int .u64 (n : Nat)) := HS6.out.fr.cell 0
        have f0 : X6.frozen? ⟨F, 0, none⟩ = false := HS6.out.fr.frozen 0
        have p1 : X6.cell? ⟨F, 1, none⟩ = some (.int .u64 0) := HS6.out.fr.cell 1
        have f1 : X6.frozen? ⟨F, 1, none⟩ = false := HS6.out.fr.frozen 1
        have p2 : X6.cell? ⟨F, 2, none⟩ = some (.int .u64 0) := HS6.out.fr.cell 2
        have f2 : X6.frozen? ⟨F, 2, none⟩ = false := HS6.out.fr.frozen 2
        have p3 : X6.cell? ⟨F, 3, none⟩ = some (.int .u64 0) := HS6.out.fr.cell 3
        have f3 : X6.frozen? ⟨F, 3, none⟩ = false := HS6.out.fr.frozen 3
        have p4 : X6.cell? ⟨F, 4, none⟩ = some (.bool false) := HS6.out.fr.cell 4
        have f4 : X6.frozen? ⟨F, 4, none⟩ = false := HS6.out.fr.frozen 4
        have p5 : X6.cell? ⟨F, 5, none⟩ = some (.string ⟨#[]⟩) := HS6.out.fr.cell 5
        have f5 : X6.frozen? ⟨F, 5, none⟩ = false := HS6.out.fr.frozen 5
        have p6 : X6.cell? ⟨F, 6, none⟩ = some (.string ⟨#[]⟩) := HS6.out.fr.cell 6
        have f6 : X6.frozen? ⟨F, 6, none⟩ = false := HS6.out.fr.frozen 6
        have p7 : X6.cell? ⟨F, 7, none⟩ = some (.slice none 0 0) := HS6.out.fr.cell 7
        have f7 : X6.frozen? ⟨F, 7, none⟩ = false := HS6.out.fr.frozen 7
        have lF := HS6.out.fr.lt
        have z0 : X6.cell? ⟨RB, 0, none⟩ = some (.int .u64 0) := HS6.out.rb.cell 0
        have r0 : X6.frozen? ⟨RB, 0, none⟩ = false := HS6.out.rb.frozen 0
        have z1 : X6.cell? ⟨RB, 1, none⟩ = some (.int .u64 0) := HS6.out.rb.cell 1
        have r1 : X6.frozen? ⟨RB, 1, none⟩ = false := HS6.out.rb.frozen 1
        have z2 : X6.cell? ⟨RB, 2, none⟩ = some (.int .u64 0) := HS6.out.rb.cell 2
        have r2 : X6.frozen? ⟨RB, 2, none⟩ = false := HS6.out.rb.frozen 2
        have z3 : X6.cell? ⟨RB, 3, none⟩ = some (.int .u64 0) := HS6.out.rb.cell 3
        have r3 : X6.frozen? ⟨RB, 3, none⟩ = false := HS6.out.rb.frozen 3
        have z4 : X6.cell? ⟨RB, 4, none⟩ = some (.bool false) := HS6.out.rb.cell 4
        have r4 : X6.frozen? ⟨RB, 4, none⟩ = false := HS6.out.rb.frozen 4
        have z5 : X6.cell? ⟨RB, 5, none⟩ = some (.string ⟨#[]⟩) := HS6.out.rb.cell 5
        have r5 : X6.frozen? ⟨RB, 5, none⟩ = false := HS6.out.rb.frozen 5
        have z6 : X6.cell? ⟨RB, 6, none⟩ = some (.string ⟨#[]⟩) := HS6.out.rb.cell 6
        have r6 : X6.frozen? ⟨RB, 6, none⟩ = false := HS6.out.rb.frozen 6
        have z7 : X6.cell? ⟨RB, 7, none⟩ = some (.slice none 0 0) := HS6.out.rb.cell 7
        have r7 : X6.frozen? ⟨RB, 7, none⟩ = false := HS6.out.rb.frozen 7
        have lR := HS6.out.rb.lt
        go_wp2_with (at_builtin; refine Lib.wpList_append_run _ rfl (.tmp 95) (.tmp 96) 68 68 rfl (.slice An m cn) (.slice (some ⟨w2.heap.size, 0, none⟩) 3 3) rfl rfl _ X6 HRun.out ?_)
        try go_wp2_with fail
        obtain ⟨X7, hX7⟩ : ∃ X7, ((X6.setCell ⟨F, 1, none⟩ (.int .u64 (b0 : Nat))).setCell ⟨F, 2, none⟩ (.int .u64 (b1 : Nat))).setCell ⟨F, 3, none⟩ (.int .u64 (b2 : Nat)) = X7 := ⟨_, rfl⟩
        rw [hX7] at HS7
        rw [hX7]
        clear hX7 p0 f0 p1 f1 p2 f2 p3 f3 p4 f4 p5 f5 p6 f6 p7 f7 lF z0 r0 z1 r1 z2 r2 z3 r3 z4 r4 z5 r5 z6 r6 z7 r7 lR y0 y1 y2 hgl hwv hwv2
        have p0 : X7.cell? ⟨F, 0, none⟩ = some (.int .u64 (n : Nat)) := HS7.out.fr.cell 0
        have f0 : X7.frozen? ⟨F, 0, none⟩ = false := HS7.out.fr.frozen 0
        have p1 : X7.cell? ⟨F, 1, none⟩ = some (.int .u64 (b0 : Nat)) := HS7.out.fr.cell 1
        have f1 : X7.frozen? ⟨F, 1, none⟩ = false := HS7.out.fr.frozen 1
        have p2 : X7.cell? ⟨F, 2, none⟩ = some (.int .u64 (b1 : Nat)) := HS7.out.fr.cell 2
        have f2 : X7.frozen? ⟨F, 2, none⟩ = false := HS7.out.fr.frozen 2
        have p3 : X7.cell? ⟨F, 3, none⟩ = some (.int .u64 (b2 : Nat)) := HS7.out.fr.cell 3
        have f3 : X7.frozen? ⟨F, 3, none⟩ = false := HS7.out.fr.frozen 3
        have p4 : X7.cell? ⟨F, 4, none⟩ = some (.bool false) := HS7.out.fr.cell 4
        have f4 : X7.frozen? ⟨F, 4, none⟩ = false := HS7.out.fr.frozen 4
        have p5 : X7.cell? ⟨F, 5, none⟩ = some (.string ⟨#[]⟩) := HS7.out.fr.cell 5
        have f5 : X7.frozen? ⟨F, 5, none⟩ = false := HS7.out.fr.frozen 5
        have p6 : X7.cell? ⟨F, 6, none⟩ = some (.string ⟨#[]⟩) := HS7.out.fr.cell 6
        have f6 : X7.frozen? ⟨F, 6, none⟩ = false := HS7.out.fr.frozen 6
        have p7 : X7.cell? ⟨F, 7, none⟩ = some (.slice none 0 0) := HS7.out.fr.cell 7
        have f7 : X7.frozen? ⟨F, 7, none⟩ = false := HS7.out.fr.frozen 7
        have lF := HS7.out.fr.lt
        have z0 : X7.cell? ⟨RB, 0, none⟩ = some (.int .u64 0) := HS7.out.rb.cell 0
        have r0 : X7.frozen? ⟨RB, 0, none⟩ = false := HS7.out.rb.frozen 0
        have z1 : X7.cell? ⟨RB, 1, none⟩ = some (.int .u64 0) := HS7.out.rb.cell 1
        have r1 : X7.frozen? ⟨RB, 1, none⟩ = false := HS7.out.rb.frozen 1
        have z2 : X7.cell? ⟨RB, 2, none⟩ = some (.int .u64 0) := HS7.out.rb.cell 2
        have r2 : X7.frozen? ⟨RB, 2, none⟩ = false := HS7.out.rb.frozen 2
        have z3 : X7.cell? ⟨RB, 3, none⟩ = some (.int .u64 0) := HS7.out.rb.cell 3
        have r3 : X7.frozen? ⟨RB, 3, none⟩ = false := HS7.out.rb.frozen 3
        have z4 : X7.cell? ⟨RB, 4, none⟩ = some (.bool false) := HS7.out.rb.cell 4
        have r4 : X7.frozen? ⟨RB, 4, none⟩ = false := HS7.out.rb.frozen 4
        have z5 : X7.cell? ⟨RB, 5, none⟩ = some (.string ⟨#[]⟩) := HS7.out.rb.cell 5
        have r5 : X7.frozen? ⟨RB, 5, none⟩ = false := HS7.out.rb.frozen 5
        have z6 : X7.cell? ⟨RB, 6, none⟩ = some (.string ⟨#[]⟩) := HS7.out.rb.cell 6
        have r6 : X7.frozen? ⟨RB, 6, none⟩ = false := HS7.out.rb.frozen 6
        have z7 : X7.cell? ⟨RB, 7, none⟩ = some (.slice none 0 0) := HS7.out.rb.cell 7
        have r7 : X7.frozen? ⟨RB, 7, none⟩ = false := HS7.out.rb.frozen 7
        have lR := HS7.out.rb.lt
        refine (HEn2.out _).mono ?_
        rintro e0 w8 ⟨f', A', cc', rfl, hf, ho, hl, m2⟩
        have HR2 := hide (m2.blk HS7.out.rb (by simp))
        have HM2 := hide (HS7.out.mod.trans m2 (by simp))
        have HO2 := hide (ho.base HS7.out.mod.size)
        have HF := hide hf
        clear p0 f0 p1 f1 p2 f2 p3 f3 p4 f4 p5 f5 p6 f6 p7 f7 lF z0 r0 z1 r1 z2 r2 z3 r3 z4 r4 z5 r5 z6 r6 z7 r7 lR m2 ho hf
        have z0 : w8.cell? ⟨RB, 0, none⟩ = some (.int .u64 0) := HR2.out.cell 0
        have r0 : w8.frozen? ⟨RB, 0, none⟩ = false := HR2.out.frozen 0
        have z1 : w8.cell? ⟨RB, 1, none⟩ = some (.int .u64 0) := HR2.out.cell 1
        have r1 : w8.frozen? ⟨RB, 1, none⟩ = false := HR2.out.frozen 1
        have z2 : w8.cell? ⟨RB, 2, none⟩ = some (.int .u64 0) := HR2.out.cell 2
        have r2 : w8.frozen? ⟨RB, 2, none⟩ = false := HR2.out.frozen 2
        have z3 : w8.cell? ⟨RB, 3, none⟩ = some (.int .u64 0) := HR2.out.cell 3
        have r3 : w8.frozen? ⟨RB, 3, none⟩ = false := HR2.out.frozen 3
        have z4 : w8.cell? ⟨RB, 4, none⟩ = some (.bool false) := HR2.out.cell 4
        have r4 : w8.frozen? ⟨RB, 4, none⟩ = false := HR2.out.frozen 4
        have z5 : w8.cell? ⟨RB, 5, none⟩ = some (.string ⟨#[]⟩) := HR2.out.cell 5
        have r5 : w8.frozen? ⟨RB, 5, none⟩ = false := HR2.out.frozen 5
        have z6 : w8.cell? ⟨RB, 6, none⟩ = some (.string ⟨#[]⟩) := HR2.out.cell 6
        have r6 : w8.frozen? ⟨RB, 6, none⟩ = false := HR2.out.frozen 6
        have z7 : w8.cell? ⟨RB, 7, none⟩ = some (.slice none 0 0) := HR2.out.cell 7
        have r7 : w8.frozen? ⟨RB, 7, none⟩ = false := HR2.out.frozen 7
        have lR := HR2.out.lt
        unfold fcs
        go_wp2_with fail
        have HE := hide (HdP.fin2 (X := w8) (f := f') (A := A') (c := cc') (o := phead x.data.toList) (by rw [HPh2.out]; exact ⟨rfl, HF.out⟩) HO2.out hl HM2.out HR2.out HRBw.out)
        refine bodyPost_ret (results_cell_tmp_row rfl _ _ RB 26 (fcs A' f'.list.length cc' f') _ rfl ?_ Tryd.underlying26 rfl (by kernel_rfl)) rfl ?_
        · exact HE.out.1
        exact HE.out.2
    · have a1 := hb815
      have a2 := a3 rfl
      clear hb815 a3
      go_wp2_with fail
      have HSx := hide HS3.out
      refine (HN.out _).mono ?_
      rintro e0 w2 ⟨rfl, rfl⟩
      obtain ⟨X, hX⟩ : ∃ X, w1.alloc (.cells #[.int .u64 (n : Nat), .int .u64 0, .int .u64 0, .int .u64 0, .bool false, .string ⟨#[]⟩, .string ⟨#[]⟩, .slice none 0 0] 26) = X := ⟨_, rfl⟩
      rw [hX] at HSx
      rw [hX]
      have hF := HFe.out
      try rw [hF] at HSx
      try rw [hF]
      clear hX hF HS3 HFe z0 r0 z1 r1 z2 r2 z3 r3 z4 r4 z5 r5 z6 r6 z7 r7 lR
      have p0 : X.cell? ⟨F, 0, none⟩ = some (.int .u64 (n : Nat)) := HSx.out.fr.cell 0
      have f0 : X.frozen? ⟨F, 0, none⟩ = false := HSx.out.fr.frozen 0
      have p1 : X.cell? ⟨F, 1, none⟩ = some (.int .u64 0) := HSx.out.fr.cell 1
      have f1 : X.frozen? ⟨F, 1, none⟩ = false := HSx.out.fr.frozen 1
      have p2 : X.cell? ⟨F, 2, none⟩ = some (.int .u64 0) := HSx.out.fr.cell 2
      have f2 : X.frozen? ⟨F, 2, none⟩ = false := HSx.out.fr.frozen 2
      have p3 : X.cell? ⟨F, 3, none⟩ = some (.int .u64 0) := HSx.out.fr.cell 3
      have f3 : X.frozen? ⟨F, 3, none⟩ = false := HSx.out.fr.frozen 3
      have p4 : X.cell? ⟨F, 4, none⟩ = some (.bool false) := HSx.out.fr.cell 4
      have f4 : X.frozen? ⟨F, 4, none⟩ = false := HSx.out.fr.frozen 4
      have p5 : X.cell? ⟨F, 5, none⟩ = some (.string ⟨#[]⟩) := HSx.out.fr.cell 5
      have f5 : X.frozen? ⟨F, 5, none⟩ = false := HSx.out.fr.frozen 5
      have p6 : X.cell? ⟨F, 6, none⟩ = some (.string ⟨#[]⟩) := HSx.out.fr.cell 6
      have f6 : X.frozen? ⟨F, 6, none⟩ = false := HSx.out.fr.frozen 6
      have p7 : X.cell? ⟨F, 7, none⟩ = some (.slice none 0 0) := HSx.out.fr.cell 7
      have f7 : X.frozen? ⟨F, 7, none⟩ = false := HSx.out.fr.frozen 7
      have lF := HSx.out.fr.lt
      have z0 : X.cell? ⟨RB, 0, none⟩ = some (.int .u64 0) := HSx.out.rb.cell 0
      have r0 : X.frozen? ⟨RB, 0, none⟩ = false := HSx.out.rb.frozen 0
      have z1 : X.cell? ⟨RB, 1, none⟩ = some (.int .u64 0) := HSx.out.rb.cell 1
      have r1 : X.frozen? ⟨RB, 1, none⟩ = false := HSx.out.rb.frozen 1
      have z2 : X.cell? ⟨RB, 2, none⟩ = some (.int .u64 0) := HSx.out.rb.cell 2
      have r2 : X.frozen? ⟨RB, 2, none⟩ = false := HSx.out.rb.frozen 2
      have z3 : X.cell? ⟨RB, 3, none⟩ = some (.int .u64 0) := HSx.out.rb.cell 3
      have r3 : X.frozen? ⟨RB, 3, none⟩ = false := HSx.out.rb.frozen 3
      have z4 : X.cell? ⟨RB, 4, none⟩ = some (.bool false) := HSx.out.rb.cell 4
      have r4 : X.frozen? ⟨RB, 4, none⟩ = false := HSx.out.rb.frozen 4
      have z5 : X.cell? ⟨RB, 5, none⟩ = some (.string ⟨#[]⟩) := HSx.out.rb.cell 5
      have r5 : X.frozen? ⟨RB, 5, none⟩ = false := HSx.out.rb.frozen 5
      have z6 : X.cell? ⟨RB, 6, none⟩ = some (.string ⟨#[]⟩) := HSx.out.rb.cell 6
      have r6 : X.frozen? ⟨RB, 6, none⟩ = false := HSx.out.rb.frozen 6
      have z7 : X.cell? ⟨RB, 7, none⟩ = some (.slice none 0 0) := HSx.out.rb.cell 7
      have r7 : X.frozen? ⟨RB, 7, none⟩ = false := HSx.out.rb.frozen 7
      have lR := HSx.out.rb.lt
      have HTk := hide (fun w' => took_any w' T m (by omega))
      have HEn := hide (fun w' b0 b1 b2 S hS => ended_any w' n b0 b1 b2 false ⟨#[]⟩ ⟨#[]⟩ S hS)
      unfold fcs at HEn
      simp only at HEn
      go_wp2_with fail
      refine (HTk.out _).mono ?_
      rintro e0 w2 ⟨m2, hp⟩
      have HS2 := hide (HSx.out.new m2)
      clear m2 p0 f0 p1 f1 p2 f2 p3 f3 p4 f4 p5 f5 p6 f6 p7 f7 lF z0 r0 z1 r1 z2 r2 z3 r3 z4 r4 z5 r5 z6 r6 z7 r7 lR
      have p0 : w2.cell? ⟨F, 0, none⟩ = some (.int .u64 (n : Nat)) := HS2.out.fr.cell 0
      have f0 : w2.frozen? ⟨F, 0, none⟩ = false := HS2.out.fr.frozen 0
      have p1 : w2.cell? ⟨F, 1, none⟩ = some (.int .u64 0) := HS2.out.fr.cell 1
      have f1 : w2.frozen? ⟨F, 1, none⟩ = false := HS2.out.fr.frozen 1
      have p2 : w2.cell? ⟨F, 2, none⟩ = some (.int .u64 0) := HS2.out.fr.cell 2
      have f2 : w2.frozen? ⟨F, 2, none⟩ = false := HS2.out.fr.frozen 2
      have p3 : w2.cell? ⟨F, 3, none⟩ = some (.int .u64 0) := HS2.out.fr.cell 3
      have f3 : w2.frozen? ⟨F, 3, none⟩ = false := HS2.out.fr.frozen 3
      have p4 : w2.cell? ⟨F, 4, none⟩ = some (.bool false) := HS2.out.fr.cell 4
      have f4 : w2.frozen? ⟨F, 4, none⟩ = false := HS2.out.fr.frozen 4
      have p5 : w2.cell? ⟨F, 5, none⟩ = some (.string ⟨#[]⟩) := HS2.out.fr.cell 5
      have f5 : w2.frozen? ⟨F, 5, none⟩ = false := HS2.out.fr.frozen 5
      have p6 : w2.cell? ⟨F, 6, none⟩ = some (.string ⟨#[]⟩) := HS2.out.fr.cell 6
      have f6 : w2.frozen? ⟨F, 6, none⟩ = false := HS2.out.fr.frozen 6
      have p7 : w2.cell? ⟨F, 7, none⟩ = some (.slice none 0 0) := HS2.out.fr.cell 7
      have f7 : w2.frozen? ⟨F, 7, none⟩ = false := HS2.out.fr.frozen 7
      have lF := HS2.out.fr.lt
      have z0 : w2.cell? ⟨RB, 0, none⟩ = some (.int .u64 0) := HS2.out.rb.cell 0
      have r0 : w2.frozen? ⟨RB, 0, none⟩ = false := HS2.out.rb.frozen 0
      have z1 : w2.cell? ⟨RB, 1, none⟩ = some (.int .u64 0) := HS2.out.rb.cell 1
      have r1 : w2.frozen? ⟨RB, 1, none⟩ = false := HS2.out.rb.frozen 1
      have z2 : w2.cell? ⟨RB, 2, none⟩ = some (.int .u64 0) := HS2.out.rb.cell 2
      have r2 : w2.frozen? ⟨RB, 2, none⟩ = false := HS2.out.rb.frozen 2
      have z3 : w2.cell? ⟨RB, 3, none⟩ = some (.int .u64 0) := HS2.out.rb.cell 3
      have r3 : w2.frozen? ⟨RB, 3, none⟩ = false := HS2.out.rb.frozen 3
      have z4 : w2.cell? ⟨RB, 4, none⟩ = some (.bool false) := HS2.out.rb.cell 4
      have r4 : w2.frozen? ⟨RB, 4, none⟩ = false := HS2.out.rb.frozen 4
      have z5 : w2.cell? ⟨RB, 5, none⟩ = some (.string ⟨#[]⟩) := HS2.out.rb.cell 5
      have r5 : w2.frozen? ⟨RB, 5, none⟩ = false := HS2.out.rb.frozen 5
      have z6 : w2.cell? ⟨RB, 6, none⟩ = some (.string ⟨#[]⟩) := HS2.out.rb.cell 6
      have r6 : w2.frozen? ⟨RB, 6, none⟩ = false := HS2.out.rb.frozen 6
      have z7 : w2.cell? ⟨RB, 7, none⟩ = some (.slice none 0 0) := HS2.out.rb.cell 7
      have r7 : w2.frozen? ⟨RB, 7, none⟩ = false := HS2.out.rb.frozen 7
      have lR := HS2.out.rb.lt
      cases hv : vnums m T.data.toList with
      | none =>
        rw [hv] at hp
        simp only at hp
        subst hp
        have HV : Hid (HdV (phead x.data.toList) ⟨n, 0, 0, 0, false, ⟨#[]⟩, ⟨#[]⟩, []⟩ false) := hide (HdV.no (by rw [HPg.out, hv]; rfl))
        clear hv
        go_wp2_with fail
        have HE := hide (HdP.fin (X := w2) (f := ⟨n, 0, 0, 0, false, ⟨#[]⟩, ⟨#[]⟩, []⟩) HV.out rfl HS2.out.mod HS2.out.rb HRBw.out)
        refine bodyPost_ret (results_cell_tmp_row rfl _ _ RB 26 (fcs none 0 0 ⟨n, 0, 0, 0, false, ⟨#[]⟩, ⟨#[]⟩, []⟩) _ rfl ?_ Tryd.underlying26 rfl (by kernel_rfl)) rfl ?_
        · exact HE.out.1
        exact HE.out.2
      | some xx =>
        rw [hv] at hp
        obtain ⟨ns, r⟩ := xx
        obtain ⟨An, cn, rfl, hn⟩ := hp
        obtain ⟨hl, -, hrl⟩ := vnums_len m _ _ hv
        simp only at hl hrl hn
        obtain ⟨S, hS, hSz, hSl⟩ := putB2 r
        rw [hS, hl]
        have hSs : S.size ≤ 1000000 := by rw [hSz]; have := bytes_len T; omega
        obtain ⟨b0, hb0⟩ : ∃ b, ns.getD 0 0 = b := ⟨_, rfl⟩
        obtain ⟨b1, hb1⟩ : ∃ b, ns.getD 1 0 = b := ⟨_, rfl⟩
        obtain ⟨b2, hb2⟩ : ∃ b, ns.getD 2 0 = b := ⟨_, rfl⟩
        have HPh2 : Hid (phead x.data.toList = hended ⟨n, b0, b1, b2, false, ⟨#[]⟩, ⟨#[]⟩, []⟩ S.data.toList) := hide (by
          rw [HPg.out, hv, ← hb0, ← hb1, ← hb2, hSl]; rfl)
        have hpad := pad_at ns
        rw [hb0, hb1, hb2] at hpad
        obtain ⟨g', c', X6, hrun, hS6⟩ := (HS2.out.num_ (hn.base HSx.out.mod.size)).pad rfl (by omega) hl
        have HRun := hide hrun
        have HS6 := hide hS6
        have HS7 := hide (((hS6.set (g := ⟨n, b0, 0, 0, false, ⟨#[]⟩, ⟨#[]⟩, []⟩) HFw.out HFR.out 1 (.int .u64 (b0 : Nat)) rfl rfl).set (g := ⟨n, b0, b1, 0, false, ⟨#[]⟩, ⟨#[]⟩, []⟩) HFw.out HFR.out 2 (.int .u64 (b1 : Nat)) rfl rfl).set (g := ⟨n, b0, b1, b2, false, ⟨#[]⟩, ⟨#[]⟩, []⟩) HFw.out HFR.out 3 (.int .u64 (b2 : Nat)) rfl rfl)
        obtain ⟨_, hA, hgl, _, y0⟩ := hS6.num.at_ hpad.1
        cases hA
        obtain ⟨_, hA, _, _, y1⟩ := hS6.num.at_ hpad.2.1
        cases hA
        obtain ⟨_, hA, _, _, y2⟩ := hS6.num.at_ hpad.2.2
        cases hA
        have hwv : ¬ g' = F := fun e => hS6.num.ne hS6.fr (by decide) _ rfl e
        have hwv2 : ¬ F = g' := fun e => hwv e.symm
        have HEn2 := hide (fun w' => HEn.out w' b0 b1 b2 S hSs)
        clear hv hl hrl hn hS hSz hSl hb0 hb1 hb2 hpad hrun hS6 hSs HEn HTk
        clear p0 f0 p1 f1 p2 f2 p3 f3 p4 f4 p5 f5 p6 f6 p7 f7 lF z0 r0 z1 r1 z2 r2 z3 r3 z4 r4 z5 r5 z6 r6 z7 r7 lR
        have p0 : X6.cell? ⟨F, 0, none⟩ = some (.int .u64 (n : Nat)) := HS6.out.fr.cell 0
        have f0 : X6.frozen? ⟨F, 0, none⟩ = false := HS6.out.fr.frozen 0
        have p1 : X6.cell? ⟨F, 1, none⟩ = some (.int .u64 0) := HS6.out.fr.cell 1
        have f1 : X6.frozen? ⟨F, 1, none⟩ = false := HS6.out.fr.frozen 1
        have p2 : X6.cell? ⟨F, 2, none⟩ = some (.int .u64 0) := HS6.out.fr.cell 2
        have f2 : X6.frozen? ⟨F, 2, none⟩ = false := HS6.out.fr.frozen 2
        have p3 : X6.cell? ⟨F, 3, none⟩ = some (.int .u64 0) := HS6.out.fr.cell 3
        have f3 : X6.frozen? ⟨F, 3, none⟩ = false := HS6.out.fr.frozen 3
        have p4 : X6.cell? ⟨F, 4, none⟩ = some (.bool false) := HS6.out.fr.cell 4
        have f4 : X6.frozen? ⟨F, 4, none⟩ = false := HS6.out.fr.frozen 4
        have p5 : X6.cell? ⟨F, 5, none⟩ = some (.string ⟨#[]⟩) := HS6.out.fr.cell 5
        have f5 : X6.frozen? ⟨F, 5, none⟩ = false := HS6.out.fr.frozen 5
        have p6 : X6.cell? ⟨F, 6, none⟩ = some (.string ⟨#[]⟩) := HS6.out.fr.cell 6
        have f6 : X6.frozen? ⟨F, 6, none⟩ = false := HS6.out.fr.frozen 6
        have p7 : X6.cell? ⟨F, 7, none⟩ = some (.slice none 0 0) := HS6.out.fr.cell 7
        have f7 : X6.frozen? ⟨F, 7, none⟩ = false := HS6.out.fr.frozen 7
        have lF := HS6.out.fr.lt
        have z0 : X6.cell? ⟨RB, 0, none⟩ = some (.int .u64 0) := HS6.out.rb.cell 0
        have r0 : X6.frozen? ⟨RB, 0, none⟩ = false := HS6.out.rb.frozen 0
        have z1 : X6.cell? ⟨RB, 1, none⟩ = some (.int .u64 0) := HS6.out.rb.cell 1
        have r1 : X6.frozen? ⟨RB, 1, none⟩ = false := HS6.out.rb.frozen 1
        have z2 : X6.cell? ⟨RB, 2, none⟩ = some (.int .u64 0) := HS6.out.rb.cell 2
        have r2 : X6.frozen? ⟨RB, 2, none⟩ = false := HS6.out.rb.frozen 2
        have z3 : X6.cell? ⟨RB, 3, none⟩ = some (.int .u64 0) := HS6.out.rb.cell 3
        have r3 : X6.frozen? ⟨RB, 3, none⟩ = false := HS6.out.rb.frozen 3
        have z4 : X6.cell? ⟨RB, 4, none⟩ = some (.bool false) := HS6.out.rb.cell 4
        have r4 : X6.frozen? ⟨RB, 4, none⟩ = false := HS6.out.rb.frozen 4
        have z5 : X6.cell? ⟨RB, 5, none⟩ = some (.string ⟨#[]⟩) := HS6.out.rb.cell 5
        have r5 : X6.frozen? ⟨RB, 5, none⟩ = false := HS6.out.rb.frozen 5
        have z6 : X6.cell? ⟨RB, 6, none⟩ = some (.string ⟨#[]⟩) := HS6.out.rb.cell 6
        have r6 : X6.frozen? ⟨RB, 6, none⟩ = false := HS6.out.rb.frozen 6
        have z7 : X6.cell? ⟨RB, 7, none⟩ = some (.slice none 0 0) := HS6.out.rb.cell 7
        have r7 : X6.frozen? ⟨RB, 7, none⟩ = false := HS6.out.rb.frozen 7
        have lR := HS6.out.rb.lt
        go_wp2_with (at_builtin; refine Lib.wpList_append_run _ rfl (.tmp 95) (.tmp 96) 68 68 rfl (.slice An m cn) (.slice (some ⟨w2.heap.size, 0, none⟩) 3 3) rfl rfl _ X6 HRun.out ?_)
        try go_wp2_with fail
        obtain ⟨X7, hX7⟩ : ∃ X7, ((X6.setCell ⟨F, 1, none⟩ (.int .u64 (b0 : Nat))).setCell ⟨F, 2, none⟩ (.int .u64 (b1 : Nat))).setCell ⟨F, 3, none⟩ (.int .u64 (b2 : Nat)) = X7 := ⟨_, rfl⟩
        rw [hX7] at HS7
        rw [hX7]
        clear hX7 p0 f0 p1 f1 p2 f2 p3 f3 p4 f4 p5 f5 p6 f6 p7 f7 lF z0 r0 z1 r1 z2 r2 z3 r3 z4 r4 z5 r5 z6 r6 z7 r7 lR y0 y1 y2 hgl hwv hwv2
        have p0 : X7.cell? ⟨F, 0, none⟩ = some (.int .u64 (n : Nat)) := HS7.out.fr.cell 0
        have f0 : X7.frozen? ⟨F, 0, none⟩ = false := HS7.out.fr.frozen 0
        have p1 : X7.cell? ⟨F, 1, none⟩ = some (.int .u64 (b0 : Nat)) := HS7.out.fr.cell 1
        have f1 : X7.frozen? ⟨F, 1, none⟩ = false := HS7.out.fr.frozen 1
        have p2 : X7.cell? ⟨F, 2, none⟩ = some (.int .u64 (b1 : Nat)) := HS7.out.fr.cell 2
        have f2 : X7.frozen? ⟨F, 2, none⟩ = false := HS7.out.fr.frozen 2
        have p3 : X7.cell? ⟨F, 3, none⟩ = some (.int .u64 (b2 : Nat)) := HS7.out.fr.cell 3
        have f3 : X7.frozen? ⟨F, 3, none⟩ = false := HS7.out.fr.frozen 3
        have p4 : X7.cell? ⟨F, 4, none⟩ = some (.bool false) := HS7.out.fr.cell 4
        have f4 : X7.frozen? ⟨F, 4, none⟩ = false := HS7.out.fr.frozen 4
        have p5 : X7.cell? ⟨F, 5, none⟩ = some (.string ⟨#[]⟩) := HS7.out.fr.cell 5
        have f5 : X7.frozen? ⟨F, 5, none⟩ = false := HS7.out.fr.frozen 5
        have p6 : X7.cell? ⟨F, 6, none⟩ = some (.string ⟨#[]⟩) := HS7.out.fr.cell 6
        have f6 : X7.frozen? ⟨F, 6, none⟩ = false := HS7.out.fr.frozen 6
        have p7 : X7.cell? ⟨F, 7, none⟩ = some (.slice none 0 0) := HS7.out.fr.cell 7
        have f7 : X7.frozen? ⟨F, 7, none⟩ = false := HS7.out.fr.frozen 7
        have lF := HS7.out.fr.lt
        have z0 : X7.cell? ⟨RB, 0, none⟩ = some (.int .u64 0) := HS7.out.rb.cell 0
        have r0 : X7.frozen? ⟨RB, 0, none⟩ = false := HS7.out.rb.frozen 0
        have z1 : X7.cell? ⟨RB, 1, none⟩ = some (.int .u64 0) := HS7.out.rb.cell 1
        have r1 : X7.frozen? ⟨RB, 1, none⟩ = false := HS7.out.rb.frozen 1
        have z2 : X7.cell? ⟨RB, 2, none⟩ = some (.int .u64 0) := HS7.out.rb.cell 2
        have r2 : X7.frozen? ⟨RB, 2, none⟩ = false := HS7.out.rb.frozen 2
        have z3 : X7.cell? ⟨RB, 3, none⟩ = some (.int .u64 0) := HS7.out.rb.cell 3
        have r3 : X7.frozen? ⟨RB, 3, none⟩ = false := HS7.out.rb.frozen 3
        have z4 : X7.cell? ⟨RB, 4, none⟩ = some (.bool false) := HS7.out.rb.cell 4
        have r4 : X7.frozen? ⟨RB, 4, none⟩ = false := HS7.out.rb.frozen 4
        have z5 : X7.cell? ⟨RB, 5, none⟩ = some (.string ⟨#[]⟩) := HS7.out.rb.cell 5
        have r5 : X7.frozen? ⟨RB, 5, none⟩ = false := HS7.out.rb.frozen 5
        have z6 : X7.cell? ⟨RB, 6, none⟩ = some (.string ⟨#[]⟩) := HS7.out.rb.cell 6
        have r6 : X7.frozen? ⟨RB, 6, none⟩ = false := HS7.out.rb.frozen 6
        have z7 : X7.cell? ⟨RB, 7, none⟩ = some (.slice none 0 0) := HS7.out.rb.cell 7
        have r7 : X7.frozen? ⟨RB, 7, none⟩ = false := HS7.out.rb.frozen 7
        have lR := HS7.out.rb.lt
        refine (HEn2.out _).mono ?_
        rintro e0 w8 ⟨f', A', cc', rfl, hf, ho, hl, m2⟩
        have HR2 := hide (m2.blk HS7.out.rb (by simp))
        have HM2 := hide (HS7.out.mod.trans m2 (by simp))
        have HO2 := hide (ho.base HS7.out.mod.size)
        have HF := hide hf
        clear p0 f0 p1 f1 p2 f2 p3 f3 p4 f4 p5 f5 p6 f6 p7 f7 lF z0 r0 z1 r1 z2 r2 z3 r3 z4 r4 z5 r5 z6 r6 z7 r7 lR m2 ho hf
        have z0 : w8.cell? ⟨RB, 0, none⟩ = some (.int .u64 0) := HR2.out.cell 0
        have r0 : w8.frozen? ⟨RB, 0, none⟩ = false := HR2.out.frozen 0
        have z1 : w8.cell? ⟨RB, 1, none⟩ = some (.int .u64 0) := HR2.out.cell 1
        have r1 : w8.frozen? ⟨RB, 1, none⟩ = false := HR2.out.frozen 1
        have z2 : w8.cell? ⟨RB, 2, none⟩ = some (.int .u64 0) := HR2.out.cell 2
        have r2 : w8.frozen? ⟨RB, 2, none⟩ = false := HR2.out.frozen 2
        have z3 : w8.cell? ⟨RB, 3, none⟩ = some (.int .u64 0) := HR2.out.cell 3
        have r3 : w8.frozen? ⟨RB, 3, none⟩ = false := HR2.out.frozen 3
        have z4 : w8.cell? ⟨RB, 4, none⟩ = some (.bool false) := HR2.out.cell 4
        have r4 : w8.frozen? ⟨RB, 4, none⟩ = false := HR2.out.frozen 4
        have z5 : w8.cell? ⟨RB, 5, none⟩ = some (.string ⟨#[]⟩) := HR2.out.cell 5
        have r5 : w8.frozen? ⟨RB, 5, none⟩ = false := HR2.out.frozen 5
        have z6 : w8.cell? ⟨RB, 6, none⟩ = some (.string ⟨#[]⟩) := HR2.out.cell 6
        have r6 : w8.frozen? ⟨RB, 6, none⟩ = false := HR2.out.frozen 6
        have z7 : w8.cell? ⟨RB, 7, none⟩ = some (.slice none 0 0) := HR2.out.cell 7
        have r7 : w8.frozen? ⟨RB, 7, none⟩ = false := HR2.out.frozen 7
        have lR := HR2.out.lt
        unfold fcs
        go_wp2_with fail
        have HE := hide (HdP.fin2 (X := w8) (f := f') (A := A') (c := cc') (o := phead x.data.toList) (by rw [HPh2.out]; exact ⟨rfl, HF.out⟩) HO2.out hl HM2.out HR2.out HRBw.out)
        refine bodyPost_ret (results_cell_tmp_row rfl _ _ RB 26 (fcs A' f'.list.length cc' f') _ rfl ?_ Tryd.underlying26 rfl (by kernel_rfl)) rfl ?_
        · exact HE.out.1
        exact HE.out.2
end Go.Proofs.YtbjmcnmcodbkdaaDoor
