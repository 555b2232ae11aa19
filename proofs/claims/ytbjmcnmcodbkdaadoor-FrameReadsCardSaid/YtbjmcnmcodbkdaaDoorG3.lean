/-
  Contracts and plain laws that the proofs of this seat share, part 3 of 8: FrRng, FrOwn, FrOwn2, FrMay, FrStr, Bld.
-/
import Derived.Test.YtbjmcnmcodbkdaaDoorG2
import Derived.Laws.Cover1
import Derived.Deep.RegionHeld3
import Derived.Test.YtbjmcnmcodbkdaaDoorProg
import Derived.Test.YtbjmcnmcodbkdaaDoorG1
import Derived.Shelf.Strings.BuilderK

/-
  frames: ranges; acks; limits.
-/
namespace Go.Proofs.YtbjmcnmcodbkdaaDoor
open Go.RowKit

def prevOf (l : List (Nat × Nat)) (j : Nat) : Option Nat := match j with | 0 => none | k + 1 => (l[k]?).map (·.1)
def condOk (prev : Option Nat) (r : Nat × Nat) : Bool := decide (r.1 ≤ r.2) && decide (r.2 < 4611686018427387904) && (match prev with | none => true | some p => decide (2 ≤ p) && decide (r.2 ≤ p - 2))
theorem rngOk_step {l : List (Nat × Nat)} {j : Nat} (hj : j < l.length) : rngOk (prevOf l j) (l.drop j) = (condOk (prevOf l j) l[j] && rngOk (prevOf l (j + 1)) (l.drop (j + 1))) := by
  rw [List.drop_eq_getElem_cons hj]
  have : prevOf l (j + 1) = some l[j].1 := by
    unfold prevOf
    simp only
    rw [List.getElem?_eq_getElem hj]; rfl
  rw [this]
  conv => lhs; unfold rngOk
  rfl
def RPost (w : World) (v : Bool) (e : Ending) (w' : World) : Prop := e = .returned (.bool v) ∧ Mod [] w w'

set_option maxRecDepth 100000 in
set_option maxHeartbeats 4000000 in
theorem ranges_any (w : World) (A : Option Addr) (n c : Nat) (l : List (Nat × Nat)) (h : Rngs w A n l) (v : Bool) (hv : rngs l = v) :
    Calls Tryd.prog 78 #[.slice A n c] w (RPost w v) := by
  have hn1 := h.2.1
  have hln := h.1
  have hv2 : v = (rngOk none l && (decide (1 ≤ n) && decide (n ≤ 64))) := by rw [← hv, ← hln]; rfl
  have HV := hide hv2
  have HL := hide h
  have HLn := hide hln
  clear hv hv2 h hln
  go_enter Tryd.func78, Tryd.ntmps78
  go_wp2_with fail
  go_loopw [7] (fun iv wr => ∃ j : Nat, j ≤ n ∧ iv = .int .i64 (j : Int) ∧ Hid (rngOk none l = rngOk (prevOf l j) (l.drop j)) ∧ Hid (∀ p, prevOf l j = some p → p < 4611686018427387904) ∧ Mod [] w wr) (fun iv _ => n - (intOf iv).toNat)
  case atStart => exact ⟨0, by omega, rfl, hide rfl, hide (fun p hp => by cases hp), Mod.refl _ _⟩
  case round =>
    obtain ⟨j, hj, rfl, hC, hPb, hm⟩ := hrel
    by_cases h : j < n
    · obtain ⟨g, o, hjl, rfl, hgl, c0, c1⟩ := (HL.out.new hm).at_ h
      have hstep := rngOk_step hjl
      rw [← hC.out] at hstep
      have hbx : Blk (wr.alloc (.cells #[.int .u64 (l[j].1 : Nat), .int .u64 (l[j].2 : Nat)] 47)) wr.heap.size 47 #[.int .u64 (l[j].1 : Nat), .int .u64 (l[j].2 : Nat)] := Blk.new _ _ _
      have hm2 := hm.alloc (.cells #[.int .u64 (l[j].1 : Nat), .int .u64 (l[j].2 : Nat)] 47)
      have hprev : 0 < j → ∃ p, prevOf l j = some p ∧ wr.cell? ⟨g, o + (j - 1) * 2, none⟩ = some (.int .u64 (p : Nat)) := fun h0 => by
        obtain ⟨g', o', hkl, he, _, d0, _⟩ := (HL.out.new hm).at_ (i := j - 1) (by omega)
        cases he
        refine ⟨l[j - 1].1, ?_, d0⟩
        obtain ⟨k, rfl⟩ : ∃ k, j = k + 1 := ⟨j - 1, by omega⟩
        unfold prevOf
        simp only [Nat.add_sub_cancel]
        rw [List.getElem?_eq_getElem (by omega)]; rfl
      have hnp : prevOf l (j + 1) = some l[j].1 := by
        unfold prevOf
        simp only
        rw [List.getElem?_eq_getElem hjl]; rfl
      obtain ⟨lo, hlo⟩ : ∃ x, l[j].1 = x := ⟨_, rfl⟩
      obtain ⟨hi, hhi⟩ : ∃ x, l[j].2 = x := ⟨_, rfl⟩
      rw [hlo] at c0 hbx hm2 hnp
      rw [hhi] at c1 hbx hm2
      have hcond : condOk (prevOf l j) l[j] = (decide (lo ≤ hi) && decide (hi < 4611686018427387904) && (match prevOf l j with | none => true | some p => decide (2 ≤ p) && decide (hi ≤ p - 2))) := by
        unfold condOk; rw [hlo, hhi]
      rw [hcond] at hstep
      have hvf : ∀ X : Bool, X = false → rngOk none l = (X && rngOk (prevOf l (j + 1)) (l.drop (j + 1))) → v = false := fun X hX he => by
        rw [HV.out, he, hX]; rfl
      have b0 := hbx.cell 0
      have b1 := hbx.cell 1
      have HB := hide hbx
      have HM2 := hide hm2
      have HVf := hide hvf
      have HPrev := hide hprev
      have HStep := hide hstep
      have HNp := hide hnp
      have hbl := hbx.lt
      clear hC hprev hstep hcond hlo hhi hbx hm2 hvf hjl hnp
      have q0 : (wr.alloc (.cells #[.int .u64 (lo : Nat), .int .u64 (hi : Nat)] 47)).cell? ⟨wr.heap.size, 0, none⟩ = some (.int .u64 (lo : Nat)) := b0
      have q1 : (wr.alloc (.cells #[.int .u64 (lo : Nat), .int .u64 (hi : Nat)] 47)).cell? ⟨wr.heap.size, 1, none⟩ = some (.int .u64 (hi : Nat)) := b1
      clear b0 b1
      by_cases h1 : hi < lo
      · have hf := HVf.out _ (by rw [decide_eq_false (show ¬ lo ≤ hi by omega)]; rfl) HStep.out
        have HF := hide hf
        have d1 : decide ((hi : Int) < lo) = true := decide_eq_true (by omega)
        have d2 : decide (hi < lo) = true := decide_eq_true h1
        clear hf HVf HStep HPrev hm
        go_wp2_with fail
        go_quiet (fail)
        go_wp2_with fail
        go_ret
        exact ⟨by rw [HF.out]; rfl, HM2.out.drewN _⟩
      have d1 : decide ((hi : Int) < lo) = false := decide_eq_false (by omega)
      have d2 : decide (hi < lo) = false := decide_eq_false h1
      by_cases h2 : 4611686018427387903 < hi
      · have hf := HVf.out _ (by rw [decide_eq_false (show ¬ hi < 4611686018427387904 by omega)]; simp) HStep.out
        have HF := hide hf
        have d3 : decide ((4611686018427387903 : Int) < hi) = true := decide_eq_true (by omega)
        have d4 : decide (4611686018427387903 < hi) = true := decide_eq_true h2
        clear hf HVf HStep HPrev hm
        go_wp2_with fail
        go_quiet (fail)
        go_wp2_with fail
        go_ret
        exact ⟨by rw [HF.out]; rfl, HM2.out.drewN _⟩
      have d3 : decide ((4611686018427387903 : Int) < hi) = false := decide_eq_false (by omega)
      have d4 : decide (4611686018427387903 < hi) = false := decide_eq_false h2
      by_cases h0 : 0 < j
      · obtain ⟨p, hp, cp⟩ := HPrev.out h0
        rw [hp] at HStep
        have e1 : (j : Int) - 1 = ((j - 1 : Nat) : Int) := by omega
        have hw1 : IntKind.i64.wrap ((j : Int) - 1) = ((j - 1 : Nat) : Int) := by rw [e1]; exact IntWalk.i64_in _ (by omega)
        have h0d : decide ((0 : Int) < j) = true := decide_eq_true (by omega)
        have h0n : decide (0 < j) = true := decide_eq_true h0
        have hjm : ((j - 1 : Nat) : Int) < n := by omega
        have HPp := hide hp
        clear hp
        by_cases h3 : p < 2
        · have hf := HVf.out _ (by simp only; rw [decide_eq_false (show ¬ 2 ≤ p by omega)]; simp) HStep.out
          have HF := hide hf
          have d5 : decide ((p : Int) < 2) = true := decide_eq_true (by omega)
          have d6 : decide (p < 2) = true := decide_eq_true h3
          clear hf HVf HStep HPrev hm
          go_wp2_with fail
          go_quiet (fail)
          go_wp2_with fail
          go_ret
          exact ⟨by rw [HF.out]; rfl, HM2.out.drewN _⟩
        · have d5 : decide ((p : Int) < 2) = false := decide_eq_false (by omega)
          have d6 : decide (p < 2) = false := decide_eq_false h3
          obtain ⟨p2, hp2⟩ : ∃ p2, p = p2 + 2 := ⟨p - 2, by omega⟩
          have HP2 := hide hp2
          have hsub : (p : Int) - 2 = (p2 : Int) := by omega
          have hp64 : p < 4611686018427387904 := hPb.out p HPp.out
          by_cases h4 : p2 < hi
          · have hf := HVf.out _ (by simp only; rw [decide_eq_false (show ¬ hi ≤ p - 2 by omega)]; simp) HStep.out
            have HF := hide hf
            have d7 : decide ((p2 : Int) < hi) = true := decide_eq_true (by omega)
            have d8 : decide (p2 < hi) = true := decide_eq_true h4
            have hw2 : IntKind.u64.wrap ((p : Int) - 2) = (p2 : Int) := by rw [hsub]; exact IntWalk.u64_in _ (by omega)
            clear hf HVf HStep HPrev hm hp2
            go_wp2_with fail
            go_quiet (fail)
            go_wp2_with fail
            go_ret
            exact ⟨by rw [HF.out]; rfl, HM2.out.drewN _⟩
          · have d7 : decide ((p2 : Int) < hi) = false := decide_eq_false (by omega)
            have d8 : decide (p2 < hi) = false := decide_eq_false h4
            have hw2 : IntKind.u64.wrap ((p : Int) - 2) = (p2 : Int) := by rw [hsub]; exact IntWalk.u64_in _ (by omega)
            have hnx : rngOk none l = rngOk (prevOf l (j + 1)) (l.drop (j + 1)) := by
              rw [HStep.out]
              simp only
              rw [decide_eq_true (show lo ≤ hi by omega), decide_eq_true (show hi < 4611686018427387904 by omega), decide_eq_true (show 2 ≤ p by omega), decide_eq_true (show hi ≤ p - 2 by omega)]
              simp
            have HNx := hide hnx
            have HPn : Hid (∀ p, prevOf l (j + 1) = some p → p < 4611686018427387904) := hide (fun p hp => by rw [HNp.out] at hp; cases hp; omega)
            clear HVf HStep HPrev hm hp2 hnx hPb
            go_wp2_with fail
            go_quiet (fail)
            go_wp2_with fail
            go_roundw
            case rel => exact ⟨j + 1, by omega, by go_num, HNx, HPn, HM2.out.drewN _⟩
            case measure => simp [intOf]; omega
      · have hj0 : j = 0 := by omega
        subst hj0
        have hnx : rngOk none l = rngOk (prevOf l 1) (l.drop 1) := by
          rw [HStep.out]
          have : prevOf l 0 = none := rfl
          rw [this]
          simp only
          rw [decide_eq_true (show lo ≤ hi by omega), decide_eq_true (show hi < 4611686018427387904 by omega)]
          simp
        have HNx := hide hnx
        have HPn : Hid (∀ p, prevOf l 1 = some p → p < 4611686018427387904) := hide (fun p hp => by rw [HNp.out] at hp; cases hp; omega)
        simp only [Nat.zero_mul, Nat.add_zero] at c0 c1
        clear HVf HStep HPrev hm hnx hPb
        go_wp2_with fail
        go_quiet (fail)
        go_wp2_with fail
        go_roundw
        case rel => exact ⟨1, by omega, by go_num, HNx, HPn, HM2.out.drewN _⟩
        case measure => simp [intOf]; omega
    · have hjn : j = n := by omega
      subst hjn
      have hv3 : v = (decide (1 ≤ j) && decide (j ≤ 64)) := by
        rw [HV.out, hC.out, List.drop_of_length_le (by rw [HLn.out]; exact Nat.le_refl _)]
        rfl
      have HV3 := hide hv3
      clear hv3 hC hPb
      by_cases h1 : 0 < j
      · have d1 : decide ((0 : Int) < j) = true := decide_eq_true (by omega)
        have d2 : decide (0 < j) = true := decide_eq_true h1
        go_wp2_with fail
        go_ret
        refine ⟨rbool ?_, hm⟩
        rw [HV3.out, decide_eq_true (show 1 ≤ j by omega), Bool.true_and]
        exact decide_eq_decide.2 (by omega)
      · have d1 : decide ((0 : Int) < j) = false := decide_eq_false (by omega)
        have d2 : decide (0 < j) = false := decide_eq_false h1
        go_wp2_with fail
        go_ret
        refine ⟨rbool ?_, hm⟩
        rw [HV3.out, decide_eq_false (show ¬ 1 ≤ j by omega)]
        rfl
end Go.Proofs.YtbjmcnmcodbkdaaDoor

/-
  frames: acks, limits, own.
-/
namespace Go.Proofs.YtbjmcnmcodbkdaaDoor
open Go.RowKit

def fbox (w : World) (A : Option Addr) (n c : Nat) (f : Fr) : World := w.alloc (.cells (fcs A n c f) 26)
theorem RPost.of {w w' : World} {v u : Bool} (h : v = u) (hm : Mod [] w w') : RPost w v (.returned (.bool u)) w' := ⟨by rw [h], hm⟩
theorem empty_false {S : ByteArray} (h : S.size ≠ 0) : S.toList.isEmpty = false := by rw [empty_size]; exact decide_eq_false h
theorem empty_true {S : ByteArray} (h : S.size = 0) : S.toList.isEmpty = true := by rw [empty_size]; exact decide_eq_true h

set_option maxRecDepth 100000 in
set_option maxHeartbeats 8000000 in
theorem acks_any (w : World) (A : Option Addr) (n c : Nat) (f : Fr) (hr : Rngs w A n f.list) (v : Bool) (hv : facks f = v) :
    Calls Tryd.prog 59 #[fval A n c f] w (RPost w v) := by
  have hr2 := hr.new ((Mod.refl [] w).alloc (.cells (fcs A n c f) 26))
  have HR := hide hr2
  have hun : v = ((if f.kind = 3 then decide (f.more.size = 8) && decide (numF 0 f.more.data.toList < 4611686018427387904) else decide (f.b = 0) && decide (f.c = 0) && decide (f.more.size = 0)) &&
    (!f.fin && decide (f.data.size = 0) && rngs f.list)) := by rw [← hv]; rfl
  have HV := hide hun
  have hml : (8 : Nat) = f.more.size → f.more.size ≤ 8 := fun h => by omega
  have HBx := hide (Blk.new w 26 (fcs A n c f))
  clear hr hr2 hv hun
  unfold fval fcs at *
  have tailF : f.fin = true → ∀ X : Bool, (X && (!f.fin && decide (f.data.size = 0) && rngs f.list)) = false := fun h X => by rw [h]; simp
  have tailD : f.data.size ≠ 0 → ∀ X : Bool, (X && (!f.fin && decide (f.data.size = 0) && rngs f.list)) = false := fun h X => by rw [decide_eq_false h]; simp
  have tailO : f.fin = false → f.data.size = 0 → (true && (!f.fin && decide (f.data.size = 0) && rngs f.list)) = rngs f.list := fun h h2 => by rw [h, decide_eq_true h2]; rfl
  have TF := hide tailF
  have TD := hide tailD
  have TO := hide tailO
  obtain ⟨fin, hfin⟩ : ∃ b, f.fin = b := ⟨_, rfl⟩
  have HFin := hide hfin
  rw [hfin] at HR HBx ⊢
  clear tailF tailD tailO hfin
  by_cases hk : f.kind = 3
  · have hkb : ((f.kind : Int) == 3) = true := by simp; omega
    by_cases h8 : f.more.size = 8
    rotate_left
    · have HVf : Hid (v = false) := hide (by rw [HV.out, if_pos hk, decide_eq_false h8]; rfl)
      have m8 : ((f.more.size : Int) != 8) = true := by simp; omega
      clear hk h8
      go_enter Tryd.func59, Tryd.ntmps59
      go_wp2_with fail
      go_ret
      exact RPost.of HVf.out ((Mod.refl _ _).alloc _)
    obtain ⟨N, hN⟩ : ∃ N, numF 0 f.more.data.toList = N := ⟨_, rfl⟩
    have HNum := hide (fun w => number_any w f.more (by omega))
    have m8 : ((f.more.size : Int) != 8) = false := by simp; omega
    have HN := hide hN
    by_cases hN2 : 4611686018427387903 < N
    · have HVf : Hid (v = false) := hide (by rw [HV.out, if_pos hk, hN, decide_eq_false (show ¬ N < 4611686018427387904 by omega)]; simp)
      have hN3 : (4611686018427387903 : Int) < N := by omega
      clear hk h8 hN
      go_enter Tryd.func59, Tryd.ntmps59
      go_wp2_with fail
      refine (HNum.out _).mono ?_
      rintro e w1 ⟨rfl, m1⟩
      rw [HN.out]
      go_wp2_with fail
      go_ret
      exact RPost.of HVf.out (((Mod.refl _ _).alloc _).trans m1 (by simp))
    have HX : Hid ((if f.kind = 3 then decide (f.more.size = 8) && decide (numF 0 f.more.data.toList < 4611686018427387904) else decide (f.b = 0) && decide (f.c = 0) && decide (f.more.size = 0)) = true) := hide (by
      rw [if_pos hk, hN, decide_eq_true h8, decide_eq_true (show N < 4611686018427387904 by omega)]; rfl)
    have hN3 : ¬ (4611686018427387903 : Int) < N := by omega
    clear hk h8 hN
    cases fin
    · by_cases hds : f.data.size = 0
      · have de := empty_true hds
        have HVf : Hid (v = rngs f.list) := hide (by rw [HV.out, HX.out]; exact TO.out HFin.out hds)
        go_enter Tryd.func59, Tryd.ntmps59
        go_wp2_with fail
        refine (HNum.out _).mono ?_
        rintro e w1 ⟨rfl, m1⟩
        rw [HN.out]
        have hbx := m1.blk HBx.out (by simp)
        have p4 := hbx.cell 4
        have p5 : w1.cell? ⟨w.heap.size, 5, none⟩ = some (.string f.data) := hbx.cell 5
        have p7 : w1.cell? ⟨w.heap.size, 7, none⟩ = some (.slice A n c) := hbx.cell 7
        have pl := hbx.lt
        simp only [List.getElem?_toArray, List.getElem?_cons_succ, List.getElem?_cons_zero] at p4
        clear hbx
        go_wp2_with fail
        refine (ranges_any _ A n c f.list (HR.out.new m1) v HVf.out.symm).mono ?_
        rintro e w' ⟨rfl, m2⟩
        go_wp2_with fail
        go_ret
        exact RPost.of rfl ((((Mod.refl _ _).alloc _).trans m1 (by simp)).trans m2 (by simp))
      · have de := empty_false hds
        have HVf : Hid (v = false) := hide (by rw [HV.out]; exact TD.out hds _)
        go_enter Tryd.func59, Tryd.ntmps59
        go_wp2_with fail
        refine (HNum.out _).mono ?_
        rintro e w1 ⟨rfl, m1⟩
        rw [HN.out]
        have hbx := m1.blk HBx.out (by simp)
        have p4 := hbx.cell 4
        have p5 : w1.cell? ⟨w.heap.size, 5, none⟩ = some (.string f.data) := hbx.cell 5
        have p7 : w1.cell? ⟨w.heap.size, 7, none⟩ = some (.slice A n c) := hbx.cell 7
        have pl := hbx.lt
        simp only [List.getElem?_toArray, List.getElem?_cons_succ, List.getElem?_cons_zero] at p4
        clear hbx
        go_wp2_with fail
        go_ret
        exact RPost.of HVf.out ((((Mod.refl _ _).alloc _).trans m1 (by simp)))
    · have HVf : Hid (v = false) := hide (by rw [HV.out]; exact TF.out HFin.out _)
      go_enter Tryd.func59, Tryd.ntmps59
      go_wp2_with fail
      refine (HNum.out _).mono ?_
      rintro e w1 ⟨rfl, m1⟩
      rw [HN.out]
      have hbx := m1.blk HBx.out (by simp)
      have p4 := hbx.cell 4
      have p5 : w1.cell? ⟨w.heap.size, 5, none⟩ = some (.string f.data) := hbx.cell 5
      have p7 : w1.cell? ⟨w.heap.size, 7, none⟩ = some (.slice A n c) := hbx.cell 7
      have pl := hbx.lt
      simp only [List.getElem?_toArray, List.getElem?_cons_succ, List.getElem?_cons_zero] at p4
      clear hbx
      go_wp2_with fail
      go_ret
      exact RPost.of HVf.out ((((Mod.refl _ _).alloc _).trans m1 (by simp)))
  · have hkb : ((f.kind : Int) == 3) = false := by simp; omega
    by_cases hb : f.b = 0
    rotate_left
    · have HVf : Hid (v = false) := hide (by rw [HV.out, if_neg hk, decide_eq_false hb]; rfl)
      have hb1 : ((f.b : Int) != 0) = true := by simp; omega
      clear hk hb
      go_enter Tryd.func59, Tryd.ntmps59
      go_wp2_with fail
      go_ret
      exact RPost.of HVf.out ((Mod.refl _ _).alloc _)
    have hb1 : ((f.b : Int) != 0) = false := by simp; omega
    by_cases hc : f.c = 0
    rotate_left
    · have HVf : Hid (v = false) := hide (by rw [HV.out, if_neg hk, decide_eq_false hc]; simp)
      have hc1 : ((f.c : Int) != 0) = true := by simp; omega
      clear hk hb hc
      go_enter Tryd.func59, Tryd.ntmps59
      go_wp2_with fail
      go_ret
      exact RPost.of HVf.out ((Mod.refl _ _).alloc _)
    have hc1 : ((f.c : Int) != 0) = false := by simp; omega
    by_cases hmm : f.more.size = 0
    rotate_left
    · have HVf : Hid (v = false) := hide (by rw [HV.out, if_neg hk, decide_eq_false hmm]; simp)
      have me := empty_false hmm
      clear hk hb hc hmm
      go_enter Tryd.func59, Tryd.ntmps59
      go_wp2_with fail
      go_ret
      exact RPost.of HVf.out ((Mod.refl _ _).alloc _)
    have me := empty_true hmm
    have HX : Hid ((if f.kind = 3 then decide (f.more.size = 8) && decide (numF 0 f.more.data.toList < 4611686018427387904) else decide (f.b = 0) && decide (f.c = 0) && decide (f.more.size = 0)) = true) := hide (by
      rw [if_neg hk, decide_eq_true hb, decide_eq_true hc, decide_eq_true hmm]; rfl)
    clear hk hb hc hmm
    cases fin
    · by_cases hds : f.data.size = 0
      · have de := empty_true hds
        have HVf : Hid (v = rngs f.list) := hide (by rw [HV.out, HX.out]; exact TO.out HFin.out hds)
        go_enter Tryd.func59, Tryd.ntmps59
        go_wp2_with fail
        refine (ranges_any _ A n c f.list (HR.out) v HVf.out.symm).mono ?_
        rintro e w' ⟨rfl, m2⟩
        go_wp2_with fail
        go_ret
        exact RPost.of rfl (((Mod.refl _ _).alloc _).trans m2 (by simp))
      · have de := empty_false hds
        have HVf : Hid (v = false) := hide (by rw [HV.out]; exact TD.out hds _)
        go_enter Tryd.func59, Tryd.ntmps59
        go_wp2_with fail
        go_ret
        exact RPost.of HVf.out (((Mod.refl _ _).alloc _))
    · have HVf : Hid (v = false) := hide (by rw [HV.out]; exact TF.out HFin.out _)
      go_enter Tryd.func59, Tryd.ntmps59
      go_wp2_with fail
      go_ret
      exact RPost.of HVf.out (((Mod.refl _ _).alloc _))

set_option maxRecDepth 100000 in
set_option maxHeartbeats 8000000 in
theorem limits_any (w : World) (A : Option Addr) (n c : Nat) (f : Fr) (ha : f.a < 4611686018427387904) (hd : f.data.size ≤ 16384) (v : Bool) (hv : flimits f = v) :
    Calls Tryd.prog 40 #[fval A n c f] w (RPost w v) := by
  have hun : v = (if f.kind = 18 ∨ f.kind = 19 ∨ f.kind = 22 ∨ f.kind = 23 then decide (f.a ≤ 1152921504606846976)
    else if f.kind = 7 then decide (f.data.size ≠ 0) else if f.kind = 6 then decide (f.a + f.data.size < 4611686018427387904) else true) := by rw [← hv]; rfl
  have HV := hide hun
  obtain ⟨k, hk⟩ : ∃ k, f.kind = k := ⟨_, rfl⟩
  rw [hk] at HV
  clear hv hun
  unfold fval fcs
  rw [hk]
  clear hk
  by_cases h1 : k = 18 ∨ k = 19 ∨ k = 22 ∨ k = 23
  · have HVf : Hid (v = decide (f.a ≤ 1152921504606846976)) := hide (by rw [HV.out, if_pos h1])
    clear HV
    rcases h1 with rfl | rfl | rfl | rfl
    all_goals
      go_enter Tryd.func40, Tryd.ntmps40
      go_wp2_with fail
      go_ret
      refine RPost.of ?_ ((Mod.refl _ _).alloc _)
      rw [HVf.out]
      exact decide_eq_decide.2 (by omega)
  by_cases h7 : k = 7
  · subst h7
    have HVf : Hid (v = decide (f.data.size ≠ 0)) := hide (by rw [HV.out, if_neg h1, if_pos rfl])
    clear HV h1
    by_cases hz : f.data.size = 0
    · have e := empty_true hz
      have HVg : Hid (v = false) := hide (by rw [HVf.out, hz]; rfl)
      clear HVf hz
      go_enter Tryd.func40, Tryd.ntmps40
      go_wp2_with fail
      go_ret
      exact RPost.of HVg.out ((Mod.refl _ _).alloc _)
    · have e := empty_false hz
      have HVg : Hid (v = true) := hide (by rw [HVf.out]; exact decide_eq_true hz)
      clear HVf hz
      go_enter Tryd.func40, Tryd.ntmps40
      go_wp2_with fail
      go_ret
      exact RPost.of HVg.out ((Mod.refl _ _).alloc _)
  by_cases h6 : k = 6
  · subst h6
    have HVf : Hid (v = decide (f.a + f.data.size < 4611686018427387904)) := hide (by rw [HV.out, if_neg h1, if_neg h7, if_pos rfl])
    clear HV h1 h7
    go_enter Tryd.func40, Tryd.ntmps40
    go_wp2_with fail
    go_ret
    refine RPost.of ?_ ((Mod.refl _ _).alloc _)
    rw [HVf.out]
    exact decide_eq_decide.2 (by omega)
  · have HVf : Hid (v = true) := hide (by rw [HV.out, if_neg h1, if_neg h7, if_neg h6])
    have e18 : ((k : Int) == 18) = false := by simp; omega
    have e19 : ((k : Int) == 19) = false := by simp; omega
    have e22 : ((k : Int) == 22) = false := by simp; omega
    have e23 : ((k : Int) == 23) = false := by simp; omega
    have e7 : ((k : Int) == 7) = false := by simp; omega
    have e6 : ((k : Int) == 6) = false := by simp; omega
    clear HV h1 h7 h6
    go_enter Tryd.func40, Tryd.ntmps40
    go_wp2_with fail
    go_ret
    exact RPost.of HVf.out ((Mod.refl _ _).alloc _)
end Go.Proofs.YtbjmcnmcodbkdaaDoor

/-
  frames: own.
-/
namespace Go.Proofs.YtbjmcnmcodbkdaaDoor
open Go.RowKit

theorem fown0 {f : Fr} (hk : f.kind = 0) : fown f = (decide (1 ≤ f.a) && decide (f.a ≤ 16384) && decide (f.list = []) && fsame f ⟨0, f.a, 0, 0, false, ⟨#[]⟩, ⟨#[]⟩, []⟩) := by
  rw [Bool.eq_iff_iff]
  constructor
  · intro h
    obtain ⟨h1, h2, h3⟩ := own0 hk h
    simp only [Bool.and_eq_true, decide_eq_true_eq]
    exact ⟨⟨⟨h1, h2⟩, by rw [h3]⟩, fsame_iff.2 h3⟩
  · intro h
    simp only [Bool.and_eq_true, decide_eq_true_eq] at h
    obtain ⟨⟨⟨h1, h2⟩, h3⟩, h4⟩ := h
    have h5 := fsame_iff.1 h4
    rw [h5]
    unfold fown
    simp [h1, h2]
    rfl

set_option maxRecDepth 100000 in
set_option maxHeartbeats 1500000 in
theorem own0_any (w : World) (A : Option Addr) (n c : Nat) (f : Fr) (hr : Rngs w A n f.list) (v : Bool) (hv : fown f = v) (h0 : f.kind = 0) :
    Calls Tryd.prog 38 #[fval A n c f] w (RPost w v) := by
  have hnl : f.list = [] ↔ n = 0 := by
    have := hr.1
    constructor
    · intro h; rw [h] at this; simpa using this.symm
    · intro h; exact List.eq_nil_of_length_eq_zero (by omega)
  have hl0 : decide (f.list = []) = decide (n = 0) := decide_eq_decide.2 hnl
  have HL0 := hide hl0
  clear hl0
  have hn62 := hr.2.1
  have HRn := hide (hr.new ((Mod.refl [] w).alloc (.cells (fcs A n c f) 26)))
  have hun := hv.symm.trans (fown0 h0)
  rw [HL0.out] at hun
  have HV := hide hun
  clear hv hun hr hnl HL0
  unfold fval fcs at *
  have hsm := hide (fun w' (h : Rngs w' A n f.list) => same_any w' A none n 0 c 0 f ⟨0, f.a, 0, 0, false, ⟨#[]⟩, ⟨#[]⟩, []⟩ h (Rngs.nil _) _ rfl)
  have hk0 : ((f.kind : Int) == 0) = true := by simp; omega
  clear h0
  by_cases hp0 : 1 ≤ f.a
  rotate_left
  · have HVf : Hid (v = false) := hide (by rw [HV.out]; simp [hp0])
    have q1 : ¬ (1 : Int) ≤ f.a := by omega
    have q1b : decide ((1 : Int) ≤ f.a) = false := decide_eq_false (by omega)
    have q1c : decide (1 ≤ f.a) = false := decide_eq_false (by omega)
    have q1d : ¬ (0 : Int) < f.a := by omega
    have q1e : decide (0 < f.a) = false := decide_eq_false (by omega)
    clear HV hp0
    go_enter Tryd.func38, Tryd.ntmps38
    go_wp2_with fail
    go_ret
    exact RPost.of HVf.out ((Mod.refl _ _).alloc _)
  have q1 : (1 : Int) ≤ f.a := by omega
  by_cases hp1 : f.a ≤ 16384
  rotate_left
  · have HVf : Hid (v = false) := hide (by rw [HV.out]; simp [hp1])
    have q2 : ¬ (f.a : Int) ≤ 16384 := by omega
    clear HV hp0 hp1
    go_enter Tryd.func38, Tryd.ntmps38
    go_wp2_with fail
    go_ret
    exact RPost.of HVf.out ((Mod.refl _ _).alloc _)
  have q2 : (f.a : Int) ≤ 16384 := by omega
  by_cases hp2 : n = 0
  rotate_left
  · have HVf : Hid (v = false) := hide (by rw [HV.out]; simp [hp2])
    have q3 : ((n : Int) == 0) = false := by simp; omega
    clear HV hp0 hp1 hp2
    go_enter Tryd.func38, Tryd.ntmps38
    go_wp2_with fail
    go_ret
    exact RPost.of HVf.out ((Mod.refl _ _).alloc _)
  have q3 : ((n : Int) == 0) = true := by simp; omega
  have HVf : Hid (v = fsame f ⟨0, f.a, 0, 0, false, ⟨#[]⟩, ⟨#[]⟩, []⟩) := hide (by rw [HV.out]; simp [hp0, hp1, hp2])
  clear HV hp0 hp1 hp2
  go_enter Tryd.func38, Tryd.ntmps38
  go_wp2_with fail
  refine (hsm.out _ HRn.out).mono ?_
  rintro e w1 ⟨rfl, m1⟩
  go_wp2_with fail
  go_ret
  exact RPost.of HVf.out (((Mod.refl _ _).alloc _).trans m1 (by simp))
set_option maxRecDepth 100000 in
set_option maxHeartbeats 1500000 in
theorem ownA_any (w : World) (A : Option Addr) (n c : Nat) (f : Fr) (hr : Rngs w A n f.list) (v : Bool) (hv : fown f = v) (h2 : f.kind = 2 ∨ f.kind = 3) :
    Calls Tryd.prog 38 #[fval A n c f] w (RPost w v) := by
  have hnl : f.list = [] ↔ n = 0 := by
    have := hr.1
    constructor
    · intro h; rw [h] at this; simpa using this.symm
    · intro h; exact List.eq_nil_of_length_eq_zero (by omega)
  have hl0 : decide (f.list = []) = decide (n = 0) := decide_eq_decide.2 hnl
  have HL0 := hide hl0
  clear hl0
  have hn62 := hr.2.1
  have HRn := hide (hr.new ((Mod.refl [] w).alloc (.cells (fcs A n c f) 26)))
  have hun : v = facks f := by rw [← hv]; unfold fown; rw [if_neg (by omega), if_pos h2]
  have HV := hide hun
  have hak := hide (fun w' (h : Rngs w' A n f.list) => acks_any w' A n c f h _ rfl)
  clear hv hun hr hnl HL0
  unfold fval fcs at *
  have e0 : ((f.kind : Int) == 0) = false := by simp; omega
  by_cases h22 : f.kind = 2
  · have e2 : ((f.kind : Int) == 2) = true := by simp; omega
    clear h2 h22
    go_enter Tryd.func38, Tryd.ntmps38
    go_wp2_with fail
    refine (hak.out _ HRn.out).mono ?_
    rintro e w1 ⟨rfl, m1⟩
    go_wp2_with fail
    go_ret
    exact RPost.of HV.out (((Mod.refl _ _).alloc _).trans m1 (by simp))
  · have e2 : ((f.kind : Int) == 2) = false := by simp; omega
    have e3 : ((f.kind : Int) == 3) = true := by simp; omega
    clear h2 h22
    go_enter Tryd.func38, Tryd.ntmps38
    go_wp2_with fail
    refine (hak.out _ HRn.out).mono ?_
    rintro e w1 ⟨rfl, m1⟩
    go_wp2_with fail
    go_ret
    exact RPost.of HV.out (((Mod.refl _ _).alloc _).trans m1 (by simp))
set_option maxRecDepth 100000 in
set_option maxHeartbeats 1500000 in
theorem own8_any (w : World) (A : Option Addr) (n c : Nat) (f : Fr) (hr : Rngs w A n f.list) (hb : f.b < 4611686018427387904) (hd : f.data.size ≤ 16384) (v : Bool) (hv : fown f = v) (h8 : f.kind = 8) :
    Calls Tryd.prog 38 #[fval A n c f] w (RPost w v) := by
  have hnl : f.list = [] ↔ n = 0 := by
    have := hr.1
    constructor
    · intro h; rw [h] at this; simpa using this.symm
    · intro h; exact List.eq_nil_of_length_eq_zero (by omega)
  have hl0 : decide (f.list = []) = decide (n = 0) := decide_eq_decide.2 hnl
  have HL0 := hide hl0
  clear hl0
  have hn62 := hr.2.1
  have HRn := hide (hr.new ((Mod.refl [] w).alloc (.cells (fcs A n c f) 26)))
  have e0 : ((f.kind : Int) == 0) = false := by simp; omega
  have e2 : ((f.kind : Int) == 2) = false := by simp; omega
  have e3 : ((f.kind : Int) == 3) = false := by simp; omega
  have hun : v = (decide (n = 0) && decide (f.c = 0) && decide (f.more.size = 0) && decide (f.b + f.data.size < 4611686018427387904)) := by
    rw [← hv]; unfold fown; rw [if_neg (by omega), if_neg (by omega), if_pos h8, HL0.out]
  have HV := hide hun
  have e8 : ((f.kind : Int) == 8) = true := by simp; omega
  clear hv hun hr h8 hnl HL0 HRn
  unfold fval fcs at *
  by_cases hp0 : n = 0
  rotate_left
  · have HVf : Hid (v = false) := hide (by rw [HV.out]; simp [hp0])
    have q3 : ((n : Int) == 0) = false := by simp; omega
    clear HV hp0
    go_enter Tryd.func38, Tryd.ntmps38
    go_wp2_with fail
    go_ret
    exact RPost.of HVf.out ((Mod.refl _ _).alloc _)
  have q3 : ((n : Int) == 0) = true := by simp; omega
  by_cases hp1 : f.c = 0
  rotate_left
  · have HVf : Hid (v = false) := hide (by rw [HV.out]; simp [hp1])
    have q4 : ((f.c : Int) == 0) = false := by simp; omega
    clear HV hp0 hp1
    go_enter Tryd.func38, Tryd.ntmps38
    go_wp2_with fail
    go_ret
    exact RPost.of HVf.out ((Mod.refl _ _).alloc _)
  have q4 : ((f.c : Int) == 0) = true := by simp; omega
  by_cases hp2 : f.more.size = 0
  rotate_left
  · have HVf : Hid (v = false) := hide (by rw [HV.out]; simp [hp2])
    have q5 : f.more.toList.isEmpty = false := empty_false hp2
    clear HV hp0 hp1 hp2
    go_enter Tryd.func38, Tryd.ntmps38
    go_wp2_with fail
    go_ret
    exact RPost.of HVf.out ((Mod.refl _ _).alloc _)
  have q5 : f.more.toList.isEmpty = true := empty_true hp2
  by_cases hp3 : f.b + f.data.size < 4611686018427387904
  rotate_left
  · have HVf : Hid (v = false) := hide (by rw [HV.out]; simp [hp3])
    have q6 : ¬ (f.b : Int) + f.data.size ≤ 4611686018427387903 := by omega
    clear HV hp0 hp1 hp2 hp3
    go_enter Tryd.func38, Tryd.ntmps38
    go_wp2_with fail
    go_ret
    exact RPost.of HVf.out ((Mod.refl _ _).alloc _)
  have q6 : (f.b : Int) + f.data.size ≤ 4611686018427387903 := by omega
  have HVf : Hid (v = true) := hide (by rw [HV.out]; simp [hp0, hp1, hp2, hp3])
  clear HV hp0 hp1 hp2 hp3
  go_enter Tryd.func38, Tryd.ntmps38
  go_wp2_with fail
  go_ret
  exact RPost.of HVf.out ((Mod.refl _ _).alloc _)
set_option maxRecDepth 100000 in
set_option maxHeartbeats 1500000 in
theorem own24_any (w : World) (A : Option Addr) (n c : Nat) (f : Fr) (hr : Rngs w A n f.list) (hd : f.data.size ≤ 16384) (v : Bool) (hv : fown f = v) (h24 : f.kind = 24) :
    Calls Tryd.prog 38 #[fval A n c f] w (RPost w v) := by
  have hnl : f.list = [] ↔ n = 0 := by
    have := hr.1
    constructor
    · intro h; rw [h] at this; simpa using this.symm
    · intro h; exact List.eq_nil_of_length_eq_zero (by omega)
  have hl0 : decide (f.list = []) = decide (n = 0) := decide_eq_decide.2 hnl
  have HL0 := hide hl0
  clear hl0
  have hn62 := hr.2.1
  have HRn := hide (hr.new ((Mod.refl [] w).alloc (.cells (fcs A n c f) 26)))
  have e0 : ((f.kind : Int) == 0) = false := by simp; omega
  have e2 : ((f.kind : Int) == 2) = false := by simp; omega
  have e3 : ((f.kind : Int) == 3) = false := by simp; omega
  have e8 : ((f.kind : Int) == 8) = false := by simp; omega
  have hun : v = (decide (n = 0) && decide (f.c = 0) && !f.fin && decide (f.b ≤ f.a) && decide (1 ≤ f.data.size) && decide (f.data.size ≤ 20) && decide (f.more.size = 16)) := by
    rw [← hv]; unfold fown; rw [if_neg (by omega), if_neg (by omega), if_neg (by omega), if_pos h24, HL0.out]
  have HV := hide hun
  have e24 : ((f.kind : Int) == 24) = true := by simp; omega
  clear hv hun hr h24 hnl HL0 HRn
  unfold fval fcs at *
  obtain ⟨fin, hfin⟩ : ∃ b, f.fin = b := ⟨_, rfl⟩
  rw [hfin] at HV ⊢
  clear hfin
  by_cases hp0 : n = 0
  rotate_left
  · have HVf : Hid (v = false) := hide (by rw [HV.out]; simp [hp0])
    have q3 : ((n : Int) == 0) = false := by simp; omega
    clear HV hp0
    go_enter Tryd.func38, Tryd.ntmps38
    go_wp2_with fail
    go_ret
    exact RPost.of HVf.out ((Mod.refl _ _).alloc _)
  have q3 : ((n : Int) == 0) = true := by simp; omega
  by_cases hp1 : f.c = 0
  rotate_left
  · have HVf : Hid (v = false) := hide (by rw [HV.out]; simp [hp1])
    have q4 : ((f.c : Int) == 0) = false := by simp; omega
    clear HV hp0 hp1
    go_enter Tryd.func38, Tryd.ntmps38
    go_wp2_with fail
    go_ret
    exact RPost.of HVf.out ((Mod.refl _ _).alloc _)
  have q4 : ((f.c : Int) == 0) = true := by simp; omega
  by_cases hp2 : fin = false
  rotate_left
  · have HVf : Hid (v = false) := hide (by rw [HV.out]; simp [hp2])
    have q5 : (!fin) = false := by cases fin; exact absurd rfl hp2; rfl
    clear HV hp0 hp1 hp2
    go_enter Tryd.func38, Tryd.ntmps38
    go_wp2_with fail
    go_ret
    exact RPost.of HVf.out ((Mod.refl _ _).alloc _)
  have q5 : (!fin) = true := by rw [hp2]; rfl
  by_cases hp3 : f.b ≤ f.a
  rotate_left
  · have HVf : Hid (v = false) := hide (by rw [HV.out]; simp [hp3])
    have q6 : ¬ (f.b : Int) ≤ f.a := by omega
    have q6b : decide ((f.b : Int) ≤ f.a) = false := decide_eq_false (by omega)
    have q6c : decide (f.b ≤ f.a) = false := decide_eq_false (by omega)
    clear HV hp0 hp1 hp2 hp3
    go_enter Tryd.func38, Tryd.ntmps38
    go_wp2_with fail
    go_ret
    exact RPost.of HVf.out ((Mod.refl _ _).alloc _)
  have q6 : (f.b : Int) ≤ f.a := by omega
  have q6b : decide ((f.b : Int) ≤ f.a) = true := decide_eq_true (by omega)
  have q6c : decide (f.b ≤ f.a) = true := decide_eq_true (by omega)
  by_cases hp4 : 1 ≤ f.data.size
  rotate_left
  · have HVf : Hid (v = false) := hide (by rw [HV.out]; simp [hp4])
    have q7 : ¬ (1 : Int) ≤ f.data.size := by omega
    have q7c : decide (0 < f.data.size) = false := decide_eq_false (by omega)
    have q7d : decide (1 ≤ f.data.size) = false := decide_eq_false (by omega)
    have q7e : decide ((0 : Int) < f.data.size) = false := decide_eq_false (by omega)
    clear HV hp0 hp1 hp2 hp3 hp4
    go_enter Tryd.func38, Tryd.ntmps38
    go_wp2_with fail
    go_ret
    exact RPost.of HVf.out ((Mod.refl _ _).alloc _)
  have q7 : (1 : Int) ≤ f.data.size := by omega
  by_cases hp5 : f.data.size ≤ 20
  rotate_left
  · have HVf : Hid (v = false) := hide (by rw [HV.out]; simp [hp5])
    have q8 : ¬ (f.data.size : Int) ≤ 20 := by omega
    clear HV hp0 hp1 hp2 hp3 hp4 hp5
    go_enter Tryd.func38, Tryd.ntmps38
    go_wp2_with fail
    go_ret
    exact RPost.of HVf.out ((Mod.refl _ _).alloc _)
  have q8 : (f.data.size : Int) ≤ 20 := by omega
  by_cases hp6 : f.more.size = 16
  rotate_left
  · have HVf : Hid (v = false) := hide (by rw [HV.out]; simp [hp6])
    have q9 : ((f.more.size : Int) == 16) = false := by simp; omega
    clear HV hp0 hp1 hp2 hp3 hp4 hp5 hp6
    go_enter Tryd.func38, Tryd.ntmps38
    go_wp2_with fail
    go_ret
    exact RPost.of HVf.out ((Mod.refl _ _).alloc _)
  have q9 : ((f.more.size : Int) == 16) = true := by simp; omega
  have HVf : Hid (v = true) := hide (by rw [HV.out]; simp [hp0, hp1, hp2, hp3, hp4, hp5, hp6])
  clear HV hp0 hp1 hp2 hp3 hp4 hp5 hp6
  go_enter Tryd.func38, Tryd.ntmps38
  go_wp2_with fail
  go_ret
  exact RPost.of HVf.out ((Mod.refl _ _).alloc _)
set_option maxRecDepth 100000 in
set_option maxHeartbeats 1500000 in
theorem ownN_any (w : World) (A : Option Addr) (n c : Nat) (f : Fr) (hr : Rngs w A n f.list) (v : Bool) (hv : fown f = v) (hk : f.kind ≠ 0 ∧ f.kind ≠ 2 ∧ f.kind ≠ 3 ∧ f.kind ≠ 8 ∧ f.kind ≠ 24) :
    Calls Tryd.prog 38 #[fval A n c f] w (RPost w v) := by
  have hnl : f.list = [] ↔ n = 0 := by
    have := hr.1
    constructor
    · intro h; rw [h] at this; simpa using this.symm
    · intro h; exact List.eq_nil_of_length_eq_zero (by omega)
  have hl0 : decide (f.list = []) = decide (n = 0) := decide_eq_decide.2 hnl
  have HL0 := hide hl0
  clear hl0
  have hn62 := hr.2.1
  have HRn := hide (hr.new ((Mod.refl [] w).alloc (.cells (fcs A n c f) 26)))
  have e0 : ((f.kind : Int) == 0) = false := by simp; omega
  have e2 : ((f.kind : Int) == 2) = false := by simp; omega
  have e3 : ((f.kind : Int) == 3) = false := by simp; omega
  have e8 : ((f.kind : Int) == 8) = false := by simp; omega
  have HVf : Hid (v = false) := hide (by rw [← hv]; unfold fown; rw [if_neg (by omega), if_neg (by omega), if_neg (by omega), if_neg (by omega)])
  have e24 : ((f.kind : Int) == 24) = false := by simp; omega
  clear hv hr hk hnl HL0 HRn
  unfold fval fcs at *
  go_enter Tryd.func38, Tryd.ntmps38
  go_wp2_with fail
  go_ret
  exact RPost.of HVf.out ((Mod.refl _ _).alloc _)

theorem own_any (w : World) (A : Option Addr) (n c : Nat) (f : Fr) (hr : Rngs w A n f.list) (hb : f.b < 4611686018427387904) (hd : f.data.size ≤ 16384) (v : Bool) (hv : fown f = v) :
    Calls Tryd.prog 38 #[fval A n c f] w (RPost w v) := by
  by_cases h0 : f.kind = 0
  · exact own0_any w A n c f hr v hv h0
  by_cases h2 : f.kind = 2 ∨ f.kind = 3
  · exact ownA_any w A n c f hr v hv h2
  by_cases h8 : f.kind = 8
  · exact own8_any w A n c f hr hb hd v hv h8
  by_cases h24 : f.kind = 24
  · exact own24_any w A n c f hr hd v hv h24
  exact ownN_any w A n c f hr v hv ⟨h0, by omega, by omega, h8, h24⟩
end Go.Proofs.YtbjmcnmcodbkdaaDoor

/-
  frames: May.
-/
namespace Go.Proofs.YtbjmcnmcodbkdaaDoor
open Go.RowKit

/-- the greatest of three -/
def max3 (x y z : Nat) : Nat := if (if x < y then y else x) < z then z else (if x < y then y else x)
theorem max3_lt {x y z m : Nat} : max3 x y z < m ↔ x < m ∧ y < m ∧ z < m := by
  unfold max3
  split <;> split <;> omega
theorem run_max_nat3 {P : Program} {w : World} (ts : Array TypeId) (t : TypeId) (x y z : Nat) : (Builtin.max_ ts t #[.int .u64 (x : Nat), .int .u64 (y : Nat), .int .u64 (z : Nat)]).run P w = .ok (.int .u64 (max3 x y z : Nat)) w := by
  unfold max3
  have e : ∀ a b : Nat, (if (b : Int) > a then (b : Int) else a) = ((if a < b then b else a : Nat) : Int) := fun a b => by split <;> split <;> omega
  have e2 := run_max_int3 (P := P) (w := w) ts t .u64 .u64 .u64 x y z
  rw [e x y, e _ z] at e2
  exact e2
attribute [go_sem high] run_max_nat3

/-- the eight cells of a frame -/
theorem fcells {w : World} {g : Nat} {t : TypeId} {A : Option Addr} {n c : Nat} {f : Fr} (h : Blk w g t (fcs A n c f)) :
    w.cell? ⟨g, 0, none⟩ = some (.int .u64 (f.kind : Nat)) ∧ w.cell? ⟨g, 1, none⟩ = some (.int .u64 (f.a : Nat)) ∧ w.cell? ⟨g, 2, none⟩ = some (.int .u64 (f.b : Nat)) ∧ w.cell? ⟨g, 3, none⟩ = some (.int .u64 (f.c : Nat)) ∧
    w.cell? ⟨g, 4, none⟩ = some (.bool f.fin) ∧ w.cell? ⟨g, 5, none⟩ = some (.string f.data) ∧ w.cell? ⟨g, 6, none⟩ = some (.string f.more) ∧ w.cell? ⟨g, 7, none⟩ = some (.slice A n c) :=
  ⟨h.cell 0, h.cell 1, h.cell 2, h.cell 3, h.cell 4, h.cell 5, h.cell 6, h.cell 7⟩

set_option maxRecDepth 100000 in
set_option maxHeartbeats 2000000 in
theorem may1_any (w : World) (A : Option Addr) (n c : Nat) (f : Fr) (h : ¬ (max3 f.a f.b f.c < 4611686018427387904)) :
    Calls Tryd.prog 20 #[fval A n c f] w (RPost w false) := by
  obtain ⟨M, hM⟩ : ∃ M, max3 f.a f.b f.c = M := ⟨_, rfl⟩
  rw [hM] at h
  have h2 : decide (4611686018427387903 < M) = true := decide_eq_true (by omega)
  have h3 : decide ((4611686018427387903 : Int) < M) = true := decide_eq_true (by omega)
  clear h
  unfold fval fcs
  go_enter Tryd.func20, Tryd.ntmps20
  go_wp2_with fail
  go_ret
  exact RPost.of rfl ((Mod.refl _ _).alloc _)

set_option maxRecDepth 100000 in
set_option maxHeartbeats 2000000 in
theorem may2_any (w : World) (A : Option Addr) (n c : Nat) (f : Fr) (h : max3 f.a f.b f.c < 4611686018427387904) (hd : ¬ f.data.size ≤ 16384) :
    Calls Tryd.prog 20 #[fval A n c f] w (RPost w false) := by
  obtain ⟨M, hM⟩ : ∃ M, max3 f.a f.b f.c = M := ⟨_, rfl⟩
  rw [hM] at h
  have h2 : decide (4611686018427387903 < M) = false := decide_eq_false (by omega)
  have h3 : decide ((4611686018427387903 : Int) < M) = false := decide_eq_false (by omega)
  clear h
  have d2 : decide (16384 < f.data.size) = true := decide_eq_true (by omega)
  have d3 : decide ((16384 : Int) < f.data.size) = true := decide_eq_true (by omega)
  clear hd
  unfold fval fcs
  go_enter Tryd.func20, Tryd.ntmps20
  go_wp2_with fail
  go_ret
  exact RPost.of rfl ((Mod.refl _ _).alloc _)

set_option maxRecDepth 100000 in
set_option maxHeartbeats 2000000 in
theorem may3_any (w : World) (A : Option Addr) (n c : Nat) (f : Fr) (hr : Rngs w A n f.list) (h : max3 f.a f.b f.c < 4611686018427387904) (hd : f.data.size ≤ 16384) (hb : f.b < 4611686018427387904) (hk : fshape f.kind = none) :
    Calls Tryd.prog 20 #[fval A n c f] w (RPost w (fown f)) := by
  obtain ⟨M, hM⟩ : ∃ M, max3 f.a f.b f.c = M := ⟨_, rfl⟩
  rw [hM] at h
  have h2 : decide (4611686018427387903 < M) = false := decide_eq_false (by omega)
  have h3 : decide ((4611686018427387903 : Int) < M) = false := decide_eq_false (by omega)
  clear h
  have d2 : decide (16384 < f.data.size) = false := decide_eq_false (by omega)
  have d3 : decide ((16384 : Int) < f.data.size) = false := decide_eq_false (by omega)
  have hsh := fun w => shapes_any w f.kind
  have hS : shS f.kind = sh0 := by unfold shS; rw [hk]; rfl
  rw [hS, hk] at hsh
  have HSh := hide hsh
  have HOwn := hide (fun w' (h : Rngs w' A n f.list) => own_any w' A n c f h hb hd _ rfl)
  have HR := hide (hr.new ((Mod.refl [] w).alloc (.cells (fcs A n c f) 26)))
  have HBx := hide (Blk.new w 26 (fcs A n c f))
  clear hk hd hb hr hsh hS
  unfold fval fcs at *
  go_enter Tryd.func20, Tryd.ntmps20
  go_wp2_with fail
  refine (HSh.out _).mono ?_
  rintro e w1 ⟨rfl, m1⟩
  have hbx := (m1.blk HBx.out (by simp)).alloc (.cells #[.int .i64 0, .bool false, .int .i64 0] 72)
  have hm2 : Mod [] w (w1.alloc (.cells #[.int .i64 0, .bool false, .int .i64 0] 72)) := ((((Mod.refl _ _).alloc _).trans m1 (by simp)).alloc _)
  have hr2 := HR.out.new (m1.alloc (.cells #[.int .i64 0, .bool false, .int .i64 0] 72))
  have HM2 := hide hm2
  have HR2 := hide hr2
  have hlt := hbx.lt
  obtain ⟨p0, p1, p2, p3, p4, p5, p6, p7⟩ := fcells hbx
  clear hm2 hr2 m1 hbx
  unfold shval sh0
  go_wp2_with fail
  refine (HOwn.out _ HR2.out).mono ?_
  rintro e w3 ⟨rfl, m3⟩
  go_wp2_with fail
  go_ret
  exact RPost.of rfl (HM2.out.trans m3 (by simp))
theorem fshape_x {k : Nat} {s : Shp} (h : fshape k = some s) : s.x ≤ 8 := by
  unfold fshape at h
  repeat' split at h
  all_goals first | (cases h; done) | (cases h; simp)
theorem mayS {w2 w' : World} {g h : Nat} {t u : TypeId} {A : Option Addr} {n c : Nat} {f : Fr} {s : Shp} (hb : Blk w2 g t (fcs A n c f)) (hs : Blk w2 h u #[.int .i64 (s.n : Nat), .bool s.t, .int .i64 (s.x : Nat)]) (hm : Mod [] w2 w') : (w'.cell? ⟨g, 0, none⟩ = some (.int .u64 (f.kind : Nat)) ∧ w'.cell? ⟨g, 1, none⟩ = some (.int .u64 (f.a : Nat)) ∧ w'.cell? ⟨g, 2, none⟩ = some (.int .u64 (f.b : Nat)) ∧ w'.cell? ⟨g, 3, none⟩ = some (.int .u64 (f.c : Nat)) ∧ w'.cell? ⟨g, 4, none⟩ = some (.bool f.fin) ∧ w'.cell? ⟨g, 5, none⟩ = some (.string f.data) ∧ w'.cell? ⟨g, 6, none⟩ = some (.string f.more) ∧ w'.cell? ⟨g, 7, none⟩ = some (.slice A n c) ∧ w'.cell? ⟨h, 0, none⟩ = some (.int .i64 (s.n : Nat)) ∧ w'.cell? ⟨h, 1, none⟩ = some (.bool s.t) ∧ w'.cell? ⟨h, 2, none⟩ = some (.int .i64 (s.x : Nat))) ∧ Mod [] w2 w' := by
  obtain ⟨p0, p1, p2, p3, p4, p5, p6, p7⟩ := fcells (hm.blk hb (by simp))
  have hs2 := hm.blk hs (by simp)
  exact ⟨⟨p0, p1, p2, p3, p4, p5, p6, p7, hs2.cell 0, hs2.cell 1, hs2.cell 2⟩, hm⟩
theorem may_keep {P : Program} {fn : Nat} {args : Array Value} {v : Value} {w2 w' : World} {g h : Nat} {t u : TypeId} {A : Option Addr} {n c : Nat} {f : Fr} {s : Shp} (hb : Blk w2 g t (fcs A n c f)) (hs : Blk w2 h u #[.int .i64 (s.n : Nat), .bool s.t, .int .i64 (s.x : Nat)])
    (hr : Rngs w2 A n f.list) (hc : ∀ w', Rngs w' A n f.list → Calls P fn args w' fun e w'' => e = .returned v ∧ Mod [] w' w'') (hS : (w'.cell? ⟨g, 0, none⟩ = some (.int .u64 (f.kind : Nat)) ∧ w'.cell? ⟨g, 1, none⟩ = some (.int .u64 (f.a : Nat)) ∧ w'.cell? ⟨g, 2, none⟩ = some (.int .u64 (f.b : Nat)) ∧ w'.cell? ⟨g, 3, none⟩ = some (.int .u64 (f.c : Nat)) ∧ w'.cell? ⟨g, 4, none⟩ = some (.bool f.fin) ∧ w'.cell? ⟨g, 5, none⟩ = some (.string f.data) ∧ w'.cell? ⟨g, 6, none⟩ = some (.string f.more) ∧ w'.cell? ⟨g, 7, none⟩ = some (.slice A n c) ∧ w'.cell? ⟨h, 0, none⟩ = some (.int .i64 (s.n : Nat)) ∧ w'.cell? ⟨h, 1, none⟩ = some (.bool s.t) ∧ w'.cell? ⟨h, 2, none⟩ = some (.int .i64 (s.x : Nat))) ∧ Mod [] w2 w') :
    Calls P fn args w' fun e w' => e = .returned v ∧ ((w'.cell? ⟨g, 0, none⟩ = some (.int .u64 (f.kind : Nat)) ∧ w'.cell? ⟨g, 1, none⟩ = some (.int .u64 (f.a : Nat)) ∧ w'.cell? ⟨g, 2, none⟩ = some (.int .u64 (f.b : Nat)) ∧ w'.cell? ⟨g, 3, none⟩ = some (.int .u64 (f.c : Nat)) ∧ w'.cell? ⟨g, 4, none⟩ = some (.bool f.fin) ∧ w'.cell? ⟨g, 5, none⟩ = some (.string f.data) ∧ w'.cell? ⟨g, 6, none⟩ = some (.string f.more) ∧ w'.cell? ⟨g, 7, none⟩ = some (.slice A n c) ∧ w'.cell? ⟨h, 0, none⟩ = some (.int .i64 (s.n : Nat)) ∧ w'.cell? ⟨h, 1, none⟩ = some (.bool s.t) ∧ w'.cell? ⟨h, 2, none⟩ = some (.int .i64 (s.x : Nat))) ∧ Mod [] w2 w') := by
  refine (hc w' (hr.new hS.2)).mono ?_
  rintro e w'' ⟨rfl, m⟩
  exact ⟨rfl, mayS hb hs (hS.2.trans m (by simp))⟩

set_option maxRecDepth 100000 in
set_option maxHeartbeats 3000000 in
theorem may4_any (w : World) (A : Option Addr) (n c : Nat) (f : Fr) (s : Shp) (hr : Rngs w A n f.list) (h : max3 f.a f.b f.c < 4611686018427387904) (hd : f.data.size ≤ 16384) (hk : fshape f.kind = some s) (hc : fclear s f = false) :
    Calls Tryd.prog 20 #[fval A n c f] w (RPost w false) := by
  obtain ⟨M, hM⟩ : ∃ M, max3 f.a f.b f.c = M := ⟨_, rfl⟩
  rw [hM] at h
  have h2 : decide (4611686018427387903 < M) = false := decide_eq_false (by omega)
  have h3 : decide ((4611686018427387903 : Int) < M) = false := decide_eq_false (by omega)
  have d2 : decide (16384 < f.data.size) = false := decide_eq_false (by omega)
  have d3 : decide ((16384 : Int) < f.data.size) = false := decide_eq_false (by omega)
  have hsh := fun w => shapes_any w f.kind
  have hS : shS f.kind = s := by unfold shS; rw [hk]; rfl
  rw [hS, hk] at hsh
  have hsn := (fshape_lt hk).2.1
  have hsx := fshape_x hk
  have HSh := hide hsh
  have HClr := hide (fun w' (_ : Rngs w' A n f.list) => clear_any w' s hsn hsx A n c f)
  have HSame := hide (fun w' (h : Rngs w' A n f.list) => same_any w' A none n 0 c 0 (fclr s f) fr0 h (Rngs.nil _) _ rfl)
  have HR := hide (hr.new ((Mod.refl [] w).alloc (.cells (fcs A n c f) 26)))
  have HBx := hide (Blk.new w 26 (fcs A n c f))
  rw [fclr_clear, hc] at HSame
  clear h hc hk hr hsh hS
  unfold fval fcs at *
  unfold shval at *
  go_enter Tryd.func20, Tryd.ntmps20
  go_wp2_with fail
  refine (HSh.out _).mono ?_
  rintro e w1 ⟨rfl, m1⟩
  have hbx := (m1.blk HBx.out (by simp)).alloc (.cells #[.int .i64 (s.n : Nat), .bool s.t, .int .i64 (s.x : Nat)] 72)
  have hsb : Blk (w1.alloc (.cells #[.int .i64 (s.n : Nat), .bool s.t, .int .i64 (s.x : Nat)] 72)) w1.heap.size 72 #[.int .i64 (s.n : Nat), .bool s.t, .int .i64 (s.x : Nat)] := Blk.new _ _ _
  have hm2 : Mod [] w (w1.alloc (.cells #[.int .i64 (s.n : Nat), .bool s.t, .int .i64 (s.x : Nat)] 72)) := ((((Mod.refl _ _).alloc _).trans m1 (by simp)).alloc _)
  have hr2 := HR.out.new (m1.alloc (.cells #[.int .i64 (s.n : Nat), .bool s.t, .int .i64 (s.x : Nat)] 72))
  have HM2 := hide hm2
  have HR2 := hide hr2
  have HB2 := hide hbx
  have HS2 := hide hsb
  have hlt := hbx.lt
  have hslt := hsb.lt
  clear hm2 hr2 m1 hbx hsb HSh HR HBx
  obtain ⟨⟨p0, p1, p2, p3, p4, p5, p6, p7, s0, s1, s2⟩, _⟩ := mayS HB2.out HS2.out (Mod.refl [] _)
  go_wp2_with fail
  refine (HClr.out _ HR2.out).mono ?_
  rintro e w3 ⟨rfl, m3⟩
  go_wp2_with fail
  refine (HSame.out _ (HR2.out.new m3)).mono ?_
  rintro e w4 ⟨rfl, m4⟩
  replace m4 := m3.trans m4 (by simp)
  clear p0 p1 p2 p3 p4 p5 p6 p7 s0 s1 s2
  obtain ⟨⟨p0, p1, p2, p3, p4, p5, p6, p7, s0, s1, s2⟩, _⟩ := mayS HB2.out HS2.out m4
  go_wp2_with fail
  go_ret
  exact RPost.of rfl (HM2.out.trans m4 (by simp))

set_option maxRecDepth 100000 in
set_option maxHeartbeats 3000000 in
theorem may5_any (w : World) (A : Option Addr) (n c : Nat) (f : Fr) (s : Shp) (hr : Rngs w A n f.list) (h : max3 f.a f.b f.c < 4611686018427387904) (hd : f.data.size ≤ 16384) (hk : fshape f.kind = some s) (hc : fclear s f = true) (hx : s.x ≠ 0 ∧ f.data.size ≠ s.x) :
    Calls Tryd.prog 20 #[fval A n c f] w (RPost w false) := by
  have x0 : ((s.x : Int) == 0) = false := by simp; omega
  have x1 : ((f.data.size : Int) == s.x) = false := by simp; omega
  clear hx
  obtain ⟨M, hM⟩ : ∃ M, max3 f.a f.b f.c = M := ⟨_, rfl⟩
  rw [hM] at h
  have h2 : decide (4611686018427387903 < M) = false := decide_eq_false (by omega)
  have h3 : decide ((4611686018427387903 : Int) < M) = false := decide_eq_false (by omega)
  have d2 : decide (16384 < f.data.size) = false := decide_eq_false (by omega)
  have d3 : decide ((16384 : Int) < f.data.size) = false := decide_eq_false (by omega)
  have hsh := fun w => shapes_any w f.kind
  have hS : shS f.kind = s := by unfold shS; rw [hk]; rfl
  rw [hS, hk] at hsh
  have hsn := (fshape_lt hk).2.1
  have hsx := fshape_x hk
  have HSh := hide hsh
  have HClr := hide (fun w' (_ : Rngs w' A n f.list) => clear_any w' s hsn hsx A n c f)
  have HSame := hide (fun w' (h : Rngs w' A n f.list) => same_any w' A none n 0 c 0 (fclr s f) fr0 h (Rngs.nil _) _ rfl)
  have HR := hide (hr.new ((Mod.refl [] w).alloc (.cells (fcs A n c f) 26)))
  have HBx := hide (Blk.new w 26 (fcs A n c f))
  rw [fclr_clear, hc] at HSame
  clear h hc hk hr hsh hS
  unfold fval fcs at *
  unfold shval at *
  go_enter Tryd.func20, Tryd.ntmps20
  go_wp2_with fail
  refine (HSh.out _).mono ?_
  rintro e w1 ⟨rfl, m1⟩
  have hbx := (m1.blk HBx.out (by simp)).alloc (.cells #[.int .i64 (s.n : Nat), .bool s.t, .int .i64 (s.x : Nat)] 72)
  have hsb : Blk (w1.alloc (.cells #[.int .i64 (s.n : Nat), .bool s.t, .int .i64 (s.x : Nat)] 72)) w1.heap.size 72 #[.int .i64 (s.n : Nat), .bool s.t, .int .i64 (s.x : Nat)] := Blk.new _ _ _
  have hm2 : Mod [] w (w1.alloc (.cells #[.int .i64 (s.n : Nat), .bool s.t, .int .i64 (s.x : Nat)] 72)) := ((((Mod.refl _ _).alloc _).trans m1 (by simp)).alloc _)
  have hr2 := HR.out.new (m1.alloc (.cells #[.int .i64 (s.n : Nat), .bool s.t, .int .i64 (s.x : Nat)] 72))
  have HM2 := hide hm2
  have HR2 := hide hr2
  have HB2 := hide hbx
  have HS2 := hide hsb
  have hlt := hbx.lt
  have hslt := hsb.lt
  clear hm2 hr2 m1 hbx hsb HSh HR HBx
  obtain ⟨⟨p0, p1, p2, p3, p4, p5, p6, p7, s0, s1, s2⟩, _⟩ := mayS HB2.out HS2.out (Mod.refl [] _)
  go_wp2_with fail
  refine (HClr.out _ HR2.out).mono ?_
  rintro e w3 ⟨rfl, m3⟩
  go_wp2_with fail
  refine (HSame.out _ (HR2.out.new m3)).mono ?_
  rintro e w4 ⟨rfl, m4⟩
  replace m4 := m3.trans m4 (by simp)
  clear p0 p1 p2 p3 p4 p5 p6 p7 s0 s1 s2
  obtain ⟨⟨p0, p1, p2, p3, p4, p5, p6, p7, s0, s1, s2⟩, _⟩ := mayS HB2.out HS2.out m4
  go_wp2_with fail
  go_ret
  exact RPost.of rfl (HM2.out.trans m4 (by simp))

set_option maxRecDepth 100000 in
set_option maxHeartbeats 3000000 in
theorem may6_any (w : World) (A : Option Addr) (n c : Nat) (f : Fr) (s : Shp) (hr : Rngs w A n f.list) (h : max3 f.a f.b f.c < 4611686018427387904) (hd : f.data.size ≤ 16384) (hk : fshape f.kind = some s) (ha : f.a < 4611686018427387904) (hc : fclear s f = true) (hx : s.x = 0) :
    Calls Tryd.prog 20 #[fval A n c f] w (RPost w (flimits f)) := by
  have x0 : ((s.x : Int) == 0) = true := by simp; omega
  clear hx
  obtain ⟨M, hM⟩ : ∃ M, max3 f.a f.b f.c = M := ⟨_, rfl⟩
  rw [hM] at h
  have h2 : decide (4611686018427387903 < M) = false := decide_eq_false (by omega)
  have h3 : decide ((4611686018427387903 : Int) < M) = false := decide_eq_false (by omega)
  have d2 : decide (16384 < f.data.size) = false := decide_eq_false (by omega)
  have d3 : decide ((16384 : Int) < f.data.size) = false := decide_eq_false (by omega)
  have hsh := fun w => shapes_any w f.kind
  have hS : shS f.kind = s := by unfold shS; rw [hk]; rfl
  rw [hS, hk] at hsh
  have hsn := (fshape_lt hk).2.1
  have hsx := fshape_x hk
  have HSh := hide hsh
  have HClr := hide (fun w' (_ : Rngs w' A n f.list) => clear_any w' s hsn hsx A n c f)
  have HSame := hide (fun w' (h : Rngs w' A n f.list) => same_any w' A none n 0 c 0 (fclr s f) fr0 h (Rngs.nil _) _ rfl)
  have HLim := hide (fun w' (_ : Rngs w' A n f.list) => limits_any w' A n c f ha hd _ rfl)
  have HR := hide (hr.new ((Mod.refl [] w).alloc (.cells (fcs A n c f) 26)))
  have HBx := hide (Blk.new w 26 (fcs A n c f))
  rw [fclr_clear, hc] at HSame
  clear h hc hk hr hsh hS
  unfold fval fcs at *
  unfold shval at *
  go_enter Tryd.func20, Tryd.ntmps20
  go_wp2_with fail
  refine (HSh.out _).mono ?_
  rintro e w1 ⟨rfl, m1⟩
  have hbx := (m1.blk HBx.out (by simp)).alloc (.cells #[.int .i64 (s.n : Nat), .bool s.t, .int .i64 (s.x : Nat)] 72)
  have hsb : Blk (w1.alloc (.cells #[.int .i64 (s.n : Nat), .bool s.t, .int .i64 (s.x : Nat)] 72)) w1.heap.size 72 #[.int .i64 (s.n : Nat), .bool s.t, .int .i64 (s.x : Nat)] := Blk.new _ _ _
  have hm2 : Mod [] w (w1.alloc (.cells #[.int .i64 (s.n : Nat), .bool s.t, .int .i64 (s.x : Nat)] 72)) := ((((Mod.refl _ _).alloc _).trans m1 (by simp)).alloc _)
  have hr2 := HR.out.new (m1.alloc (.cells #[.int .i64 (s.n : Nat), .bool s.t, .int .i64 (s.x : Nat)] 72))
  have HM2 := hide hm2
  have HR2 := hide hr2
  have HB2 := hide hbx
  have HS2 := hide hsb
  have hlt := hbx.lt
  have hslt := hsb.lt
  clear hm2 hr2 m1 hbx hsb HSh HR HBx
  obtain ⟨⟨p0, p1, p2, p3, p4, p5, p6, p7, s0, s1, s2⟩, _⟩ := mayS HB2.out HS2.out (Mod.refl [] _)
  go_wp2_with fail
  refine (HClr.out _ HR2.out).mono ?_
  rintro e w3 ⟨rfl, m3⟩
  go_wp2_with fail
  refine (HSame.out _ (HR2.out.new m3)).mono ?_
  rintro e w4 ⟨rfl, m4⟩
  replace m4 := m3.trans m4 (by simp)
  clear p0 p1 p2 p3 p4 p5 p6 p7 s0 s1 s2
  obtain ⟨⟨p0, p1, p2, p3, p4, p5, p6, p7, s0, s1, s2⟩, _⟩ := mayS HB2.out HS2.out m4
  go_wp2_with fail
  refine (HLim.out _ (HR2.out.new m4)).mono ?_
  rintro e w5 ⟨rfl, m5⟩
  go_wp2_with fail
  go_ret
  exact RPost.of rfl (HM2.out.trans (m4.trans m5 (by simp)) (by simp))

set_option maxRecDepth 100000 in
set_option maxHeartbeats 3000000 in
theorem may7_any (w : World) (A : Option Addr) (n c : Nat) (f : Fr) (s : Shp) (hr : Rngs w A n f.list) (h : max3 f.a f.b f.c < 4611686018427387904) (hd : f.data.size ≤ 16384) (hk : fshape f.kind = some s) (ha : f.a < 4611686018427387904) (hc : fclear s f = true) (hx : s.x ≠ 0) (hx2 : f.data.size = s.x) :
    Calls Tryd.prog 20 #[fval A n c f] w (RPost w (flimits f)) := by
  have x0 : ((s.x : Int) == 0) = false := by simp; omega
  have x1 : ((f.data.size : Int) == s.x) = true := by simp; omega
  clear hx hx2
  obtain ⟨M, hM⟩ : ∃ M, max3 f.a f.b f.c = M := ⟨_, rfl⟩
  rw [hM] at h
  have h2 : decide (4611686018427387903 < M) = false := decide_eq_false (by omega)
  have h3 : decide ((4611686018427387903 : Int) < M) = false := decide_eq_false (by omega)
  have d2 : decide (16384 < f.data.size) = false := decide_eq_false (by omega)
  have d3 : decide ((16384 : Int) < f.data.size) = false := decide_eq_false (by omega)
  have hsh := fun w => shapes_any w f.kind
  have hS : shS f.kind = s := by unfold shS; rw [hk]; rfl
  rw [hS, hk] at hsh
  have hsn := (fshape_lt hk).2.1
  have hsx := fshape_x hk
  have HSh := hide hsh
  have HClr := hide (fun w' (_ : Rngs w' A n f.list) => clear_any w' s hsn hsx A n c f)
  have HSame := hide (fun w' (h : Rngs w' A n f.list) => same_any w' A none n 0 c 0 (fclr s f) fr0 h (Rngs.nil _) _ rfl)
  have HLim := hide (fun w' (_ : Rngs w' A n f.list) => limits_any w' A n c f ha hd _ rfl)
  have HR := hide (hr.new ((Mod.refl [] w).alloc (.cells (fcs A n c f) 26)))
  have HBx := hide (Blk.new w 26 (fcs A n c f))
  rw [fclr_clear, hc] at HSame
  clear h hc hk hr hsh hS
  unfold fval fcs at *
  unfold shval at *
  go_enter Tryd.func20, Tryd.ntmps20
  go_wp2_with fail
  refine (HSh.out _).mono ?_
  rintro e w1 ⟨rfl, m1⟩
  have hbx := (m1.blk HBx.out (by simp)).alloc (.cells #[.int .i64 (s.n : Nat), .bool s.t, .int .i64 (s.x : Nat)] 72)
  have hsb : Blk (w1.alloc (.cells #[.int .i64 (s.n : Nat), .bool s.t, .int .i64 (s.x : Nat)] 72)) w1.heap.size 72 #[.int .i64 (s.n : Nat), .bool s.t, .int .i64 (s.x : Nat)] := Blk.new _ _ _
  have hm2 : Mod [] w (w1.alloc (.cells #[.int .i64 (s.n : Nat), .bool s.t, .int .i64 (s.x : Nat)] 72)) := ((((Mod.refl _ _).alloc _).trans m1 (by simp)).alloc _)
  have hr2 := HR.out.new (m1.alloc (.cells #[.int .i64 (s.n : Nat), .bool s.t, .int .i64 (s.x : Nat)] 72))
  have HM2 := hide hm2
  have HR2 := hide hr2
  have HB2 := hide hbx
  have HS2 := hide hsb
  have hlt := hbx.lt
  have hslt := hsb.lt
  clear hm2 hr2 m1 hbx hsb HSh HR HBx
  obtain ⟨⟨p0, p1, p2, p3, p4, p5, p6, p7, s0, s1, s2⟩, _⟩ := mayS HB2.out HS2.out (Mod.refl [] _)
  go_wp2_with fail
  refine (HClr.out _ HR2.out).mono ?_
  rintro e w3 ⟨rfl, m3⟩
  go_wp2_with fail
  refine (HSame.out _ (HR2.out.new m3)).mono ?_
  rintro e w4 ⟨rfl, m4⟩
  replace m4 := m3.trans m4 (by simp)
  clear p0 p1 p2 p3 p4 p5 p6 p7 s0 s1 s2
  obtain ⟨⟨p0, p1, p2, p3, p4, p5, p6, p7, s0, s1, s2⟩, _⟩ := mayS HB2.out HS2.out m4
  go_wp2_with fail
  refine (HLim.out _ (HR2.out.new m4)).mono ?_
  rintro e w5 ⟨rfl, m5⟩
  go_wp2_with fail
  go_ret
  exact RPost.of rfl (HM2.out.trans (m4.trans m5 (by simp)) (by simp))

theorem may_any (w : World) (A : Option Addr) (n c : Nat) (f : Fr) (hr : Rngs w A n f.list) (v : Bool) (hv : fmay f = v) :
    Calls Tryd.prog 20 #[fval A n c f] w (RPost w v) := by
  subst hv
  by_cases h : max3 f.a f.b f.c < 4611686018427387904
  rotate_left
  · have e : fmay f = false := by
      cases hb : fmay f
      · rfl
      · obtain ⟨h1, h2, h3, _⟩ := fmay_parts hb
        exact absurd (max3_lt.2 ⟨h1, h2, h3⟩) h
    rw [e]; exact may1_any w A n c f h
  by_cases hd : f.data.size ≤ 16384
  rotate_left
  · have e : fmay f = false := by
      cases hb : fmay f
      · rfl
      · exact absurd (fmay_parts hb).2.2.2.1 hd
    rw [e]; exact may2_any w A n c f h hd
  obtain ⟨h1, h2, h3⟩ := max3_lt.1 h
  have hf : fmay f = match fshape f.kind with
    | none => fown f
    | some s => fclear s f && (decide (s.x = 0) || decide (f.data.size = s.x)) && flimits f := by
    unfold fmay
    rw [decide_eq_true h1, decide_eq_true h2, decide_eq_true h3, decide_eq_true hd]
    rfl
  rw [hf]
  cases hk : fshape f.kind with
  | none => exact may3_any w A n c f hr h hd h2 hk
  | some s =>
    simp only
    cases hc : fclear s f with
    | false => exact may4_any w A n c f s hr h hd hk hc
    | true =>
      by_cases hx : s.x = 0
      · rw [decide_eq_true hx]
        exact may6_any w A n c f s hr h hd hk h1 hc hx
      · rw [decide_eq_false hx]
        by_cases hx2 : f.data.size = s.x
        · rw [decide_eq_true hx2]
          exact may7_any w A n c f s hr h hd hk h1 hc hx hx2
        · rw [decide_eq_false hx2]
          exact may5_any w A n c f s hr h hd hk hc ⟨hx, hx2⟩
end Go.Proofs.YtbjmcnmcodbkdaaDoor

/-
  frames: stream.
-/
namespace Go.Proofs.YtbjmcnmcodbkdaaDoor
open Go.RowKit

theorem frS {w2 w' : World} {g : Nat} {t : TypeId} {A : Option Addr} {n c : Nat} {f : Fr} (hb : Blk w2 g t (fcs A n c f)) (hm : Mod [] w2 w') : (w'.cell? ⟨g, 0, none⟩ = some (.int .u64 (f.kind : Nat)) ∧ w'.cell? ⟨g, 1, none⟩ = some (.int .u64 (f.a : Nat)) ∧ w'.cell? ⟨g, 2, none⟩ = some (.int .u64 (f.b : Nat)) ∧ w'.cell? ⟨g, 3, none⟩ = some (.int .u64 (f.c : Nat)) ∧ w'.cell? ⟨g, 4, none⟩ = some (.bool f.fin) ∧ w'.cell? ⟨g, 5, none⟩ = some (.string f.data) ∧ w'.cell? ⟨g, 6, none⟩ = some (.string f.more) ∧ w'.cell? ⟨g, 7, none⟩ = some (.slice A n c)) ∧ Mod [] w2 w' :=
  ⟨fcells (hm.blk hb (by simp)), hm⟩
theorem fr_keep {P : Program} {fn : Nat} {args : Array Value} {v : Value} {w2 w' : World} {g : Nat} {t : TypeId} {A : Option Addr} {n c : Nat} {f : Fr} (hb : Blk w2 g t (fcs A n c f))
    (hc : ∀ w', Calls P fn args w' fun e w'' => e = .returned v ∧ Mod [] w' w'') (hS : (w'.cell? ⟨g, 0, none⟩ = some (.int .u64 (f.kind : Nat)) ∧ w'.cell? ⟨g, 1, none⟩ = some (.int .u64 (f.a : Nat)) ∧ w'.cell? ⟨g, 2, none⟩ = some (.int .u64 (f.b : Nat)) ∧ w'.cell? ⟨g, 3, none⟩ = some (.int .u64 (f.c : Nat)) ∧ w'.cell? ⟨g, 4, none⟩ = some (.bool f.fin) ∧ w'.cell? ⟨g, 5, none⟩ = some (.string f.data) ∧ w'.cell? ⟨g, 6, none⟩ = some (.string f.more) ∧ w'.cell? ⟨g, 7, none⟩ = some (.slice A n c)) ∧ Mod [] w2 w') :
    Calls P fn args w' fun e w' => e = .returned v ∧ ((w'.cell? ⟨g, 0, none⟩ = some (.int .u64 (f.kind : Nat)) ∧ w'.cell? ⟨g, 1, none⟩ = some (.int .u64 (f.a : Nat)) ∧ w'.cell? ⟨g, 2, none⟩ = some (.int .u64 (f.b : Nat)) ∧ w'.cell? ⟨g, 3, none⟩ = some (.int .u64 (f.c : Nat)) ∧ w'.cell? ⟨g, 4, none⟩ = some (.bool f.fin) ∧ w'.cell? ⟨g, 5, none⟩ = some (.string f.data) ∧ w'.cell? ⟨g, 6, none⟩ = some (.string f.more) ∧ w'.cell? ⟨g, 7, none⟩ = some (.slice A n c)) ∧ Mod [] w2 w') := by
  refine (hc w').mono ?_
  rintro e w'' ⟨rfl, m⟩
  exact ⟨rfl, frS hb (hS.2.trans m (by simp))⟩
theorem str_of {B : ByteArray} {l : List UInt8} (h : B.data.toList = l) : Value.string B = str l := by subst h; unfold str; rw [eta_bytes]
theorem app_list (a b : ByteArray) : (a ++ b).data.toList = a.data.toList ++ b.data.toList := by simp

set_option maxRecDepth 100000 in
set_option maxHeartbeats 600000 in
theorem stream0f_any (w : World) (A : Option Addr) (n c : Nat) (f : Fr) (hd : f.data.size ≤ 16384) (hb : f.b = 0) (hfn : f.fin = false) :
    Calls Tryd.prog 72 #[fval A n c f] w fun e w' => e = .returned (str (fstream f)) ∧ Mod [] w w' := by
  have HBx := hide (Blk.new w 26 (fcs A n c f))
  obtain ⟨K, hK⟩ : ∃ K, vputB 10 = K := ⟨_, rfl⟩
  obtain ⟨VA, hA⟩ : ∃ K, vputB f.a = K := ⟨_, rfl⟩
  obtain ⟨T, hT⟩ : ∃ K, vputB f.data.size ++ f.data = K := ⟨_, rfl⟩
  have s1 : K.size ≤ 8 := by rw [← hK]; exact vputB_size _
  have s2 : VA.size ≤ 8 := by rw [← hA]; exact vputB_size _
  have s3 : T.size ≤ 16392 := by rw [← hT, ByteArray.size_append]; have := vputB_size f.data.size; omega
  have p1 := fun w => fputB_any w 10
  have p2 := fun w => fputB_any w f.a
  have p3 := fun w => ftext_any w f.data (by omega)
  rw [hK] at p1
  rw [hA] at p2
  rw [hT] at p3
  push_cast at p1
  have hfin : (K ++ VA ++ ⟨#[]⟩ ++ T).data.toList = fstream f := by
    rw [app_list, app_list, app_list, ← hK, ← hA, ← hT, app_list]
    unfold fstream ftext
    rw [if_pos hb, if_pos hb, hfn]
    simp [vputB_list]
  have q2 : (K ++ VA : ByteArray).size + (⟨#[]⟩ : ByteArray).size ≤ 9223372036854775807 := by rw [ByteArray.size_append]; show K.size + VA.size + 0 ≤ _; omega
  have q3 : (K ++ VA ++ ⟨#[]⟩ : ByteArray).size + T.size ≤ 9223372036854775807 := by rw [ByteArray.size_append, ByteArray.size_append]; show K.size + VA.size + 0 + T.size ≤ _; omega
  have q4 : (K ++ VA : ByteArray).size + T.size ≤ 9223372036854775807 := by rw [ByteArray.size_append]; omega
  have q5 : K.size + VA.size + T.size ≤ 9223372036854775807 := by omega
  have b0 : ((f.b : Int) != 0) = false := by simp; omega
  have HF := hide hfin
  have pp : ∀ (x : Int) (v : ByteArray), ((x = 10 ∧ v = K) ∨ (x = (f.a : Nat) ∧ v = VA)) → ∀ w, Calls Tryd.prog 55 #[.int .u64 x] w fun e w' => e = .returned (.string v) ∧ Mod [] w w' := by
    rintro x v (⟨rfl, rfl⟩ | ⟨rfl, rfl⟩) w
    · exact p1 w
    · exact p2 w
  have PP := hide pp
  have P3 := hide p3
  have q1 : K.size + VA.size ≤ 9223372036854775807 := by omega
  have n1 : ¬ 9223372036854775807 < K.size + VA.size := by omega
  have n2 : ¬ 9223372036854775807 < K.size + VA.size + T.size := by omega
  obtain ⟨R, hR⟩ : ∃ R, fstream f = R := ⟨_, rfl⟩
  rw [hR] at HF ⊢
  clear hfin hK hA hT pp p1 p2 p3 hb
  clear hR
  unfold fval fcs at *
  obtain ⟨fk, fa, fb, fc, ff, fd, fm, fl⟩ := f
  dsimp only at *
  subst hfn
  go_enter Tryd.func72, Tryd.ntmps72
  go_wp2_with fail
  obtain ⟨w2, hw2⟩ : ∃ w2, w.alloc (.cells #[.int .u64 (fk : Nat), .int .u64 (fa : Nat), .int .u64 (fb : Nat), .int .u64 (fc : Nat), .bool false, .string fd, .string fm, .slice A n c] 26) = w2 := ⟨_, rfl⟩
  obtain ⟨g, hg⟩ : ∃ g, w.heap.size = g := ⟨_, rfl⟩
  have hm : Mod [] w w2 := by rw [← hw2]; exact (Mod.refl _ _).alloc _
  have HM2 := hide hm
  rw [hw2, hg] at HBx
  rw [hw2]
  simp only [hg]
  have HB2 := HBx
  have hlt := HB2.out.lt
  clear hw2 hg hm HBx
  have HS := hide (frS (f := ⟨fk, fa, fb, fc, false, fd, fm, fl⟩) HB2.out (Mod.refl [] _).drew)
  go_region_held3 (fun w' => (w'.cell? ⟨g, 0, none⟩ = some (.int .u64 (fk : Nat)) ∧ w'.cell? ⟨g, 1, none⟩ = some (.int .u64 (fa : Nat)) ∧ w'.cell? ⟨g, 2, none⟩ = some (.int .u64 (fb : Nat)) ∧ w'.cell? ⟨g, 3, none⟩ = some (.int .u64 (fc : Nat)) ∧ w'.cell? ⟨g, 4, none⟩ = some (.bool false) ∧ w'.cell? ⟨g, 5, none⟩ = some (.string fd) ∧ w'.cell? ⟨g, 6, none⟩ = some (.string fm) ∧ w'.cell? ⟨g, 7, none⟩ = some (.slice A n c)) ∧ Mod [] w2 w')
    (first | exact HS.out | assumption)
    (first
      | (go_at_call 56; refine (fr_keep (f := ⟨fk, fa, fb, fc, false, fd, fm, fl⟩) HB2.out P3.out (by assumption)).mono ?_; rintro e w' ⟨rfl, hS'⟩)
      | (go_at_call 55; refine (fr_keep (f := ⟨fk, fa, fb, fc, false, fd, fm, fl⟩) HB2.out (PP.out _ _ (by first | exact Or.inl ⟨rfl, rfl⟩ | exact Or.inr ⟨rfl, rfl⟩)) (by assumption)).mono ?_; rintro e w' ⟨rfl, hS'⟩))
  all_goals
    go_wp2_with fail
    go_ret
    exact ⟨congrArg _ (str_of HF.out), HM2.out.trans hS'.2 (by simp)⟩

set_option maxRecDepth 100000 in
set_option maxHeartbeats 600000 in
theorem stream1f_any (w : World) (A : Option Addr) (n c : Nat) (f : Fr) (hd : f.data.size ≤ 16384) (hb : f.b ≠ 0) (hfn : f.fin = false) :
    Calls Tryd.prog 72 #[fval A n c f] w fun e w' => e = .returned (str (fstream f)) ∧ Mod [] w w' := by
  have HBx := hide (Blk.new w 26 (fcs A n c f))
  obtain ⟨K, hK⟩ : ∃ K, vputB 14 = K := ⟨_, rfl⟩
  obtain ⟨VA, hA⟩ : ∃ K, vputB f.a = K := ⟨_, rfl⟩
  obtain ⟨T, hT⟩ : ∃ K, vputB f.data.size ++ f.data = K := ⟨_, rfl⟩
  have s1 : K.size ≤ 8 := by rw [← hK]; exact vputB_size _
  have s2 : VA.size ≤ 8 := by rw [← hA]; exact vputB_size _
  have s3 : T.size ≤ 16392 := by rw [← hT, ByteArray.size_append]; have := vputB_size f.data.size; omega
  have p1 := fun w => fputB_any w 14
  have p2 := fun w => fputB_any w f.a
  have p3 := fun w => ftext_any w f.data (by omega)
  rw [hK] at p1
  rw [hA] at p2
  rw [hT] at p3
  push_cast at p1
  obtain ⟨VB, hB⟩ : ∃ K, vputB f.b = K := ⟨_, rfl⟩
  have p4 := fun w => fputB_any w f.b
  have s4 : VB.size ≤ 8 := by rw [← hB]; exact vputB_size _
  rw [hB] at p4
  have P4 := hide p4
  have hfin : (K ++ VA ++ VB ++ T).data.toList = fstream f := by
    rw [app_list, app_list, app_list, ← hK, ← hA, ← hT, ← hB, app_list]
    unfold fstream ftext
    rw [if_neg hb, if_neg hb, hfn]
    simp [vputB_list]
  have q2 : (K ++ VA : ByteArray).size + VB.size ≤ 9223372036854775807 := by rw [ByteArray.size_append]; omega
  have q3 : (K ++ VA ++ VB : ByteArray).size + T.size ≤ 9223372036854775807 := by rw [ByteArray.size_append, ByteArray.size_append]; omega
  have q4 : K.size + VA.size + VB.size ≤ 9223372036854775807 := by omega
  have q5 : K.size + VA.size + VB.size + T.size ≤ 9223372036854775807 := by omega
  have b0 : ((f.b : Int) != 0) = true := by simp; omega
  have HF := hide hfin
  have pp : ∀ (x : Int) (v : ByteArray), ((x = 14 ∧ v = K) ∨ (x = (f.a : Nat) ∧ v = VA)) → ∀ w, Calls Tryd.prog 55 #[.int .u64 x] w fun e w' => e = .returned (.string v) ∧ Mod [] w w' := by
    rintro x v (⟨rfl, rfl⟩ | ⟨rfl, rfl⟩) w
    · exact p1 w
    · exact p2 w
  have PP := hide pp
  have P3 := hide p3
  have q1 : K.size + VA.size ≤ 9223372036854775807 := by omega
  have n1 : ¬ 9223372036854775807 < K.size + VA.size := by omega
  have n2 : ¬ 9223372036854775807 < K.size + VA.size + VB.size := by omega
  have n3 : ¬ 9223372036854775807 < K.size + VA.size + VB.size + T.size := by omega
  obtain ⟨R, hR⟩ : ∃ R, fstream f = R := ⟨_, rfl⟩
  rw [hR] at HF ⊢
  clear hfin hK hA hT hB pp p1 p2 p3 p4 hb
  clear hR
  unfold fval fcs at *
  obtain ⟨fk, fa, fb, fc, ff, fd, fm, fl⟩ := f
  dsimp only at *
  subst hfn
  go_enter Tryd.func72, Tryd.ntmps72
  go_wp2_with fail
  refine (P4.out _).mono ?_
  rintro e w2 ⟨rfl, m2⟩
  have hb2 := m2.blk HBx.out (by simp)
  have HM2 := hide (((Mod.refl [] w).alloc (.cells #[.int .u64 (fk : Nat), .int .u64 (fa : Nat), .int .u64 (fb : Nat), .int .u64 (fc : Nat), .bool false, .string fd, .string fm, .slice A n c] 26)).trans m2 (by simp))
  have HB2 := hide hb2
  have p4' : w2.cell? ⟨w.heap.size, 4, none⟩ = some (.bool false) := hb2.cell 4
  have hlt := hb2.lt
  clear hb2 m2 HBx
  obtain ⟨g, hg⟩ : ∃ g, w.heap.size = g := ⟨_, rfl⟩
  rw [hg] at HB2 p4' hlt
  simp only [hg]
  clear hg
  go_wp2_with fail
  clear p4'
  have HS := hide (frS (f := ⟨fk, fa, fb, fc, false, fd, fm, fl⟩) HB2.out (Mod.refl [] _).drew)
  go_region_held3 (fun w' => (w'.cell? ⟨g, 0, none⟩ = some (.int .u64 (fk : Nat)) ∧ w'.cell? ⟨g, 1, none⟩ = some (.int .u64 (fa : Nat)) ∧ w'.cell? ⟨g, 2, none⟩ = some (.int .u64 (fb : Nat)) ∧ w'.cell? ⟨g, 3, none⟩ = some (.int .u64 (fc : Nat)) ∧ w'.cell? ⟨g, 4, none⟩ = some (.bool false) ∧ w'.cell? ⟨g, 5, none⟩ = some (.string fd) ∧ w'.cell? ⟨g, 6, none⟩ = some (.string fm) ∧ w'.cell? ⟨g, 7, none⟩ = some (.slice A n c)) ∧ Mod [] w2 w')
    (first | exact HS.out | assumption)
    (first
      | (go_at_call 56; refine (fr_keep (f := ⟨fk, fa, fb, fc, false, fd, fm, fl⟩) HB2.out P3.out (by assumption)).mono ?_; rintro e w' ⟨rfl, hS'⟩)
      | (go_at_call 55; refine (fr_keep (f := ⟨fk, fa, fb, fc, false, fd, fm, fl⟩) HB2.out (PP.out _ _ (by first | exact Or.inl ⟨rfl, rfl⟩ | exact Or.inr ⟨rfl, rfl⟩)) (by assumption)).mono ?_; rintro e w' ⟨rfl, hS'⟩))
  all_goals
    go_wp2_with fail
    go_ret
    exact ⟨congrArg _ (str_of HF.out), HM2.out.trans hS'.2 (by simp)⟩

set_option maxRecDepth 100000 in
set_option maxHeartbeats 600000 in
theorem stream0t_any (w : World) (A : Option Addr) (n c : Nat) (f : Fr) (hd : f.data.size ≤ 16384) (hb : f.b = 0) (hfn : f.fin = true) :
    Calls Tryd.prog 72 #[fval A n c f] w fun e w' => e = .returned (str (fstream f)) ∧ Mod [] w w' := by
  have HBx := hide (Blk.new w 26 (fcs A n c f))
  obtain ⟨K, hK⟩ : ∃ K, vputB 11 = K := ⟨_, rfl⟩
  obtain ⟨VA, hA⟩ : ∃ K, vputB f.a = K := ⟨_, rfl⟩
  obtain ⟨T, hT⟩ : ∃ K, vputB f.data.size ++ f.data = K := ⟨_, rfl⟩
  have s1 : K.size ≤ 8 := by rw [← hK]; exact vputB_size _
  have s2 : VA.size ≤ 8 := by rw [← hA]; exact vputB_size _
  have s3 : T.size ≤ 16392 := by rw [← hT, ByteArray.size_append]; have := vputB_size f.data.size; omega
  have p1 := fun w => fputB_any w 11
  have p2 := fun w => fputB_any w f.a
  have p3 := fun w => ftext_any w f.data (by omega)
  rw [hK] at p1
  rw [hA] at p2
  rw [hT] at p3
  push_cast at p1
  have hfin : (K ++ VA ++ ⟨#[]⟩ ++ T).data.toList = fstream f := by
    rw [app_list, app_list, app_list, ← hK, ← hA, ← hT, app_list]
    unfold fstream ftext
    rw [if_pos hb, if_pos hb, hfn]
    simp [vputB_list]
  have q2 : (K ++ VA : ByteArray).size + (⟨#[]⟩ : ByteArray).size ≤ 9223372036854775807 := by rw [ByteArray.size_append]; show K.size + VA.size + 0 ≤ _; omega
  have q3 : (K ++ VA ++ ⟨#[]⟩ : ByteArray).size + T.size ≤ 9223372036854775807 := by rw [ByteArray.size_append, ByteArray.size_append]; show K.size + VA.size + 0 + T.size ≤ _; omega
  have q4 : (K ++ VA : ByteArray).size + T.size ≤ 9223372036854775807 := by rw [ByteArray.size_append]; omega
  have q5 : K.size + VA.size + T.size ≤ 9223372036854775807 := by omega
  have b0 : ((f.b : Int) != 0) = false := by simp; omega
  have HF := hide hfin
  have pp : ∀ (x : Int) (v : ByteArray), ((x = 11 ∧ v = K) ∨ (x = (f.a : Nat) ∧ v = VA)) → ∀ w, Calls Tryd.prog 55 #[.int .u64 x] w fun e w' => e = .returned (.string v) ∧ Mod [] w w' := by
    rintro x v (⟨rfl, rfl⟩ | ⟨rfl, rfl⟩) w
    · exact p1 w
    · exact p2 w
  have PP := hide pp
  have P3 := hide p3
  have q1 : K.size + VA.size ≤ 9223372036854775807 := by omega
  have n1 : ¬ 9223372036854775807 < K.size + VA.size := by omega
  have n2 : ¬ 9223372036854775807 < K.size + VA.size + T.size := by omega
  obtain ⟨R, hR⟩ : ∃ R, fstream f = R := ⟨_, rfl⟩
  rw [hR] at HF ⊢
  clear hfin hK hA hT pp p1 p2 p3 hb
  clear hR
  unfold fval fcs at *
  obtain ⟨fk, fa, fb, fc, ff, fd, fm, fl⟩ := f
  dsimp only at *
  subst hfn
  go_enter Tryd.func72, Tryd.ntmps72
  go_wp2_with fail
  obtain ⟨w2, hw2⟩ : ∃ w2, w.alloc (.cells #[.int .u64 (fk : Nat), .int .u64 (fa : Nat), .int .u64 (fb : Nat), .int .u64 (fc : Nat), .bool true, .string fd, .string fm, .slice A n c] 26) = w2 := ⟨_, rfl⟩
  obtain ⟨g, hg⟩ : ∃ g, w.heap.size = g := ⟨_, rfl⟩
  have hm : Mod [] w w2 := by rw [← hw2]; exact (Mod.refl _ _).alloc _
  have HM2 := hide hm
  rw [hw2, hg] at HBx
  rw [hw2]
  simp only [hg]
  have HB2 := HBx
  have hlt := HB2.out.lt
  clear hw2 hg hm HBx
  have HS := hide (frS (f := ⟨fk, fa, fb, fc, true, fd, fm, fl⟩) HB2.out (Mod.refl [] _).drew)
  go_region_held3 (fun w' => (w'.cell? ⟨g, 0, none⟩ = some (.int .u64 (fk : Nat)) ∧ w'.cell? ⟨g, 1, none⟩ = some (.int .u64 (fa : Nat)) ∧ w'.cell? ⟨g, 2, none⟩ = some (.int .u64 (fb : Nat)) ∧ w'.cell? ⟨g, 3, none⟩ = some (.int .u64 (fc : Nat)) ∧ w'.cell? ⟨g, 4, none⟩ = some (.bool true) ∧ w'.cell? ⟨g, 5, none⟩ = some (.string fd) ∧ w'.cell? ⟨g, 6, none⟩ = some (.string fm) ∧ w'.cell? ⟨g, 7, none⟩ = some (.slice A n c)) ∧ Mod [] w2 w')
    (first | exact HS.out | assumption)
    (first
      | (go_at_call 56; refine (fr_keep (f := ⟨fk, fa, fb, fc, true, fd, fm, fl⟩) HB2.out P3.out (by assumption)).mono ?_; rintro e w' ⟨rfl, hS'⟩)
      | (go_at_call 55; refine (fr_keep (f := ⟨fk, fa, fb, fc, true, fd, fm, fl⟩) HB2.out (PP.out _ _ (by first | exact Or.inl ⟨rfl, rfl⟩ | exact Or.inr ⟨rfl, rfl⟩)) (by assumption)).mono ?_; rintro e w' ⟨rfl, hS'⟩))
  all_goals
    go_wp2_with fail
    go_ret
    exact ⟨congrArg _ (str_of HF.out), HM2.out.trans hS'.2 (by simp)⟩

set_option maxRecDepth 100000 in
set_option maxHeartbeats 600000 in
theorem stream1t_any (w : World) (A : Option Addr) (n c : Nat) (f : Fr) (hd : f.data.size ≤ 16384) (hb : f.b ≠ 0) (hfn : f.fin = true) :
    Calls Tryd.prog 72 #[fval A n c f] w fun e w' => e = .returned (str (fstream f)) ∧ Mod [] w w' := by
  have HBx := hide (Blk.new w 26 (fcs A n c f))
  obtain ⟨K, hK⟩ : ∃ K, vputB 15 = K := ⟨_, rfl⟩
  obtain ⟨VA, hA⟩ : ∃ K, vputB f.a = K := ⟨_, rfl⟩
  obtain ⟨T, hT⟩ : ∃ K, vputB f.data.size ++ f.data = K := ⟨_, rfl⟩
  have s1 : K.size ≤ 8 := by rw [← hK]; exact vputB_size _
  have s2 : VA.size ≤ 8 := by rw [← hA]; exact vputB_size _
  have s3 : T.size ≤ 16392 := by rw [← hT, ByteArray.size_append]; have := vputB_size f.data.size; omega
  have p1 := fun w => fputB_any w 15
  have p2 := fun w => fputB_any w f.a
  have p3 := fun w => ftext_any w f.data (by omega)
  rw [hK] at p1
  rw [hA] at p2
  rw [hT] at p3
  push_cast at p1
  obtain ⟨VB, hB⟩ : ∃ K, vputB f.b = K := ⟨_, rfl⟩
  have p4 := fun w => fputB_any w f.b
  have s4 : VB.size ≤ 8 := by rw [← hB]; exact vputB_size _
  rw [hB] at p4
  have P4 := hide p4
  have hfin : (K ++ VA ++ VB ++ T).data.toList = fstream f := by
    rw [app_list, app_list, app_list, ← hK, ← hA, ← hT, ← hB, app_list]
    unfold fstream ftext
    rw [if_neg hb, if_neg hb, hfn]
    simp [vputB_list]
  have q2 : (K ++ VA : ByteArray).size + VB.size ≤ 9223372036854775807 := by rw [ByteArray.size_append]; omega
  have q3 : (K ++ VA ++ VB : ByteArray).size + T.size ≤ 9223372036854775807 := by rw [ByteArray.size_append, ByteArray.size_append]; omega
  have q4 : K.size + VA.size + VB.size ≤ 9223372036854775807 := by omega
  have q5 : K.size + VA.size + VB.size + T.size ≤ 9223372036854775807 := by omega
  have b0 : ((f.b : Int) != 0) = true := by simp; omega
  have HF := hide hfin
  have pp : ∀ (x : Int) (v : ByteArray), ((x = 15 ∧ v = K) ∨ (x = (f.a : Nat) ∧ v = VA)) → ∀ w, Calls Tryd.prog 55 #[.int .u64 x] w fun e w' => e = .returned (.string v) ∧ Mod [] w w' := by
    rintro x v (⟨rfl, rfl⟩ | ⟨rfl, rfl⟩) w
    · exact p1 w
    · exact p2 w
  have PP := hide pp
  have P3 := hide p3
  have q1 : K.size + VA.size ≤ 9223372036854775807 := by omega
  have n1 : ¬ 9223372036854775807 < K.size + VA.size := by omega
  have n2 : ¬ 9223372036854775807 < K.size + VA.size + VB.size := by omega
  have n3 : ¬ 9223372036854775807 < K.size + VA.size + VB.size + T.size := by omega
  obtain ⟨R, hR⟩ : ∃ R, fstream f = R := ⟨_, rfl⟩
  rw [hR] at HF ⊢
  clear hfin hK hA hT hB pp p1 p2 p3 p4 hb
  clear hR
  unfold fval fcs at *
  obtain ⟨fk, fa, fb, fc, ff, fd, fm, fl⟩ := f
  dsimp only at *
  subst hfn
  go_enter Tryd.func72, Tryd.ntmps72
  go_wp2_with fail
  refine (P4.out _).mono ?_
  rintro e w2 ⟨rfl, m2⟩
  have hb2 := m2.blk HBx.out (by simp)
  have HM2 := hide (((Mod.refl [] w).alloc (.cells #[.int .u64 (fk : Nat), .int .u64 (fa : Nat), .int .u64 (fb : Nat), .int .u64 (fc : Nat), .bool true, .string fd, .string fm, .slice A n c] 26)).trans m2 (by simp))
  have HB2 := hide hb2
  have p4' : w2.cell? ⟨w.heap.size, 4, none⟩ = some (.bool true) := hb2.cell 4
  have hlt := hb2.lt
  clear hb2 m2 HBx
  obtain ⟨g, hg⟩ : ∃ g, w.heap.size = g := ⟨_, rfl⟩
  rw [hg] at HB2 p4' hlt
  simp only [hg]
  clear hg
  go_wp2_with fail
  clear p4'
  have HS := hide (frS (f := ⟨fk, fa, fb, fc, true, fd, fm, fl⟩) HB2.out (Mod.refl [] _).drew)
  go_region_held3 (fun w' => (w'.cell? ⟨g, 0, none⟩ = some (.int .u64 (fk : Nat)) ∧ w'.cell? ⟨g, 1, none⟩ = some (.int .u64 (fa : Nat)) ∧ w'.cell? ⟨g, 2, none⟩ = some (.int .u64 (fb : Nat)) ∧ w'.cell? ⟨g, 3, none⟩ = some (.int .u64 (fc : Nat)) ∧ w'.cell? ⟨g, 4, none⟩ = some (.bool true) ∧ w'.cell? ⟨g, 5, none⟩ = some (.string fd) ∧ w'.cell? ⟨g, 6, none⟩ = some (.string fm) ∧ w'.cell? ⟨g, 7, none⟩ = some (.slice A n c)) ∧ Mod [] w2 w')
    (first | exact HS.out | assumption)
    (first
      | (go_at_call 56; refine (fr_keep (f := ⟨fk, fa, fb, fc, true, fd, fm, fl⟩) HB2.out P3.out (by assumption)).mono ?_; rintro e w' ⟨rfl, hS'⟩)
      | (go_at_call 55; refine (fr_keep (f := ⟨fk, fa, fb, fc, true, fd, fm, fl⟩) HB2.out (PP.out _ _ (by first | exact Or.inl ⟨rfl, rfl⟩ | exact Or.inr ⟨rfl, rfl⟩)) (by assumption)).mono ?_; rintro e w' ⟨rfl, hS'⟩))
  all_goals
    go_wp2_with fail
    go_ret
    exact ⟨congrArg _ (str_of HF.out), HM2.out.trans hS'.2 (by simp)⟩

theorem stream_any (w : World) (A : Option Addr) (n c : Nat) (f : Fr) (hd : f.data.size ≤ 16384) :
    Calls Tryd.prog 72 #[fval A n c f] w fun e w' => e = .returned (str (fstream f)) ∧ Mod [] w w' := by
  by_cases hb : f.b = 0
  · cases hf : f.fin
    · exact stream0f_any w A n c f hd hb hf
    · exact stream0t_any w A n c f hd hb hf
  · cases hf : f.fin
    · exact stream1f_any w A n c f hd hb hf
    · exact stream1t_any w A n c f hd hb hf
end Go.Proofs.YtbjmcnmcodbkdaaDoor

/-
  strings.Builder: WriteString and String.
-/
namespace Go.Proofs.YtbjmcnmcodbkdaaDoor
open Go.RowKit

def bldwRen : Go.Shelf.Ren := ⟨fun | 166 => 30 | 240 => 57 | 276 => 75 | 169 => 31 | n => n, fun | 0 => 0 | 3 => 3 | 4 => 4 | 5 => 5 | 9 => 9 | 20 => 20 | 37 => 55 | 70 => 54 | 72 => 57 | 75 => 61 | 80 => 64 | 127 => 90 | 164 => 103 | n => n, fun n => n⟩
theorem bldwLays : Go.Proofs.Lays.n166 Tryd.prog bldwRen := {
  mixed := by kernel_rfl,
  f166 := Tryd.func30.trans (congrArg some (by kernel_rfl)),
  f240 := Tryd.func57.trans (congrArg some (by kernel_rfl)),
  f276 := Tryd.func75.trans (congrArg some (by kernel_rfl)),
  t0 := Tryd.underlying0,
  a0 := Tryd.isAgg0,
  z0 := Tryd.sizeOf0,
  v0 := Tryd.zeroValue0,
  t3 := Tryd.underlying3,
  a3 := Tryd.isAgg3,
  z3 := Tryd.sizeOf3,
  v3 := Tryd.zeroValue3,
  t4 := Tryd.underlying4,
  a4 := Tryd.isAgg4,
  z4 := Tryd.sizeOf4,
  v4 := Tryd.zeroValue4,
  t9 := Tryd.underlying9,
  a9 := Tryd.isAgg9,
  z9 := Tryd.sizeOf9,
  v9 := Tryd.zeroValue9,
  t20 := Tryd.underlying20,
  a20 := Tryd.isAgg20,
  z20 := Tryd.sizeOf20,
  v20 := Tryd.zeroValue20,
  t37 := Tryd.underlying55,
  a37 := Tryd.isAgg55,
  z37 := Tryd.sizeOf55,
  v37 := Tryd.zeroValue55,
  t70 := Tryd.underlying54,
  a70 := Tryd.isAgg54,
  z70 := Tryd.sizeOf54,
  v70 := Tryd.zeroValue54,
  t72 := Tryd.underlying57,
  a72 := Tryd.isAgg57,
  z72 := Tryd.sizeOf57,
  v72 := Tryd.zeroValue57,
  t75 := Tryd.underlying61,
  a75 := Tryd.isAgg61,
  z75 := Tryd.sizeOf61,
  v75 := Tryd.zeroValue61,
  t164 := Tryd.underlying103,
  a164 := Tryd.isAgg103,
  z164 := Tryd.sizeOf103,
  v164 := Tryd.zeroValue103 }
theorem bldsLays : Go.Proofs.Lays.n169 Tryd.prog bldwRen := {
  mixed := by kernel_rfl,
  f169 := Tryd.func31.trans (congrArg some (by kernel_rfl)),
  t0 := Tryd.underlying0,
  a0 := Tryd.isAgg0,
  z0 := Tryd.sizeOf0,
  v0 := Tryd.zeroValue0,
  t3 := Tryd.underlying3,
  a3 := Tryd.isAgg3,
  z3 := Tryd.sizeOf3,
  v3 := Tryd.zeroValue3,
  t9 := Tryd.underlying9,
  a9 := Tryd.isAgg9,
  z9 := Tryd.sizeOf9,
  v9 := Tryd.zeroValue9,
  t37 := Tryd.underlying55,
  a37 := Tryd.isAgg55,
  z37 := Tryd.sizeOf55,
  v37 := Tryd.zeroValue55,
  t70 := Tryd.underlying54,
  a70 := Tryd.isAgg54,
  z70 := Tryd.sizeOf54,
  v70 := Tryd.zeroValue54,
  t72 := Tryd.underlying57,
  a72 := Tryd.isAgg57,
  z72 := Tryd.sizeOf57,
  v72 := Tryd.zeroValue57,
  t127 := Tryd.underlying90,
  a127 := Tryd.isAgg90,
  z127 := Tryd.sizeOf90,
  v127 := Tryd.zeroValue90 }

theorem bldX : Go.Proofs.Builder.Extra Tryd.prog bldwRen := {
  sizeBuilder := by kernel_rfl,
  liesBuilder := by kernel_rfl,
  t5 := Tryd.underlying5,
  a5 := Tryd.isAgg5,
  z5 := Tryd.sizeOf5,
  v5 := Tryd.zeroValue5,
  infoByte := by kernel_rfl,
  cellsByte := by kernel_rfl,
  sizeByte := by kernel_rfl,
  neB5 := by decide }

/-- a builder that holds the bytes l -/
def BldO (w : World) (B b : Nat) (l : List UInt8) : Prop := Lib.IsBuilderF 57 5 B b (l.map bv) w
theorem BldO.new (w : World) (B : Nat) (hB : B ≤ w.heap.size) : BldO (w.alloc (.cells #[.pointer none, .slice none 0 0] 57)) B w.heap.size [] :=
  .inl (Lib.BuilderAtF.of (T := 57) (e := 5) (p := .pointer none) (bs := []) ⟨hB, _, heap_alloc_new w _, World.ownsRow_nil _ _ _ _, by simp [Value.ownBlock]⟩)

/-- w' is w, but for bytes, the builder b, and new blocks -/
structure BStep (B b : Nat) (w w' : World) : Prop where
  below : Below B w w'
  others : Lib.OthersKept 5 (some b) w w'
theorem BStep.blk {B b g : Nat} {w w' : World} {t : TypeId} {cs : Array Value} (h : BStep B b w w') (hb : Blk w g t cs) (hg : g ≠ b) (ht : t ≠ 5) : Blk w' g t cs :=
  h.others g _ hb (fun e => hg (Option.some.inj e)) (fun c fz e => by cases e; exact ht rfl)
theorem BStep.mod {B b : Nat} {W w w' : World} (h : BStep B b w w') (hm : Mod [] W w) (hB : W.heap.size ≤ B) : Mod [] W w' :=
  ⟨h.below.os.trans hm.os, h.below.tape.trans hm.tape, h.below.output.trans hm.output, Nat.le_trans hm.size h.below.size, fun k hk _ =>
    (h.below.block k (by omega)).trans (hm.block k hk (by simp))⟩

theorem BldO.fresh {w : World} {B b : Nat} (h : Blk w b 57 #[.pointer none, .slice none 0 0]) (hB : B ≤ b) : BldO w B b [] :=
  .inl (Lib.BuilderAtF.of (T := 57) (e := 5) (p := .pointer none) (bs := []) ⟨hB, _, h, World.ownsRow_nil _ _ _ _, by simp [Value.ownBlock]⟩)
theorem BldO.mod {F : List Nat} {w w' : World} {B b : Nat} {l : List UInt8} (h : BldO w B b l) (hm : Mod F w w') (hF : ∀ g ∈ F, g ≠ b ∧ ∀ cs fz, w.heap[g]? ≠ some (.cells cs 5 fz)) : BldO w' B b l := by
  have key : ∀ p, Lib.BuilderAtF 57 5 B b p (l.map bv) w → Lib.BuilderAtF 57 5 B b p (l.map bv) w' := by
    rintro p ⟨hB, v, hb, ⟨ho1, ho2⟩, hne⟩
    refine ⟨hB, v, (hm.block b (Array.getElem?_eq_some_iff.1 hb).1 (fun hf => (hF b hf).1 rfl)).trans hb, ⟨ho1, ?_⟩, hne⟩
    rcases ho2 with h0 | ⟨g, cap, cur, fz, hv, hg, hh, rest⟩
    · exact .inl h0
    · exact .inr ⟨g, cap, cur, fz, hv, hg, (hm.block g (Array.getElem?_eq_some_iff.1 hh).1 (fun hf => (hF g hf).2 _ _ hh)).trans hh, rest⟩
  rcases h with h | h
  · exact .inl (key _ h)
  · exact .inr (key _ h)
theorem BldO.lt {w : World} {B b : Nat} {l : List UInt8} (h : BldO w B b l) : b < w.heap.size := by
  rcases h with ⟨_, v, hb, _⟩ | ⟨_, v, hb, _⟩ <;> exact (Array.getElem?_eq_some_iff.1 hb).1
theorem BldO.blk {w : World} {B b : Nat} {l : List UInt8} (h : BldO w B b l) : ∃ cs, Blk w b 57 cs := by
  rcases h with ⟨_, v, hb, _⟩ | ⟨_, v, hb, _⟩ <;> exact ⟨_, hb⟩
theorem BStep.own {B b base size n : Nat} {w w' : World} {e : TypeId} {v : Value} {xs : List Value} (h : BStep B b w w') (ho : w.ownsRow base e size v n xs) (he : e ≠ 5) (hb : ∃ cs, Blk w b 57 cs) (he2 : e ≠ 57) : w'.ownsRow base e size v n xs := by
  refine ⟨ho.1, ?_⟩
  rcases ho.2 with h0 | ⟨g, cap, cur, hv, hg, hh, r⟩
  · exact .inl h0
  · obtain ⟨cs, hb⟩ := hb
    exact .inr ⟨g, cap, cur, hv, hg, h.blk (t := e) hh (Blk.ne_ (t := e) hh hb he2) he, r⟩
theorem BStep.get {B b k : Nat} {w w' : World} {es : Array MapEntry} {c : Nat} (h : BStep B b w w') (hk : w.heap[k]? = some (.map es c)) (hb : k ≠ b) : w'.heap[k]? = some (.map es c) :=
  h.others k _ hk (fun e => hb (Option.some.inj e)) (fun _ _ e => by cases e)

theorem bwrite_any (w : World) (B b : Nat) (l : List UInt8) (s : ByteArray) (h : BldO w B b l) (hl : l.length + s.size ≤ 140737488355328) (hB : B ≤ w.heap.size) :
    Calls Tryd.prog 30 #[.pointer (some ⟨b, 0, none⟩), .string s] w fun e w' => e = .returned (.tuple #[.int .i64 s.size, .nilIface]) ∧ BldO w' B b (l ++ s.data.toList) ∧ BStep B b w w' := by
  have hc : Calls Tryd.prog 30 #[.pointer (some ⟨b, 0, none⟩), .string s] w _ := Any.Builder_WriteString_k bldwLays bldX B b (l.map bv) s w h (by simpa using hl) hB
  refine hc.mono ?_
  rintro e w' ⟨rfl, h1, h2, h3⟩
  refine ⟨rfl, ?_, ⟨h2, h3⟩⟩
  refine .inr ?_
  rw [List.map_append]
  exact h1
theorem bstring_any (w : World) (B b : Nat) (l : List UInt8) (h : BldO w B b l) (hB : B ≤ w.heap.size) :
    Calls Tryd.prog 31 #[.pointer (some ⟨b, 0, none⟩)] w fun e w' => e = .returned (str l) ∧ BStep B b w w' := by
  have hc : Calls Tryd.prog 31 #[.pointer (some ⟨b, 0, none⟩)] w _ := Any.Builder_String_any_k bldsLays bldX B b l w h hB
  refine hc.mono ?_
  rintro e w' ⟨rfl, h1, h2, h3⟩
  exact ⟨rfl, ⟨h2, h3⟩⟩
end Go.Proofs.YtbjmcnmcodbkdaaDoor
