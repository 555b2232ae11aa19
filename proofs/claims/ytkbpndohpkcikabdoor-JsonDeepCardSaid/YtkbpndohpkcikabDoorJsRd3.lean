/-
  json: the reader: text.
-/
import Derived.Test.YtkbpndohpkcikabDoorJsRd2
import Derived.Test.YtkbpndohpkcikabDoorJsBld
namespace Go.Proofs.YtkbpndohpkcikabDoor
open Go.RowKit Js Go.Sort
set_option linter.unusedVariables false

theorem BStep.modF {F : List Nat} {B b : Nat} {W w w' : World} (h : BStep B b w w') (hm : Mod F W w) (hB : W.heap.size ≤ B) : Mod F W w' :=
  ⟨h.below.os.trans hm.os, h.below.tape.trans hm.tape, h.below.output.trans hm.output, Nat.le_trans hm.size h.below.size, fun k hk hn =>
    (h.below.block k (by omega)).trans (hm.block k hk hn)⟩
theorem Rd.bstep {B b p k : Nat} {s : ByteArray} {w w' : World} (h : Rd w p s k) (hb : BStep B b w w') (hp : p < B) : Rd w' p s k :=
  ⟨(hb.below.block p hp).trans h.blk, h.le, h.small⟩
theorem BldO.rd {B b p k : Nat} {s : ByteArray} {w w' : World} {l : List UInt8} (h : BldO w B b l) (hr : Rd w p s k) (m : Mod [p] w w') (hp : p ≠ b) : BldO w' B b l :=
  h.mod m (fun g hg => by
    rw [List.mem_singleton] at hg
    subst hg
    refine ⟨hp, fun cs fz e => ?_⟩
    have h1 : w.heap[g]? = _ := hr.blk
    rw [h1] at e
    injection e with e
    injection e with _ e2 _
    revert e2; decide)
theorem jtxt_nil {s : ByteArray} {j : Nat} (h : rst s j = []) : jtxtT (rst s j) = .er (rst s j) := by rw [h]; rfl
theorem jtxt_bad {c : UInt8} {t : List UInt8} (h : pri c = false) : jtxtT (c :: t) = .er (c :: t) := by
  rw [jtxtT_eq]
  simp only [jtake, h, Bool.false_eq_true, if_false, PR.bind]
theorem jtxt_end (t : List UInt8) : jtxtT (34 :: t) = .ok [] t := by
  rw [jtxtT_eq]
  rfl
theorem jtxt_esc (t : List UInt8) : jtxtT (92 :: t) = (jesc t).bind fun b r => (jtxtT r).bind fun l r => .ok (b :: l) r := by
  conv => lhs; rw [jtxtT_eq]
  rfl
theorem jtxt_one {c : UInt8} {t : List UInt8} (h : pri c = true) (h1 : c ≠ 34) (h2 : c ≠ 92) : jtxtT (c :: t) = (jtxtT t).bind fun l r => .ok (c :: l) r := by
  conv => lhs; rw [jtxtT_eq]
  simp only [jtake, h, if_true, PR.bind, if_neg h1, if_neg h2]
theorem bind_acc {x : PR (List UInt8)} {acc : List UInt8} {c : UInt8} : ((x.bind fun l r => .ok (c :: l) r).bind fun l r => PR.ok (acc ++ l) r) = x.bind fun l r => .ok ((acc ++ [c]) ++ l) r := by
  cases x with
  | er r => rfl
  | ok l r => simp [PR.bind]
theorem quoS_in : inB ⟨#[34]⟩ = (· == 34) := by
  funext x
  unfold inB
  show List.contains [34] x = _
  rw [List.contains_cons, List.contains_nil, Bool.or_false]

set_option maxRecDepth 100000 in
set_option maxHeartbeats 16000000 in
theorem text_any (w : World) (p k : Nat) (s : ByteArray) (h : Rd w p s k) :
    Calls Tryd.prog 30 #[.pointer (some ⟨p, 0, none⟩)] w (RP w p s (jtext (rst s k)) fun l _ u => u = str l) := by
  have hpw := h.blk.lt
  obtain ⟨B, hB⟩ : ∃ B, w.heap.size = B := ⟨_, rfl⟩
  have HB := hide hB
  have hB0 : BldO (w.alloc (.cells #[.pointer none, .slice none 0 0] 41)) w.heap.size w.heap.size [] := BldO.new w _ (Nat.le_refl _)
  have hr0 : Rd (w.alloc (.cells #[.pointer none, .slice none 0 0] 41)) p s k := h.mod ((Mod.refl [] w).alloc _) (by simp)
  have hT := take_any _ p k s ⟨#[34]⟩ hr0
  rw [quoS_in] at hT
  have HT := hide hT
  have HM0 := hide ((Mod.refl [p] w).alloc (.cells #[.pointer none, .slice none 0 0] 41))
  have HBl := hide hB0
  have HR0 := hide hr0
  have HPB : Hid (p < B) := hide (by omega)
  have HPn : Hid (p ≠ B) := hide (by omega)
  have HNx := hide (fun w' k' (h' : Rd w' p s k') => next_mod w' p k' s h')
  have HFl := hide (fun w' k' (h' : Rd w' p s k') => fail_any w' p k' s h')
  have HEs := hide (fun w' k' (h' : Rd w' p s k') => escaped_any w' p k' s h')
  rw [hB] at HBl
  clear h hpw hB0 hr0 hT
  go_enter Tryd.func30, Tryd.ntmps30
  go_wp2_with fail
  refine HT.out.mono ?_
  rintro e w1 ⟨m1, hp⟩
  have HM1 := hide (HM0.out.trans m1 (by simp))
  have HB1 := hide (HBl.out.rd HR0.out m1 HPn.out)
  cases hx : jtake (· == 34) (rst s k) with
  | er r =>
    rw [hx] at hp
    obtain ⟨k1, rfl, h1, h2⟩ := hp
    have HE : Hid (jtext (rst s k) = .er r) := hide (by unfold jtext; rw [hx]; rfl)
    clear m1 hx
    go_wp2_with fail
    rename_i heq
    cases heq
    exact ⟨rfl, RP.er HE.out HM1.out h1 h2⟩
  | ok c r =>
    rw [hx] at hp
    obtain ⟨k1, u, rfl, rfl, h1, h2⟩ := hp
    have HE0 : Hid (jtext (rst s k) = jtxtT (rst s k1)) := hide (by unfold jtext; rw [hx, h2]; rfl)
    have H1 := hide h1
    try rw [hB]
    clear m1 hx h1 h2 hB
    go_wp2_with fail
    go_loopw [] (fun wr => ∃ (j : Nat) (acc : List UInt8), j ≤ s.size ∧ acc.length ≤ j ∧ Hid (Mod [p] w wr) ∧ Hid (Rd wr p s j) ∧ Hid (BldO wr B B acc) ∧ Hid (jtext (rst s k) = (jtxtT (rst s j)).bind fun l r => .ok (acc ++ l) r)) (fun wr => s.size - atOf p wr)
    case atStart => exact ⟨k1, [], H1.out.le, by simp, HM1, H1, HB1, hide (by rw [HE0.out]; cases jtxtT (rst s k1) <;> rfl)⟩
    case round =>
      obtain ⟨j, acc, hj, hacc, hm, hr, hb, hq⟩ := hrel
      have hs := hr.out.small
      have y1' : wr.cell? ⟨p, 1, none⟩ = some (.int .i64 (j : Nat)) := hr.out.blk.cell 1
      have HA : Hid (atOf p wr = j) := hide (by unfold atOf; rw [y1']; rfl)
      clear y1'
      have hBw : B ≤ wr.heap.size := by have := hb.out.lt; omega
      have HBw := hide hBw
      clear hBw
      have HNj := hide (HNx.out wr j hr.out)
      cases hq2 : rst s j with
      | nil =>
        have HE : Hid (jtext (rst s k) = .er (rst s j)) := hide (by rw [hq.out, jtxt_nil hq2]; rfl)
        rw [hq2] at HNj
        clear hq2
        go_wp2_with fail
        refine HNj.out.mono ?_
        rintro e w2 ⟨rfl, m2, hr2⟩
        simp only [List.head?_nil, Option.getD_none]
        have e0 : ((0 : UInt8).toNat : Int) = 0 := rfl
        rw [e0]
        have HM2 := hide (hm.out.trans m2 (by simp))
        have HR2 := hide hr2
        clear m2 hr2
        go_wp2_with fail
        refine (HFl.out _ _ HR2.out).mono ?_
        rintro e w3 ⟨rfl, rfl⟩
        go_wp2_with fail
        rename_i heq
        cases heq
        exact ⟨rfl, RP.er HE.out HM2.out hj rfl⟩
      | cons c t =>
        obtain ⟨h1, h2, h3⟩ := rst_cons hq2
        have HK := hide h1
        have HT3 := hide h3
        have HQ2 := hide hq2
        rw [hq2] at HNj
        have hqq := hq.out
        rw [hq2] at hqq
        have a1 : IntKind.i64.wrap ((j : Int) + 1) = (j : Int) + 1 := IntWalk.i64_in _ (by omega)
        clear h1 h2 h3 hq2
        cases hpc : pri c with
        | false =>
          have HE : Hid (jtext (rst s k) = .er (rst s j)) := hide (by rw [hqq, jtxt_bad hpc, HQ2.out]; rfl)
          have hor : c.toNat < 32 ∨ 126 < c.toNat := by
            unfold pri at hpc
            simp only [Bool.and_eq_false_iff, decide_eq_false_iff_not, UInt8.le_iff_toNat_le] at hpc
            rcases hpc with h | h
            · left; exact Nat.lt_of_not_le h
            · right; exact Nat.lt_of_not_le h
          have HOr := hide hor
          obtain ⟨n, hn⟩ : ∃ n, c.toNat = n := ⟨_, rfl⟩
          rw [hn] at hor
          clear hpc hqq
          have g1 : decide ((n : Int) < 32) = decide (n < 32) := by rw [decide_eq_decide]; omega
          rcases Nat.lt_or_ge n 32 with h32 | h32
          · have g2 : decide ((n : Int) < 32) = true := decide_eq_true (by omega)
            have g3 : decide (n < 32) = true := decide_eq_true h32
            clear g1 hor
            go_wp2_with fail
            refine HNj.out.mono ?_
            rintro e w2 ⟨rfl, m2, hr2⟩
            simp only [List.head?_cons, Option.getD_some, hn]
            have HM2 := hide (hm.out.trans m2 (by simp))
            have HR2 := hide hr2
            clear m2 hr2 h32
            go_wp2_with fail
            refine (HFl.out _ _ HR2.out).mono ?_
            rintro e w3 ⟨rfl, rfl⟩
            go_wp2_with fail
            rename_i heq
            cases heq
            exact ⟨rfl, RP.er HE.out HM2.out hj rfl⟩
          · have g2 : decide ((n : Int) < 32) = false := decide_eq_false (by omega)
            have g3 : decide (n < 32) = false := decide_eq_false (by omega)
            have g4 : decide ((126 : Int) < n) = true := decide_eq_true (by omega)
            have g5 : decide (126 < n) = true := decide_eq_true (by omega)
            clear g1 hor
            go_wp2_with fail
            refine HNj.out.mono ?_
            rintro e w2 ⟨rfl, m2, hr2⟩
            simp only [List.head?_cons, Option.getD_some, hn]
            have HM2 := hide (hm.out.trans m2 (by simp))
            have HR2 := hide hr2
            clear m2 hr2 h32
            go_wp2_with fail
            refine (HFl.out _ _ HR2.out).mono ?_
            rintro e w3 ⟨rfl, rfl⟩
            go_wp2_with fail
            rename_i heq
            cases heq
            exact ⟨rfl, RP.er HE.out HM2.out hj rfl⟩
        | true =>
          have hor : 32 ≤ c.toNat ∧ c.toNat ≤ 126 := by
            have h := hpc
            unfold pri at h
            simp only [Bool.and_eq_true, decide_eq_true_eq, UInt8.le_iff_toNat_le] at h
            exact h
          obtain ⟨n, hn⟩ : ∃ n, c.toNat = n := ⟨_, rfl⟩
          have HN := hide hn
          rw [hn] at hor
          have g2 : decide ((n : Int) < 32) = false := decide_eq_false (by omega)
          have g3 : decide (n < 32) = false := decide_eq_false (by omega)
          have g4 : decide ((126 : Int) < n) = false := decide_eq_false (by omega)
          have g5 : decide (126 < n) = false := decide_eq_false (by omega)
          have HPc := hide hpc
          have HQq := hide hqq
          clear hpc hqq hor
          by_cases c34 : c = 34
          · have n34 : n = 34 := by rw [← hn, c34]; rfl
            have HE : Hid (jtext (rst s k) = .ok acc t) := hide (by rw [HQq.out, c34, jtxt_end]; simp [PR.bind])
            have g6 : ((n : Int) == 34) = true := by rw [n34]; rfl
            have g7 : (n == 34) = true := by rw [n34]; rfl
            clear n34 c34
            go_wp2_with fail
            refine HNj.out.mono ?_
            rintro e w2 ⟨rfl, m2, hr2⟩
            simp only [List.head?_cons, Option.getD_some, hn]
            have HM2 := hide (hm.out.trans m2 (by simp))
            have H1 := hide hr2
            have HB2 := hide (hb.out.mod m2 (by simp))
            have HS2 := hide m2.size
            clear m2 hr2
            have y0 : w2.cell? ⟨p, 0, none⟩ = some (.string s) := H1.out.blk.cell 0
            have y1 : w2.cell? ⟨p, 1, none⟩ = some (.int .i64 (j : Nat)) := H1.out.blk.cell 1
            have u1 : w2.frozen? ⟨p, 1, none⟩ = false := H1.out.blk.frozen 1
            have lp := H1.out.blk.lt
            go_wp2_with fail
            have H3 := hide (H1.out.step HK.out)
            have m3 : Mod [p] w2 (w2.setCell ⟨p, 1, none⟩ (.int .i64 ((j : Int) + 1))) := (Mod.refl [p] w2).setCell (.inl (by simp)) _
            have HM3 := hide (HM2.out.trans m3 (by simp))
            have HB3 := hide (HB2.out.rd H1.out m3 HPn.out)
            have HS3 : Hid (B ≤ (w2.setCell ⟨p, 1, none⟩ (.int .i64 ((j : Int) + 1))).heap.size) := hide (Nat.le_trans (Nat.le_trans HBw.out HS2.out) m3.size)
            clear m3
            refine (bstring_any _ B B acc HB3.out HS3.out).mono ?_
            rintro e w4 ⟨rfl, hst⟩
            have HM4 := hide (hst.modF HM3.out (by rw [HB.out]; exact Nat.le_refl _))
            have HR4 := hide (H3.out.bstep hst HPB.out)
            clear hst
            unfold str
            go_wp2_with fail
            go_ret
            exact RP.ok HE.out HM4.out rfl HR4.out HT3.out
          · have n34 : n ≠ 34 := fun e => c34 (UInt8.toNat_inj.1 (by rw [hn, e]; rfl))
            have g6 : ((n : Int) == 34) = false := by rw [beq_eq_false_iff_ne]; omega
            have g7 : (n == 34) = false := by rw [beq_eq_false_iff_ne]; exact n34
            by_cases c92 : c = 92
            · have n92 : n = 92 := by rw [← hn, c92]; rfl
              have g8 : ((n : Int) == 92) = true := by rw [n92]; rfl
              have g9 : (n == 92) = true := by rw [n92]; rfl
              have HE : Hid (jtext (rst s k) = ((jesc (rst s (j + 1))).bind fun b r => (jtxtT r).bind fun l r => .ok (b :: l) r).bind fun l r => .ok (acc ++ l) r) := hide (by rw [HQq.out, c92, jtxt_esc, HT3.out])
              clear n34 n92 c34 c92
              go_wp2_with fail
              refine HNj.out.mono ?_
              rintro e w2 ⟨rfl, m2, hr2⟩
              simp only [List.head?_cons, Option.getD_some, hn]
              have HM2 := hide (hm.out.trans m2 (by simp))
              have H1 := hide hr2
              have HB2 := hide (hb.out.mod m2 (by simp))
              have HS2 := hide m2.size
              clear m2 hr2
              have y0 : w2.cell? ⟨p, 0, none⟩ = some (.string s) := H1.out.blk.cell 0
              have y1 : w2.cell? ⟨p, 1, none⟩ = some (.int .i64 (j : Nat)) := H1.out.blk.cell 1
              have u1 : w2.frozen? ⟨p, 1, none⟩ = false := H1.out.blk.frozen 1
              have lp := H1.out.blk.lt
              go_wp2_with fail
              have H3 := hide (H1.out.step HK.out)
              have m3 : Mod [p] w2 (w2.setCell ⟨p, 1, none⟩ (.int .i64 ((j : Int) + 1))) := (Mod.refl [p] w2).setCell (.inl (by simp)) _
              have HM3 := hide (HM2.out.trans m3 (by simp))
              have HB3 := hide (HB2.out.rd H1.out m3 HPn.out)
              have HS3 : Hid (B ≤ (w2.setCell ⟨p, 1, none⟩ (.int .i64 ((j : Int) + 1))).heap.size) := hide (Nat.le_trans (Nat.le_trans HBw.out HS2.out) m3.size)
              clear m3 y0 y1 u1 lp
              refine (HEs.out _ _ H3.out).mono ?_
              rintro e w4 ⟨m4, hp⟩
              have HM4 := hide (HM3.out.trans m4 (by simp))
              have HB4 := hide (HB3.out.rd H3.out m4 HPn.out)
              have HS4 := hide (Nat.le_trans HS3.out m4.size)
              cases hx : jesc (rst s (j + 1)) with
              | er r =>
                rw [hx] at hp
                obtain ⟨k2, rfl, h1, h2⟩ := hp
                have HE2 : Hid (jtext (rst s k) = .er r) := hide (by rw [HE.out, hx]; rfl)
                clear m4 hx
                go_wp2_with fail
                rename_i heq
                cases heq
                exact ⟨rfl, RP.er HE2.out HM4.out h1 h2⟩
              | ok c2 r2 =>
                rw [hx] at hp
                obtain ⟨k2, u, rfl, rfl, h1, h2⟩ := hp
                have HE2 : Hid (jtext (rst s k) = (jtxtT (rst s k2)).bind fun l r => .ok ((acc ++ [c2]) ++ l) r) := hide (by
                  rw [HE.out, hx, h2]
                  exact bind_acc)
                have hle := (Good.esc.at_ (rst s (j + 1))).le hx
                have hk2 : j + 1 ≤ k2 := by
                  rw [← h2, rst_len s h1.le, rst_len s H3.out.le] at hle
                  have := h1.le
                  have := H3.out.le
                  omega
                have H4 := hide h1
                have HK2 := hide hk2
                have HA2 : Hid (acc.length + 1 ≤ 140737488355328) := hide (by omega)
                clear m4 hx h1 h2 hle hk2
                go_wp2_with fail
                refine (bbyte_any _ B B acc c2 HB4.out HA2.out HS4.out).mono ?_
                rintro e w5 ⟨rfl, hb5, hst⟩
                have HM5 := hide (hst.modF HM4.out (by rw [HB.out]; exact Nat.le_refl _))
                have HR5 := hide (H4.out.bstep hst HPB.out)
                have HB5 := hide hb5
                clear hst hb5
                go_wp2_with fail
                have hk2 := HK2.out
                have hle5 := HR5.out.le
                refine ⟨?rel, ?measure⟩
                case rel => exact ⟨k2, acc ++ [c2], hle5, by simp; omega, HM5, HR5, HB5, HE2⟩
                case measure =>
                  have e : atOf p w5 = k2 := by
                    unfold atOf
                    rw [HR5.out.blk.cell 1]
                    rfl
                  rw [HA.out, e]
                  omega
            · have n92 : n ≠ 92 := fun e => c92 (UInt8.toNat_inj.1 (by rw [hn, e]; rfl))
              have g8 : ((n : Int) == 92) = false := by rw [beq_eq_false_iff_ne]; omega
              have g9 : (n == 92) = false := by rw [beq_eq_false_iff_ne]; exact n92
              have HE2 : Hid (jtext (rst s k) = (jtxtT (rst s (j + 1))).bind fun l r => .ok ((acc ++ [c]) ++ l) r) := hide (by
                rw [HQq.out, jtxt_one HPc.out c34 c92, HT3.out]
                exact bind_acc)
              clear n34 n92 c34 c92
              go_wp2_with fail
              refine HNj.out.mono ?_
              rintro e w2 ⟨rfl, m2, hr2⟩
              simp only [List.head?_cons, Option.getD_some, hn]
              have HM2 := hide (hm.out.trans m2 (by simp))
              have H1 := hide hr2
              have HB2 := hide (hb.out.mod m2 (by simp))
              have HS2 := hide m2.size
              clear m2 hr2
              have y0 : w2.cell? ⟨p, 0, none⟩ = some (.string s) := H1.out.blk.cell 0
              have y1 : w2.cell? ⟨p, 1, none⟩ = some (.int .i64 (j : Nat)) := H1.out.blk.cell 1
              have u1 : w2.frozen? ⟨p, 1, none⟩ = false := H1.out.blk.frozen 1
              have lp := H1.out.blk.lt
              go_wp2_with fail
              have H3 := hide (H1.out.step HK.out)
              have m3 : Mod [p] w2 (w2.setCell ⟨p, 1, none⟩ (.int .i64 ((j : Int) + 1))) := (Mod.refl [p] w2).setCell (.inl (by simp)) _
              have HM3 := hide (HM2.out.trans m3 (by simp))
              have HB3 := hide (HB2.out.rd H1.out m3 HPn.out)
              have HS3 : Hid (B ≤ (w2.setCell ⟨p, 1, none⟩ (.int .i64 ((j : Int) + 1))).heap.size) := hide (Nat.le_trans (Nat.le_trans HBw.out HS2.out) m3.size)
              have hA2 : acc.length + 1 ≤ 140737488355328 := by omega
              have HBb := hide (bbyte_any _ B B acc c HB3.out hA2 HS3.out)
              rw [HN.out] at HBb
              clear m3 y0 y1 u1 lp hA2
              refine HBb.out.mono ?_
              rintro e w5 ⟨rfl, hb5, hst⟩
              have HM5 := hide (hst.modF HM3.out (by rw [HB.out]; exact Nat.le_refl _))
              have HR5 := hide (H3.out.bstep hst HPB.out)
              have HB5 := hide hb5
              clear hst hb5
              go_wp2_with fail
              have hle5 := HR5.out.le
              refine ⟨?rel, ?measure⟩
              case rel => exact ⟨j + 1, acc ++ [c], hle5, by simp; omega, HM5, HR5, HB5, HE2⟩
              case measure =>
                have e : atOf p w5 = j + 1 := by
                  unfold atOf
                  rw [HR5.out.blk.cell 1]
                  rfl
                rw [HA.out, e]
                omega
end Go.Proofs.YtkbpndohpkcikabDoor
