/-
  inbox: Put.
-/
import Derived.Test.YtfbcbddfmiiilaaIbJoin
namespace Go.Proofs.Ytfbcbddfmiiilaa
open Go.RowKit

def Ib.putErr (o : Ib) (a len : Nat) (fin : Bool) : Int := if 4611686018427387903 < a then 20 else o.fitErr (a + len) fin
/-- how far bytes came, and the final size, are told -/
def Ib.came (o : Ib) (e : Nat) (fin : Bool) : Ib := { o with far := max o.far e, final := if fin then e else o.final, known := o.known || fin }

/-- What a Put makes of an inbox. -/
structure Put (o : Ib) (a : Nat) (D : List UInt8) (fin : Bool) (o' : Ib) : Prop where
  bad : o.putErr a D.length fin ≠ 0 → o' = o
  old : o.putErr a D.length fin = 0 → o.reset = true → o' = o.came (a + D.length) fin
  new : o.putErr a D.length fin = 0 → o.reset = false → o' = { o.came (a + D.length) fin with ready := o'.ready, B := over o.B a D, supp := o.supp ++ List.range' a D.length } ∧ o.ready ≤ o'.ready
  wf : o'.WF

theorem Ib.fitErr_zero {o : Ib} {e : Nat} {fin : Bool} (h : o.fitErr e fin = 0) : e ≤ o.limit ∧ (o.known = true → e ≤ o.final ∧ (fin = true → e = o.final)) ∧ (fin = true → o.far ≤ e) := by
  unfold Ib.fitErr at h
  split at h
  · cases h
  · split at h
    · cases h
    · rename_i h1 h2
      refine ⟨by omega, fun hk => ⟨?_, fun hf => ?_⟩, fun hf => ?_⟩
      · exact Decidable.byContradiction fun hn => h2 (.inl ⟨hk, .inl (by omega)⟩)
      · exact Decidable.byContradiction fun hn => h2 (.inl ⟨hk, .inr ⟨hf, hn⟩⟩)
      · exact Decidable.byContradiction fun hn => h2 (.inr ⟨hf, by omega⟩)
theorem Ib.WF.came {o : Ib} (h : o.WF) {e : Nat} {fin : Bool} (h0 : o.fitErr e fin = 0) : (o.came e fin).WF := by
  obtain ⟨h1, h2, h3⟩ := Ib.fitErr_zero h0
  have ht := h.top
  refine ⟨h.lim, h.tk, h.fill, h.gap, fun n hn => ?_, ?_, fun hk => ?_, fun hk => ?_, h.supp, h.cut⟩
  · have := h.bound n hn
    simp only [Ib.came]; omega
  · simp only [Ib.came]; omega
  · cases hf : fin
    · have hk' : o.known = true := by simpa [Ib.came, hf] using hk
      have h4 := h.fin hk'
      have h5 := h2 hk'
      simp only [Ib.came, Bool.false_eq_true, if_false]
      omega
    · have h5 := h3 hf
      simp only [Ib.came, if_true]
      omega
  · cases hf : fin
    · have hk' : o.known = false := by simpa [Ib.came, hf] using hk
      simp only [Ib.came, Bool.false_eq_true, if_false]
      exact h.fin0 hk'
    · simp [Ib.came, hf] at hk

theorem over_isSome {C : Nat → Option UInt8} {a : Nat} {D : List UInt8} {n : Nat} : (over C a D n).isSome = true ↔ (C n).isSome = true ∨ (a ≤ n ∧ n < a + D.length) := by
  unfold over
  cases hC : C n with
  | some c => simp
  | none =>
    by_cases h : a ≤ n
    · rw [if_pos h, Option.none_or]
      rcases Nat.lt_or_ge (n - a) D.length with h2 | h2
      · rw [List.getElem?_eq_getElem h2]
        simp; omega
      · rw [List.getElem?_eq_none h2]
        simp; omega
    · rw [if_neg h]
      simp; omega
theorem put_wf {o : Ib} (h : o.WF) {a : Nat} {D : List UInt8} {fin : Bool} (h0 : o.fitErr (a + D.length) fin = 0) (hr : o.reset = false) {r : Nat} (h1 : o.ready ≤ r) (h2 : ∀ n, o.ready ≤ n → n < r → (over o.B a D n).isSome = true) (h3 : over o.B a D r = none) :
    ({ o.came (a + D.length) fin with ready := r, B := over o.B a D, supp := o.supp ++ List.range' a D.length } : Ib).WF := by
  have hc := h.came h0
  have htk := h.tk
  refine ⟨hc.lim, by simp only [Ib.came]; omega, fun n hn => ?_, h3, fun n hn => ?_, hc.top, hc.fin, hc.fin0, fun n hn => ?_, fun hk => ?_⟩
  · by_cases h4 : n < o.ready
    · exact over_isSome.2 (.inl (h.fill n h4))
    · exact h2 n (by omega) hn
  · rcases over_isSome.1 hn with h4 | h4
    · have := h.bound n h4
      simp only [Ib.came]; omega
    · simp only [Ib.came]; omega
  · rcases over_isSome.1 hn with h4 | h4
    · exact List.mem_append_left _ (h.supp n h4)
    · exact List.mem_append_right _ (List.mem_range'_1.2 h4)
  · rw [show ({ o.came (a + D.length) fin with ready := r, B := over o.B a D, supp := o.supp ++ List.range' a D.length } : Ib).reset = o.reset from rfl, hr] at hk
    cases hk

set_option maxRecDepth 100000 in
set_option maxHeartbeats 8000000 in
theorem iput_any (w : World) (b m : Nat) (o : Ib) (h : IBox w b m o) (a : Nat) (D : List UInt8) (fin : Bool) (ha : a ≤ 18446744073709551615) (hD : D.length ≤ 65536) (hroom : o.supp.length < 65536) :
    Calls Try.prog 10 #[.pointer (some ⟨b, 0, none⟩), .int .u64 a, str D, .bool fin] w fun e w' =>
      e = .returned (.int .i64 (o.putErr a D.length fin)) ∧ ∃ o', Put o a D fin o' ∧ IBox w' b m o' ∧ Mod [b, m] w w' := by
  have HE : Hid (o.putErr a D.length fin = if 4611686018427387903 < a then 20 else o.fitErr (a + D.length) fin) := hide rfl
  obtain ⟨S1, hS1⟩ : ∃ S : ByteArray, S = ⟨D.toArray⟩ := ⟨_, rfl⟩
  have hS1s : S1.size = D.length := by rw [hS1]; rfl
  have hstr : str D = .string S1 := by rw [hS1]; rfl
  have hwD : IntKind.u64.wrap (D.length : Int) = D.length := IntWalk.u64_in _ (by omega)
  have HStr := hide hstr
  rw [hstr]
  clear hS1 hstr
  have bad : o.putErr a D.length fin ≠ 0 → ∀ n, ∃ o', Put o a D fin o' ∧ IBox (w.drewN n) b m o' ∧ Mod [b, m] w (w.drewN n) := fun hne n =>
    ⟨o, ⟨fun _ => rfl, fun h0 => absurd h0 hne, fun h0 => absurd h0 hne, h.wf⟩, h.mod ((Mod.refl [] w).drewN n) (by simp) (by simp), (Mod.refl _ _).drewN n⟩
  have BAD := hide bad
  clear bad
  by_cases h1 : 4611686018427387903 < a
  · have h1' : (4611686018427387903 : Int) < a := by omega
    clear h
    go_enter Try.func10, Try.ntmps10
    go_wp2_with fail
    go_ret
    exact ⟨by rw [HE.out, if_pos h1]; rfl, BAD.out (by rw [HE.out, if_pos h1]; decide) 0⟩
  · have h1' : ¬ (4611686018427387903 : Int) < a := by omega
    obtain ⟨e, he⟩ : ∃ e, e = a + D.length := ⟨_, rfl⟩
    have he' : (a : Int) + D.length = e := by omega
    have hwe : IntKind.u64.wrap (e : Int) = e := IntWalk.u64_in _ (by omega)
    have hwe2 : IntKind.u64.wrap ((a : Int) + D.length) = e := by rw [he']; exact hwe
    have He := hide he
    rw [← he] at HE
    clear he
    obtain ⟨E, hE⟩ : ∃ E, o.fitErr e fin = E := ⟨_, rfl⟩
    have hfit := ifits_any w b m o h e fin
    rw [hE] at hfit
    have HFit := hide hfit
    clear hfit
    by_cases hE0 : E = 0
    · subst hE0
      have hwf := h.wf.came hE
      have herr : o.putErr a D.length fin = 0 := by rw [HE.out, if_neg h1]; exact hE
      have hfz := Ib.fitErr_zero hE
      have htop := h.wf.top
      have hlim := h.wf.lim
      have HErr := hide herr
      have HE0 := hide hE
      have HWF := hide hwf
      have HH := hide h
      have HFz := hide hfz
      clear hE herr hwf h hfz
      go_enter Try.func10, Try.ntmps10
      go_wp2_with fail
      refine HFit.out.mono ?_
      rintro x w1 ⟨rfl, n1, rfl⟩
      have hb1 : IBox (w.drewN n1) b m o := HH.out.mod ((Mod.refl [] w).drewN n1) (by simp) (by simp)
      obtain ⟨W1, hW1⟩ : ∃ W1, w.drewN n1 = W1 := ⟨_, rfl⟩
      have mW1 : Mod [b, m] w W1 := by rw [← hW1]; exact (Mod.refl _ _).drewN n1
      rw [hW1] at hb1 ⊢
      clear hW1
      have c4 := hb1.c4
      have c5 := hb1.c5
      have c6 := hb1.c6
      have c7 := hb1.c7
      have f4 := hb1.blk.frozen 4
      have f5 := hb1.blk.frozen 5
      have f6 := hb1.blk.frozen 6
      have hmax : ((max o.far e : Nat) : Int) = max (o.far : Int) e := by omega
      have HB1 := hide hb1
      clear hb1
      go_upto_if 34 with fail
      go_cut [] (fun wx => IBox wx b m (o.came e fin) ∧ Mod [b] W1 wx)
      case first =>
        cases fin
        · have hres : IBox (W1.setCell ⟨b, 4, none⟩ (.int .u64 (max (o.far : Int) e))) b m (o.came e false) ∧ Mod [b] W1 (W1.setCell ⟨b, 4, none⟩ (.int .u64 (max (o.far : Int) e))) := by
            have hmm : Mod [b] W1 (W1.setCell ⟨b, 4, none⟩ (.int .u64 (max (o.far : Int) e))) := (Mod.refl _ W1).setCell (p := ⟨b, 4, none⟩) (.inl (by simp)) _
            refine ⟨HB1.out.remade hmm ?_ rfl HWF.out, hmm⟩
            have := HB1.out.blk.set_ 4 (.int .u64 (max (o.far : Int) e))
            simp only [Ib.came, Bool.or_false, hmax]
            exact this
          have HR := hide hres
          clear hres
          go_wp2_with fail
          go_meet
          exact HR.out
        · have hres : IBox (((W1.setCell ⟨b, 4, none⟩ (.int .u64 (max (o.far : Int) e))).setCell ⟨b, 5, none⟩ (.int .u64 (e : Int))).setCell ⟨b, 6, none⟩ (.bool true)) b m (o.came e true) ∧
              Mod [b] W1 (((W1.setCell ⟨b, 4, none⟩ (.int .u64 (max (o.far : Int) e))).setCell ⟨b, 5, none⟩ (.int .u64 (e : Int))).setCell ⟨b, 6, none⟩ (.bool true)) := by
            have hmm : Mod [b] W1 (((W1.setCell ⟨b, 4, none⟩ (.int .u64 (max (o.far : Int) e))).setCell ⟨b, 5, none⟩ (.int .u64 (e : Int))).setCell ⟨b, 6, none⟩ (.bool true)) :=
              (((Mod.refl _ W1).setCell (p := ⟨b, 4, none⟩) (.inl (by simp)) _).setCell (p := ⟨b, 5, none⟩) (.inl (by simp)) _).setCell (p := ⟨b, 6, none⟩) (.inl (by simp)) _
            refine ⟨HB1.out.remade hmm ?_ rfl HWF.out, hmm⟩
            have := ((HB1.out.blk.set_ 4 (.int .u64 (max (o.far : Int) e))).set_ 5 (.int .u64 (e : Int))).set_ 6 (.bool true)
            simp only [Ib.came, Bool.or_true, if_true, hmax]
            exact this
          have HR := hide hres
          clear hres
          go_wp2_with fail
          go_meet
          exact HR.out
      case rest =>
        obtain ⟨hb2, m2⟩ := hcut
        clear c4 c5 c6 c7 f4 f5 f6 HB1
        have mw : Mod [b, m] w wc := mW1.trans m2 (by simp)
        have c7 := hb2.c7
        have hce : o.came e fin = o.came (a + D.length) fin := by rw [He.out]
        have HCe := hide hce
        clear hce
        cases hr : o.reset
        · rw [show (o.came e fin).reset = o.reset from rfl, hr] at c7
          have hlay := ilay_any wc b m (o.came e fin) hb2 a D (by omega) hD hroom
          rw [HStr.out] at hlay
          have HLay := hide hlay
          have HB2 := hide hb2
          have HR := hide hr
          clear hlay hb2 hr
          go_wp2_with fail
          refine HLay.out.mono ?_
          rintro x w3 ⟨rfl, f', hf', hcv', m3⟩
          have hb3 : Blk w3 b 51 (icells (o.came e fin) m o.ready (over o.B a D)) := by
            have := m3.blk HB2.out.blk (by simpa using HB2.out.ne)
            unfold icells
            rw [run_congr (B := o.B) (fun n h5 h6 => ?_)]
            · exact this
            · obtain ⟨c, hc⟩ := Option.isSome_iff_exists.1 (HH.out.wf.fill n h6)
              rw [hc, over_some hc]
          have hjoin := ijoin_any w3 b m (o.came e fin) (over o.B a D) o.ready f' hb3 hf' hcv' HH.out.wf.tk HB2.out.ne (fun n hn => by
            rcases over_isSome.1 hn with h5 | h5
            · have := HH.out.wf.bound n h5; omega
            · have := HFz.out.1; have := He.out; omega) (by have := HH.out.wf.rd; omega)
          have HJ := hide hjoin
          clear hjoin hb3 hf' hcv'
          go_wp2_with fail
          refine HJ.out.mono ?_
          rintro x w4 ⟨rfl, r, f2, hb4, hf4, hcv4, hr4, hall, hgap, m4⟩
          have hfe : o.fitErr (a + D.length) fin = 0 := by rw [← He.out]; exact HE0.out
          have hwf' := put_wf HH.out.wf hfe HR.out hr4 hall hgap
          have hfin : ∃ o', Put o a D fin o' ∧ IBox w4 b m o' ∧ Mod [b, m] w w4 := by
            refine ⟨{ o.came (a + D.length) fin with ready := r, B := over o.B a D, supp := o.supp ++ List.range' a D.length }, ⟨fun h5 => absurd HErr.out h5, fun _ h5 => ?_, fun _ _ => ⟨rfl, hr4⟩, hwf'⟩, ⟨?_, ⟨f2, hf4, hcv4⟩, HB2.out.ne, hwf'⟩, (mw.trans m3 (by simp)).trans m4 (by simp)⟩
            · rw [HR.out] at h5; cases h5
            · rw [← He.out]
              exact hb4
          have HFin := hide hfin
          clear hfin hwf' hb4 hf4 hcv4 hall hgap
          go_wp2_with fail
          go_ret
          exact ⟨by rw [HErr.out]; rfl, HFin.out⟩
        · rw [show (o.came e fin).reset = o.reset from rfl, hr] at c7
          have hfin : ∃ o', Put o a D fin o' ∧ IBox wc b m o' ∧ Mod [b, m] w wc :=
            ⟨o.came e fin, ⟨fun h5 => absurd HErr.out h5, fun _ _ => HCe.out, fun _ h5 => (by rw [hr] at h5; cases h5), HWF.out⟩, hb2, mw⟩
          have HFin := hide hfin
          clear hfin hb2 hr
          go_wp2_with fail
          go_ret
          exact ⟨by rw [HErr.out]; rfl, HFin.out⟩
    · have hE0' : (E != 0) = true := by simpa using hE0
      have hbad : o.putErr a D.length fin = E := by rw [HE.out, if_neg h1]; exact hE
      have HBad := hide hbad
      clear h hE hbad
      go_enter Try.func10, Try.ntmps10
      go_wp2_with fail
      refine HFit.out.mono ?_
      rintro x w1 ⟨rfl, n1, rfl⟩
      go_wp2_with fail
      go_ret
      exact ⟨by rw [HBad.out]; rfl, BAD.out (by rw [HBad.out]; exact hE0) n1⟩
end Go.Proofs.Ytfbcbddfmiiilaa
