/-
  InboxFinal: the walk: a final size stays; nothing goes beyond it, nor beyond the limit; what is refused changes nothing.
-/
import Derived.Test.YtfbcbddfmiiilaaIbReady
import Derived.Deep.CutBlock
import Derived.Deep.DeepCutAuto
namespace Go.Proofs.Ytfbcbddfmiiilaa
open Go.RowKit

/-- what an act may make of what is known of the end -/
structure FinStep (o : Ib) (v : Int) (o' : Ib) : Prop where
  keep : o.known = true → o'.known = true ∧ o'.final = o.final
  top : o.top ≤ o'.top
  bad : v ≠ 0 → o' = o
  wf : o'.WF
theorem FinStep.refl {o : Ib} (h : o.WF) : FinStep o 0 o := ⟨fun hk => ⟨hk, rfl⟩, Nat.le_refl _, fun _ => rfl, h⟩
theorem Ib.WF.top_le {o : Ib} (h : o.WF) : o.top ≤ o.limit ∧ o.taken ≤ o.top := by
  have h1 := h.top
  have h2 := h.rd
  have h3 := h.tk
  unfold Ib.top
  cases hk : o.known
  · simp only [Bool.false_eq_true, if_false]; omega
  · have := h.fin hk
    simp only [if_true]; omega
theorem FinStep.put {o o' : Ib} {a : Nat} {D : List UInt8} {fin : Bool} (h : Put o a D fin o') : FinStep o (o.putErr a D.length fin) o' := by
  by_cases h0 : o.putErr a D.length fin = 0
  · have hc : o'.known = (o.known || fin) ∧ o'.final = (if fin then a + D.length else o.final) ∧ o'.far = max o.far (a + D.length) := by
      cases hr : o.reset
      · rw [(h.new h0 hr).1]; exact ⟨rfl, rfl, rfl⟩
      · rw [h.old h0 hr]; exact ⟨rfl, rfl, rfl⟩
    obtain ⟨c1, c2, c3⟩ := hc
    have h1 : o.fitErr (a + D.length) fin = 0 := by
      have h2 := h0
      unfold Ib.putErr at h2
      split at h2
      · cases h2
      · exact h2
    obtain ⟨f1, f2, f3⟩ := Ib.fitErr_zero h1
    refine ⟨fun hk => ⟨by rw [c1, hk]; rfl, ?_⟩, ?_, fun hv => absurd h0 hv, h.wf⟩
    · rw [c2]
      split
      · rename_i hf; exact ((f2 hk).2 hf)
      · rfl
    · unfold Ib.top
      rw [c1, c2, c3]
      cases hk : o.known
      · cases hf : fin
        · simp; omega
        · have := f3 hf
          simp; omega
      · cases hf : fin
        · simp
        · have := (f2 hk).2 hf
          simp; omega
  · exact ⟨fun hk => by rw [h.bad h0]; exact ⟨hk, rfl⟩, by rw [h.bad h0]; exact Nat.le_refl _, fun _ => h.bad h0, h.wf⟩
theorem FinStep.read {o : Ib} (hwf : o.WF) (most : Int) : FinStep o 0 (o.read most) := by
  refine ⟨fun hk => ?_, ?_, fun hv => absurd rfl hv, hwf.read most⟩
  · unfold Ib.read
    split <;> exact ⟨hk, rfl⟩
  · unfold Ib.read
    split <;> exact Nat.le_refl _
theorem FinStep.raise {o : Ib} (hwf : o.WF) (l : Nat) : FinStep o 0 (o.raise l) := ⟨fun hk => ⟨hk, rfl⟩, Nat.le_refl _, fun hv => absurd rfl hv, hwf.raise l⟩
theorem FinStep.reset {o : Ib} (f : Nat) (hwf' : (o.resetTo f).WF) : FinStep o (o.resetErr f) (o.resetTo f) := by
  by_cases h0 : o.resetErr f = 0
  · obtain ⟨h1, h2, h3⟩ := Ib.resetErr_zero h0
    have hc : (o.resetTo f).known = true ∧ (o.resetTo f).final = f := by
      unfold Ib.resetTo
      rw [if_pos h0]
      split <;> exact ⟨rfl, rfl⟩
    refine ⟨fun hk => ⟨hc.1, by rw [hc.2, h2 hk]⟩, ?_, fun hv => absurd h0 hv, hwf'⟩
    unfold Ib.top
    rw [hc.1, hc.2, if_pos rfl]
    split
    · rename_i hk; have := h2 hk; omega
    · exact h3
  · have e : o.resetTo f = o := by unfold Ib.resetTo; rw [if_neg h0]
    exact ⟨fun hk => by rw [e]; exact ⟨hk, rfl⟩, by rw [e]; exact Nat.le_refl _, fun _ => e, hwf'⟩

set_option maxRecDepth 100000 in
set_option maxHeartbeats 4000000 in
theorem walkInboxFinal (limit : Nat) (hl : limit ≤ 18446744073709551615) (a : Option Addr) (len cap : Nat) (l : List PAct) (W : World) (ha : IsActs W a len l) :
    Calls Try.prog 5 #[.int .u64 limit, .slice a len cap] W fun e w' => e = .returned (.bool true) ∧ Below W.heap.size W w' := by
  have hlen := ha.2.1
  go_enter Try.func5, Try.ntmps5
  go_wp2_with fail
  refine (iawake_any W).mono ?_
  rintro e w1 ⟨rfl, m1⟩
  go_wp2_with fail
  refine (imine_new w1 limit hl).mono ?_
  rintro e w2 ⟨b, rfl, h⟩
  go_wp2_with fail
  go_loopw [6] (fun i wr => ∃ (k : Nat) (o : Ib), k ≤ len ∧ k ≤ 60 ∧ i = .int .i64 (k : Int) ∧ o.supp.length ≤ 300 * k ∧ IMine w1 wr b o) (fun i _ => len - (intOf i).toNat)
  case atStart => exact ⟨0, _, by omega, by omega, rfl, Nat.le_refl _, h⟩
  case round =>
    obtain ⟨k, o, hk, hk60, rfl, hsu, hm⟩ := hrel
    clear h
    by_cases hlt : k < len ∧ k < 60
    · obtain ⟨h1, h2⟩ := hlt
      obtain ⟨b0, off, x, rfl, hx, hok, hlie⟩ := ha.at_ h1
      obtain ⟨hb0, c0, c1, c2, c3, c4⟩ := hlie.mod (m1.trans hm.frame (by simp))
      by_cases hd : 300 < x.data.size
      · have hlg : x.large = true := by simpa [PAct.large] using hd
        have hfr := m1.trans hm.frame (by simp)
        go_wp2_with fail
        refine (large_is _ x true hlg).mono ?_
        rintro e w3 ⟨rfl, m3⟩
        go_wp2_with fail
        go_ret
        exact ⟨rfl, ((hfr.alloc _).trans m3 (by simp)).below (Nat.le_refl _) (by simp)⟩
      have hlg : x.large = false := by simpa [PAct.large] using hd
      go_wp2_with fail
      refine (large_is _ x false hlg).mono ?_
      rintro e w3 ⟨rfl, m3⟩
      have hx3 := m3.blk (Blk.new wr 40 #[.int .i64 x.kind, .int .i64 x.num, .int .u64 (x.at_ : Nat), .string x.data, .bool x.fin]) (by simp)
      replace hm := hm.mod (((Mod.refl [] wr).alloc _).trans m3 (by simp))
      clear m3 c0 c1 c2 c3 c4 hb0 hlg
      obtain ⟨K, hK⟩ : ∃ v, o.known = v := ⟨_, rfl⟩
      obtain ⟨f, hf⟩ : ∃ v, o.final = v := ⟨_, rfl⟩
      obtain ⟨top, htop⟩ : ∃ v, o.top = v := ⟨_, rfl⟩
      obtain ⟨n, hn⟩ : ∃ v, o.ready - o.taken = v := ⟨_, rfl⟩
      have HK := hide hK
      have HF := hide hf
      have HT := hide htop
      have HN := hide hn
      have Hd := hide (show x.data.size ≤ 300 by omega)
      clear hK hf htop hn hd
      go_wp2_with fail
      refine (imine_final hm f K HF.out HK.out).mono ?_
      rintro e w4 ⟨rfl, mm⟩
      replace hm := hm.mod mm
      replace hx3 := mm.blk hx3 (by simp)
      clear mm
      go_wp2_with fail
      refine (imine_top hm top HT.out).mono ?_
      rintro e w5 ⟨rfl, mm⟩
      replace hm := hm.mod mm
      replace hx3 := mm.blk hx3 (by simp)
      clear mm
      go_wp2_with fail
      refine (imine_ready hm n HN.out).mono ?_
      rintro e w6 ⟨rfl, mm⟩
      replace hm := hm.mod mm
      replace hx3 := mm.blk hx3 (by simp)
      clear mm
      have d0 := hx3.cell 0
      have d1 := hx3.cell 1
      have d2 := hx3.cell 2
      have d3 := hx3.cell 3
      have d4 := hx3.cell 4
      have hx4 := hx3.lt
      go_upto_block 2 with fail
      go_cut [12] (fun e wx => ∃ (v : Int) (o' : Ib), e = .int .i64 v ∧ FinStep o v o' ∧ o'.supp.length ≤ 300 * (k + 1) ∧ IMine w1 wx b o')
      case first =>
        have hwf := hm.wf
        by_cases k0 : x.kind = 0
        · have e1 : (x.kind == 0) = true := by simpa using k0
          obtain ⟨v, hv⟩ : ∃ v, o.putErr x.at_ x.data.size x.fin = v := ⟨_, rfl⟩
          clear k0
          go_wp2_with fail
          refine (imine_put hm x.at_ x.data x.fin hok.a (by have := Hd.out; omega) (by omega) v hv).mono ?_
          rintro e w4 ⟨rfl, o', hp, hm'⟩
          have h2 : x.data.data.toList.length = x.data.size := Array.length_toList
          have hsu' : o'.supp.length ≤ 300 * (k + 1) := by
            have h1 := hp.supp
            have h3 := Hd.out
            omega
          have hst := FinStep.put hp
          rw [h2, hv] at hst
          clear hp hm d0 d1 d2 d3 d4 h2
          go_wp2_with fail
          go_meet
          exact ⟨v, o', rfl, hst, hsu', hm'⟩
        have e1 : (x.kind == 0) = false := by simpa using k0
        by_cases k1 : x.kind = 1
        · have e2 : (x.kind == 1) = true := by simpa using k1
          clear k0 k1
          have hsp := Ib.ready_supp hwf
          go_wp2_with fail
          refine (imine_read hm x.num (by omega) _ _ _ _ rfl rfl rfl rfl).mono ?_
          rintro e w4 ⟨rfl, hm'⟩
          clear hm d0 d1 d2 d3 d4
          go_wp2_with fail
          go_meet
          exact ⟨0, _, rfl, FinStep.read hwf x.num, by rw [(Ib.read_facts hwf x.num _ rfl).2.2.2.2.2.2]; omega, hm'⟩
        have e2 : (x.kind == 1) = false := by simpa using k1
        by_cases k2 : x.kind = 2
        · have e3 : (x.kind == 2) = true := by simpa using k2
          clear k0 k1 k2
          go_wp2_with fail
          refine (imine_reset hm x.at_ 7 _ _ rfl rfl).mono ?_
          rintro e w4 ⟨rfl, hm'⟩
          clear hm d0 d1 d2 d3 d4
          go_wp2_with fail
          go_meet
          exact ⟨_, _, rfl, FinStep.reset x.at_ hm'.wf, by rw [Ib.resetTo_supp]; omega, hm'⟩
        have e3 : (x.kind == 2) = false := by simpa using k2
        by_cases k3 : x.kind = 3
        · have e4 : (x.kind == 3) = true := by simpa using k3
          clear k0 k1 k2 k3
          go_wp2_with fail
          refine (imine_raise hm x.at_ hok.a _ rfl).mono ?_
          rintro e w4 ⟨rfl, hm'⟩
          clear hm d0 d1 d2 d3 d4
          go_wp2_with fail
          go_meet
          exact ⟨0, _, rfl, FinStep.raise hwf x.at_, by show o.supp.length ≤ _; omega, hm'⟩
        have e4 : (x.kind == 3) = false := by simpa using k3
        clear k0 k1 k2 k3
        go_wp2_with fail
        go_meet
        exact ⟨0, o, rfl, FinStep.refl hwf, by omega, hm⟩
      case rest =>
        obtain ⟨v, o', rfl, hst, hsu', hm'⟩ := hcut
        clear hm d0 d1 d2 d3 d4 hx4 hx3
        obtain ⟨T', hT'⟩ : ∃ v, o'.top = v := ⟨_, rfl⟩
        obtain ⟨L', hL'⟩ : ∃ v, o'.limit = v := ⟨_, rfl⟩
        obtain ⟨t', ht'⟩ : ∃ v, o'.taken = v := ⟨_, rfl⟩
        obtain ⟨n', hn'⟩ : ∃ v, o'.ready - o'.taken = v := ⟨_, rfl⟩
        obtain ⟨K', hK'⟩ : ∃ v, o'.known = v := ⟨_, rfl⟩
        obtain ⟨f', hf'⟩ : ∃ v, o'.final = v := ⟨_, rfl⟩
        obtain ⟨u1, u2⟩ := hst.wf.top_le
        have u3 := hst.top
        have u4 := hst.keep
        have u5 := hst.bad
        have HT' := hide hT'
        have HL' := hide hL'
        have Ht' := hide ht'
        have HN' := hide hn'
        have HK' := hide hK'
        have HF' := hide hf'
        rw [hT', hL'] at u1
        rw [ht', hT'] at u2
        rw [HT.out, hT'] at u3
        rw [HK.out, HF.out, hK', hf'] at u4
        have i1 : ¬ ((T' : Int) < top) := by omega
        have i2 : ¬ ((L' : Int) < T') := by omega
        have i3 : ¬ ((T' : Int) < t') := by omega
        have U5 : Hid (v ≠ 0 → T' = top ∧ n' = n ∧ K' = K) := hide (fun hv => by
          have e := u5 hv
          subst e
          exact ⟨hT'.symm.trans HT.out, hn'.symm.trans HN.out, hK'.symm.trans HK.out⟩)
        have U4 := hide u4
        clear u1 u2 u3 u4 u5 hst hT' hL' ht' hn' hK' hf' HK HF HT HN
        go_wp2_with fail
        refine (imine_final hm' f' K' HF'.out HK'.out).mono ?_
        rintro e w10 ⟨rfl, mm⟩
        replace hm' := hm'.mod mm
        clear mm
        by_cases hv : v = 0
        · have ev : (v != 0) = false := by simpa using hv
          clear hv U5
          cases K
          · clear U4
            go_wp2_with fail
            refine (imine_top hm' T' HT'.out).mono ?_
            rintro e w11 ⟨rfl, mm⟩
            replace hm' := hm'.mod mm
            clear mm
            go_wp2_with fail
            refine (imine_top hm' T' HT'.out).mono ?_
            rintro e w12 ⟨rfl, mm⟩
            replace hm' := hm'.mod mm
            clear mm
            go_wp2_with fail
            refine (imine_limit hm' L' HL'.out).mono ?_
            rintro e w13 ⟨rfl, mm⟩
            replace hm' := hm'.mod mm
            clear mm
            go_wp2_with fail
            refine (imine_taken hm' t' Ht'.out).mono ?_
            rintro e w14 ⟨rfl, mm⟩
            replace hm' := hm'.mod mm
            clear mm
            go_wp2_with fail
            refine (imine_top hm' T' HT'.out).mono ?_
            rintro e w15 ⟨rfl, mm⟩
            replace hm' := hm'.mod mm
            clear mm
            go_wp2_with fail
            go_roundw
            case rel => exact ⟨k + 1, o', by omega, by omega, by go_num, hsu', hm'⟩
            case measure => simp [intOf]; omega
          · obtain ⟨rfl, rfl⟩ := U4.out rfl
            have ef : ((f' : Int) != (f' : Int)) = false := by simp
            clear U4
            go_wp2_with fail
            refine (imine_top hm' T' HT'.out).mono ?_
            rintro e w11 ⟨rfl, mm⟩
            replace hm' := hm'.mod mm
            clear mm
            go_wp2_with fail
            refine (imine_top hm' T' HT'.out).mono ?_
            rintro e w12 ⟨rfl, mm⟩
            replace hm' := hm'.mod mm
            clear mm
            go_wp2_with fail
            refine (imine_limit hm' L' HL'.out).mono ?_
            rintro e w13 ⟨rfl, mm⟩
            replace hm' := hm'.mod mm
            clear mm
            go_wp2_with fail
            refine (imine_taken hm' t' Ht'.out).mono ?_
            rintro e w14 ⟨rfl, mm⟩
            replace hm' := hm'.mod mm
            clear mm
            go_wp2_with fail
            refine (imine_top hm' T' HT'.out).mono ?_
            rintro e w15 ⟨rfl, mm⟩
            replace hm' := hm'.mod mm
            clear mm
            go_wp2_with fail
            go_roundw
            case rel => exact ⟨k + 1, o', by omega, by omega, by go_num, hsu', hm'⟩
            case measure => simp [intOf]; omega
        · have ev : (v != 0) = true := by simpa using hv
          obtain ⟨h51, h52, h53⟩ := U5.out hv
          subst h51 h52 h53
          have ef1 : ((T' : Int) != (T' : Int)) = false := by simp
          have ef2 : ((n' : Int) != (n' : Int)) = false := by simp
          clear hv U5
          cases K'
          · clear U4
            go_wp2_with fail
            refine (imine_top hm' T' HT'.out).mono ?_
            rintro e w11 ⟨rfl, mm⟩
            replace hm' := hm'.mod mm
            clear mm
            go_wp2_with fail
            refine (imine_top hm' T' HT'.out).mono ?_
            rintro e w12 ⟨rfl, mm⟩
            replace hm' := hm'.mod mm
            clear mm
            go_wp2_with fail
            refine (imine_limit hm' L' HL'.out).mono ?_
            rintro e w13 ⟨rfl, mm⟩
            replace hm' := hm'.mod mm
            clear mm
            go_wp2_with fail
            refine (imine_taken hm' t' Ht'.out).mono ?_
            rintro e w14 ⟨rfl, mm⟩
            replace hm' := hm'.mod mm
            clear mm
            go_wp2_with fail
            refine (imine_top hm' T' HT'.out).mono ?_
            rintro e w15 ⟨rfl, mm⟩
            replace hm' := hm'.mod mm
            clear mm
            go_wp2_with fail
            refine (imine_top hm' T' HT'.out).mono ?_
            rintro e w16 ⟨rfl, mm⟩
            replace hm' := hm'.mod mm
            clear mm
            go_wp2_with fail
            refine (imine_ready hm' n' HN'.out).mono ?_
            rintro e w17 ⟨rfl, mm⟩
            replace hm' := hm'.mod mm
            clear mm
            go_wp2_with fail
            go_roundw
            case rel => exact ⟨k + 1, o', by omega, by omega, by go_num, hsu', hm'⟩
            case measure => simp [intOf]; omega
          · obtain ⟨_, h6⟩ := U4.out rfl
            subst h6
            have ef : ((f' : Int) != (f' : Int)) = false := by simp
            clear U4
            go_wp2_with fail
            refine (imine_top hm' T' HT'.out).mono ?_
            rintro e w11 ⟨rfl, mm⟩
            replace hm' := hm'.mod mm
            clear mm
            go_wp2_with fail
            refine (imine_top hm' T' HT'.out).mono ?_
            rintro e w12 ⟨rfl, mm⟩
            replace hm' := hm'.mod mm
            clear mm
            go_wp2_with fail
            refine (imine_limit hm' L' HL'.out).mono ?_
            rintro e w13 ⟨rfl, mm⟩
            replace hm' := hm'.mod mm
            clear mm
            go_wp2_with fail
            refine (imine_taken hm' t' Ht'.out).mono ?_
            rintro e w14 ⟨rfl, mm⟩
            replace hm' := hm'.mod mm
            clear mm
            go_wp2_with fail
            refine (imine_top hm' T' HT'.out).mono ?_
            rintro e w15 ⟨rfl, mm⟩
            replace hm' := hm'.mod mm
            clear mm
            go_wp2_with fail
            refine (imine_top hm' T' HT'.out).mono ?_
            rintro e w16 ⟨rfl, mm⟩
            replace hm' := hm'.mod mm
            clear mm
            go_wp2_with fail
            refine (imine_ready hm' n' HN'.out).mono ?_
            rintro e w17 ⟨rfl, mm⟩
            replace hm' := hm'.mod mm
            clear mm
            go_wp2_with fail
            go_roundw
            case rel => exact ⟨k + 1, o', by omega, by omega, by go_num, hsu', hm'⟩
            case measure => simp [intOf]; omega
    · have hend : ¬ (k < len) ∨ (k < len ∧ ¬ (k < 60)) := by omega
      rcases hend with hend | ⟨hend0, hend⟩
      all_goals
        go_wp2_with fail
        go_ret
        exact ⟨rfl, (m1.trans hm.frame (by simp)).below (Nat.le_refl _) (by simp)⟩
end Go.Proofs.Ytfbcbddfmiiilaa
