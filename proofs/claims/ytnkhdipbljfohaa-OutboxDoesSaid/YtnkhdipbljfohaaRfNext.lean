/-
  the document's outbox: Next.
-/
import Derived.Test.YtnkhdipbljfohaaRfFrom
import Derived.Test.YtnkhdipbljfohaaRfEach
namespace Go.Proofs.Ytnkhdipbljfohaa
open Go.RowKit

theorem mapAt_take (f : UInt8 → UInt8) (st : List UInt8) (i n m : Nat) : (mapAt f st i n).take m = mapAt f (st.take m) i n := by
  apply List.ext_getElem?
  intro j
  rw [List.getElem?_take, mapAt_get, mapAt_get, List.getElem?_take]
  split <;> rfl
theorem Ob.takeEnd_hows (o : Ob) (i n : Nat) : (o.takeEnd i n).hows = mapAt (fun _ => 1) o.hows i n := by
  have h1 : (o.take i n).hows = mapAt (fun _ => 1) o.hows i n := mapAt_take _ _ _ _ _
  unfold Ob.takeEnd
  split
  · rw [← h1]
    unfold Ob.hows
    apply List.ext_getElem?
    intro j
    rw [List.getElem?_take, List.getElem?_take]
    split
    · rename_i hj
      simp only [Ob.take] at hj ⊢
      rw [List.getElem?_set_ne (by omega)]
    · rfl
  · exact h1
theorem Ob.take_at {o : Ob} {i n : Nat} (hin : i + n ≤ o.data.length) : (o.take i n).st[o.data.length]? = o.st[o.data.length]? := by
  simp only [Ob.take]
  rw [mapAt_get]
  cases o.st[o.data.length]? with
  | none => rfl
  | some x => simp; intro _ h; omega
theorem Ob.takeFin_eq {o : Ob} {i n : Nat} (hin : i + n ≤ o.data.length) : o.takeFin i n = ((i + n == o.data.length) && o.waits) := by
  unfold Ob.takeFin Ob.waits
  have : (o.take i n).data.length = o.data.length := rfl
  rw [this, Ob.take_at hin]
  rfl
theorem Ob.Good.takeEnd_endv {o : Ob} (h : o.Good) {i n : Nat} (hin : i + n ≤ o.data.length) : (o.takeEnd i n).endv = if o.takeFin i n then 1 else o.endv := by
  have hst := h.wf.stl
  have hen := Ob.takeEnd_ended o i n
  have hda := Ob.takeEnd_data o i n
  unfold Ob.endv
  rw [hen, hda]
  cases hf : o.takeFin i n
  · have e : o.takeEnd i n = o.take i n := by unfold Ob.takeEnd; rw [hf]; rfl
    rw [e]
    simp only [List.getD_eq_getElem?_getD, Ob.take_at hin]
    rfl
  · have hw := Ob.takeFin_eq hin
    rw [hf] at hw
    have hend : o.ended = true := by
      have := (Bool.and_eq_true_iff.1 hw.symm).2
      unfold Ob.waits at this
      exact (Bool.and_eq_true_iff.1 this).1
    have e : o.takeEnd i n = { o.take i n with st := (o.take i n).st.set o.data.length 1 } := by unfold Ob.takeEnd; rw [hf]; rfl
    rw [e, hend]
    rw [hend] at hst
    simp only [Bool.toNat_true] at hst
    have hl : (o.take i n).st.length = o.st.length := mapAt_length _ _ _ _
    simp only [if_true, List.getD_eq_getElem?_getD]
    rw [List.getElem?_set_self (by omega)]
    rfl
theorem Ob.waits_endc (o : Ob) (h : o.Good) : ∃ c : UInt8, o.endv = (c.toNat : Int) ∧ o.waits = (c == 0 || c == 2) := by
  have hst := h.wf.stl
  unfold Ob.endv Ob.waits
  cases he : o.ended
  · exact ⟨4, rfl, rfl⟩
  · rw [he] at hst
    simp only [Bool.toNat_true] at hst
    refine ⟨o.st.getD o.data.length 0, rfl, ?_⟩
    simp only [List.getD_eq_getElem?_getD, List.getElem?_eq_getElem (show o.data.length < o.st.length by omega)]
    simp

/-- Next, in the document's order: what it tells and makes. -/
theorem Ob.Good.next_cases {o : Ob} (h : o.Good) (most : Int) (hr : o.reset = false) :
    (o.first.2 = 0 ∧ ((o.waits = false ∨ o.sent < o.data.length) → o.nextTold most = ⟨0, [], false, false⟩ ∧ o.next most = o) ∧
      (o.waits = true → ¬ o.sent < o.data.length → o.nextTold most = ⟨o.data.length, [], true, true⟩ ∧ o.next most = o.takeEnd o.data.length 0 ∧ o.takeFin o.data.length 0 = true)) ∨
    (0 < o.first.2 ∧ (most < 1 → o.nextTold most = ⟨0, [], false, false⟩ ∧ o.next most = o) ∧
      ∀ n : Nat, (n : Int) = min (o.first.2 : Int) most → 0 < n → o.nextTold most = ⟨o.first.1, (o.data.drop o.first.1).take n, o.takeFin o.first.1 n, true⟩ ∧ o.next most = o.takeEnd o.first.1 n) := by
  have hse := h.wf.sent
  rcases Nat.eq_zero_or_pos o.first.2 with h0 | h0
  · left
    have hm : o.much most = 0 := by unfold Ob.much; omega
    have hg : o.goes 0 = (o.waits && !decide (o.sent < o.data.length)) := by
      unfold Ob.goes
      rw [h0]
      cases o.waits <;> simp
    refine ⟨h0, fun hw => ?_, fun hw hs => ?_⟩
    · have : o.goes 0 = false := by
        rw [hg]
        rcases hw with hw | hw
        · rw [hw]; rfl
        · rw [decide_eq_true hw]; simp
      unfold Ob.nextTold Ob.next
      rw [hr, hm, this]
      simp
    · have hgo : o.goes 0 = true := by rw [hg, hw, decide_eq_false hs]; rfl
      have h5 : o.first.1 = o.data.length := by
        unfold Ob.first at h0 ⊢
        split
        · rename_i h1
          rw [if_pos h1] at h0
          have := (Ob.Good.first_pos h1).1
          rw [(Ob.Good.first_pos h1).2] at this
          simp only at h0 this
          omega
        · simp only; omega
      unfold Ob.nextTold Ob.next
      rw [hr, hm, hgo, h5]
      have hf : o.takeFin o.data.length 0 = true := by rw [Ob.takeFin_eq (by omega), hw]; simp
      simp [hf]
  · right
    have hnm : most < 1 → o.much most = 0 := fun hm => by unfold Ob.much; omega
    refine ⟨h0, fun hm => ?_, fun n hn hn0 => ?_⟩
    · have : o.goes 0 = false := by
        unfold Ob.goes
        rw [decide_eq_true h0]; simp
      unfold Ob.nextTold Ob.next
      rw [hr, hnm hm, this]
      simp
    · have hm : o.much most = n := by unfold Ob.much; omega
      have : o.goes n = true := by
        unfold Ob.goes
        have e1 : (n == 0) = false := by simpa using (by omega : ¬ n = 0)
        have e2 : (o.first.2 == 0) = false := by simpa using (by omega : ¬ o.first.2 = 0)
        rw [e1, e2]; simp
      unfold Ob.nextTold Ob.next
      rw [hr, hm, this]
      simp

theorem extract_piece (l : List UInt8) (i n : Nat) : (⟨l.toArray⟩ : ByteArray).extract i (i + n) = ⟨((l.drop i).take n).toArray⟩ := by
  apply ByteArray.ext
  apply Array.ext'
  rw [Lib.extract_data]
  simp
theorem RStep.of_mod2 {w w1 w' : World} {r : Nat} {o : Ob} {H : Value} (h : RBox w1 r o H) (hm : Mod [] w w1) (hm2 : Mod [] w1 w') : RStep w r H o w' :=
  ⟨H, h.mod hm2 (by simp), (hm.trans hm2 (by simp)).mono (by simp), fun _ hk => .inl hk⟩

set_option maxRecDepth 100000 in
set_option maxHeartbeats 4000000 in
theorem rnext_any (w : World) (r : Nat) (o : Ob) (H : Value) (h : RBox w r o H) (most : Int) (hm1 : -9223372036854775808 ≤ most) (hm2 : most ≤ 9223372036854775807) :
    Calls Try.prog 40 #[.pointer (some ⟨r, 0, none⟩), .int .i64 most] w fun e w' =>
      e = .returned (o.nextTold most).val ∧ RStep w r H (o.next most) w' := by
  have hc1 := h.c1
  have hc3 := h.c3
  have hc4 := h.c4
  have hsz := h.size
  have hse := h.good.wf.sent
  cases hr : o.reset
  · rw [hr] at hc4
    have HN := hide (h.good.next_cases most hr)
    obtain ⟨c, hc, hw⟩ := o.waits_endc h.good
    rw [hc] at hc3
    have Hc := hide hc
    have hfrom := rfrom_any w r o H h
    obtain ⟨F, hF⟩ : ∃ F, o.fromA = F := ⟨_, rfl⟩
    obtain ⟨M, hM⟩ : ∃ M, o.first.2 = M := ⟨_, rfl⟩
    rw [hF, hM] at hfrom
    have Hfrom := hide hfrom
    clear hfrom hr hc
    by_cases q0 : c = 0
    · subst q0
      replace hw : o.waits = true := hw
      rcases HN.out with ⟨h0, hA, hB⟩ | ⟨h0, hC, hD⟩
      · obtain rfl : M = 0 := by omega
        have hF1 : F = -1 := by rw [← hF]; unfold Ob.fromA; rw [if_pos h0]
        subst hF1
        clear HN hF
        by_cases hsl : o.sent < o.data.length
        · have HR := hide (hA (.inr hsl))
          clear hA hB h0 hM
          go_enter Try.func40, Try.ntmps40
          go_wp2_with fail
          refine Hfrom.out.mono ?_
          rintro e w1 ⟨rfl, n0, rfl⟩
          have h' := h.drewN n0
          have hm := (Mod.refl [] w).drewN n0
          generalize w.drewN n0 = w1 at h' hm ⊢
          clear h hc1 hc3 hc4
          obtain ⟨A, cap, rfl, hcp, hcm, _⟩ := h'.form
          have hc1 := h'.c1
          have hc2 := h'.c2
          have hc3 := h'.c3
          have hf3 := h'.blk.frozen 3
          rw [Hc.out] at hc3
          go_wp2
          go_quiet ((go_at_call 27; exact Calls.quiet_of (rsent_any _ r o _ (h'.drewN _))))
          go_wp2
          refine bodyPost_ret (results_tmp4 rfl _ _ _) rfl ?_
          exact ⟨by rw [HR.out.1]; rfl, by rw [HR.out.2]; exact RStep.of_mod2 h' hm ((Mod.refl _ _).drewN _)⟩
        · have HR := hide (hB hw hsl)
          have hg' := h.good.next most
          rw [HR.out.2.1] at hg'
          have hev := h.good.takeEnd_endv (i := o.data.length) (n := 0) (by omega)
          rw [HR.out.2.2, if_pos rfl] at hev
          have H3 : Hid (∀ w2, RBox w2 r o H → RBox (w2.setCell ⟨r, 3, none⟩ (.int .i64 1)) r (o.takeEnd o.data.length 0) H) := hide (fun w2 h2 => h2.set 3 _ (by
            rw [hev, Ob.takeEnd_limit, Ob.takeEnd_data, Ob.takeEnd_reset]; rfl) (Ob.takeEnd_data _ _ _) (by rw [Ob.takeEnd_hows, mapAt_zero]) hg')
          clear hA hB h0 hM hg' hev
          go_enter Try.func40, Try.ntmps40
          go_wp2_with fail
          refine Hfrom.out.mono ?_
          rintro e w1 ⟨rfl, n0, rfl⟩
          have h' := h.drewN n0
          have hm := (Mod.refl [] w).drewN n0
          generalize w.drewN n0 = w1 at h' hm ⊢
          clear h hc1 hc3 hc4
          obtain ⟨A, cap, rfl, hcp, hcm, _⟩ := h'.form
          have hc1 := h'.c1
          have hc2 := h'.c2
          have hc3 := h'.c3
          have hf3 := h'.blk.frozen 3
          rw [Hc.out] at hc3
          go_wp2
          go_quiet ((go_at_call 27; exact Calls.quiet_of (rsent_any _ r o _ (h'.drewN _))))

          have h2 := h'.drewN nq
          have hm2 := hm.drewN nq
          generalize w1.drewN nq = w2 at h2 hm2 ⊢
          clear h' hm hc1 hc2 hc3 hf3
          have hc2 := h2.c2
          have hc3 := h2.c3
          have hf3 := h2.blk.frozen 3
          go_wp2
          refine bodyPost_ret (results_tmp4 rfl _ _ _) rfl ?_
          refine ⟨by rw [HR.out.1]; rfl, _, by rw [HR.out.2.1]; exact H3.out w2 h2, (hm2.mono (by simp)).setCell (.inl (by simp [rfoot])) _, fun _ hk => .inl hk⟩

      · have hF1 : F = (o.first.1 : Int) := by rw [← hF]; unfold Ob.fromA; rw [if_neg (by omega)]
        have hfw := h.good.wf.first
        clear HN
        subst hF
        obtain ⟨i, hi⟩ : ∃ i, o.first.1 = i := ⟨_, rfl⟩
        rw [hi] at hF1 hfw hD
        rw [hF1] at Hfrom
        by_cases hlow : most < 1
        · have HR := hide (hC hlow)
          clear hC hD hF1
          rw [hM] at h0 hfw
          clear hM
          go_enter Try.func40, Try.ntmps40
          go_wp2_with fail
          refine Hfrom.out.mono ?_
          rintro e w1 ⟨rfl, n0, rfl⟩
          have h' := h.drewN n0
          have hm := (Mod.refl [] w).drewN n0
          generalize w.drewN n0 = w1 at h' hm ⊢
          clear h hc1 hc3 hc4
          obtain ⟨A, cap, rfl, hcp, hcm, _⟩ := h'.form
          have hc1 := h'.c1
          have hc2 := h'.c2
          have hc3 := h'.c3
          have hf3 := h'.blk.frozen 3
          rw [Hc.out] at hc3
          go_wp2
          refine bodyPost_ret (results_tmp4 rfl _ _ _) rfl ?_
          exact ⟨by rw [HR.out.1]; rfl, by rw [HR.out.2]; exact RStep.of_mod2 h' hm (Mod.refl _ _)⟩
        · obtain ⟨n, hn⟩ : ∃ n : Nat, (n : Int) = min (o.first.2 : Int) most := ⟨(min (o.first.2 : Int) most).toNat, by omega⟩
          have HR := hide (hD n hn (by omega))
          have hin : i + n ≤ o.data.length := by omega
          have Htf := hide (Ob.takeFin_eq hin)
          have Hendv := hide (h.good.takeEnd_endv hin)
          have Hhow := hide (Ob.takeEnd_hows o i n)
          have Hstr := hide (extract_piece o.data i n)
          have Hhl := hide h.good.hows_len
          have hg' := h.good.next most
          have Hg' := hide hg'
          have hn0 : 0 < n := by omega
          rw [hM] at hn h0 hfw
          clear hC hD hF1 hM hg'
          by_cases hmm : most < M
          · have hmn : most = (n : Int) := by omega
            have hnM : n < M := by omega
            clear hn hmm
            subst hmn
            go_enter Try.func40, Try.ntmps40
            go_wp2_with fail
            refine Hfrom.out.mono ?_
            rintro e w1 ⟨rfl, n0, rfl⟩
            have h' := h.drewN n0
            have hm := (Mod.refl [] w).drewN n0
            generalize w.drewN n0 = w1 at h' hm ⊢
            clear h hc1 hc3 hc4
            obtain ⟨A, cap, rfl, hcp, hcm, _⟩ := h'.form
            have hc1 := h'.c1
            have hc2 := h'.c2
            have hc3 := h'.c3
            have hf3 := h'.blk.frozen 3
            rw [Hc.out] at hc3

            have Hbl := hide h'.blk
            have Hown := hide h'.how
            have Hm := hide hm
            clear h' hm
            go_wp2
            go_loopw [11] (fun j wr => ∃ k : Nat, k ≤ n ∧ j = .int .i64 (k : Int) ∧ Blk wr r 50 #[.int .u64 (o.limit : Int), str o.data, .slice A o.data.length cap, .int .i64 o.endv, .bool o.reset] ∧
                wr.ownsRow 0 3 1 (.slice A o.data.length cap) o.data.length ((mapAt (fun _ => 1) o.hows i k).map iv) ∧ Mod (rfoot r (.slice A o.data.length cap)) w wr) (fun j _ => 70000 - (intOf j).toNat)
            case atStart => exact ⟨0, by omega, rfl, Hbl.out, by rw [mapAt_zero]; exact Hown.out, (Hm.out).mono (by simp)⟩
            case round =>
              clear hc1 hc2 hc3 hf3 Hbl Hown Hm
              obtain ⟨k, hk, rfl, hb, hown, hmod⟩ := hrel
              have hc1 : wr.cell? ⟨r, 1, none⟩ = some (str o.data) := hb.cell 1
              have hc2 : wr.cell? ⟨r, 2, none⟩ = some (.slice A o.data.length cap) := hb.cell 2
              have hc3 : wr.cell? ⟨r, 3, none⟩ = some (.int .i64 o.endv) := hb.cell 3
              have hf3 := hb.frozen 3
              unfold str at hc1
              have Hb := hide hb
              have Hown := hide hown
              have Hmod := hide hmod
              by_cases hlt : k < n
              · obtain ⟨y, hy⟩ : ∃ y, o.hows[i + k]? = some y := ⟨_, List.getElem?_eq_getElem (by rw [Hhl.out]; omega)⟩
                rcases rown_form hown with ⟨_, h0⟩ | ⟨g, cap', e1, h2, h3, h4, h5⟩
                · omega
                cases e1
                obtain ⟨hcell, hfz⟩ := h5 (i + k) y (by rw [mapAt_next]; exact hy)
                have Hsucc := hide (mapAt_succ (fun _ => 1) o.hows i k hy)
                have hne : r ≠ g := fun e => own_blk_ne hown hb (by decide) g rfl e.symm
                clear h5 hb hown hmod hy
                go_wp2
                go_roundw
                case rel =>
                  refine ⟨k + 1, by omega, by go_num, (Hb.out.far (p := ⟨g, i + k, none⟩) hne _), ?_, (Hmod.out).setCell (.inl (by simp [rfoot, Value.ownBlock])) _⟩
                  rw [Hsucc.out, List.map_set]
                  exact ((Hown.out).stored (i + k) (iv 1)).1
                case measure => simp [intOf]; omega
              · obtain rfl : n = k := by omega
                clear hb hown hmod
                by_cases hfin : i + n = o.data.length
                · have HF : Hid (o.takeFin i n = true) := hide (by rw [Htf.out, hw]; simpa using hfin)
                  have Hend := hide (Hendv.out.trans (if_pos HF.out))
                  have hfb : (((i : Int) + (n : Int)) == (o.data.length : Int)) = true := by simpa using (by omega : (i : Int) + (n : Int) = o.data.length)
                  clear hfin
                  go_wp2
                  go_quiet (fail)
                  go_wp2
                  refine bodyPost_ret (results_tmp4 rfl _ _ _) rfl ?_
                  refine ⟨?_, _, ⟨?_, ?_, Hg'.out⟩, ((Hmod.out).setCell (.inl (by simp [rfoot])) _).drewN _, fun _ hk => .inl hk⟩
                  · rw [HR.out.1, HF.out]; simp only [Told.val, str]; rw [← Hstr.out]; rfl
                  · rw [HR.out.2, Hend.out, Ob.takeEnd_limit, Ob.takeEnd_data, Ob.takeEnd_reset]; exact Hb.out.set_ 3 _
                  · rw [HR.out.2, Hhow.out, Ob.takeEnd_data]; exact ((Mod.refl [] _).drewN nq).own (own_far Hown.out (own_blk_ne Hown.out Hb.out (by decide)) _) (by simp)
                have HF : Hid (o.takeFin i n = false) := hide (by rw [Htf.out, hw]; simpa using hfin)
                have Hend := hide (Hendv.out.trans (if_neg (by rw [HF.out]; simp)))

                go_wp2
                go_quiet (fail)
                go_wp2
                refine bodyPost_ret (results_tmp4 rfl _ _ _) rfl ?_
                refine ⟨?_, _, ⟨?_, ?_, Hg'.out⟩, (Hmod.out).drewN _, fun _ hk => .inl hk⟩
                · rw [HR.out.1, HF.out]; simp only [Told.val, str]; rw [← Hstr.out]; rfl
                · rw [HR.out.2, Hend.out, Ob.takeEnd_limit, Ob.takeEnd_data, Ob.takeEnd_reset]; exact Hb.out
                · rw [HR.out.2, Hhow.out, Ob.takeEnd_data]; exact ((Mod.refl [] wr).drewN nq).own Hown.out (by simp)
          · obtain rfl : n = M := by omega
            clear hn
            go_enter Try.func40, Try.ntmps40
            go_wp2_with fail
            refine Hfrom.out.mono ?_
            rintro e w1 ⟨rfl, n0, rfl⟩
            have h' := h.drewN n0
            have hm := (Mod.refl [] w).drewN n0
            generalize w.drewN n0 = w1 at h' hm ⊢
            clear h hc1 hc3 hc4
            obtain ⟨A, cap, rfl, hcp, hcm, _⟩ := h'.form
            have hc1 := h'.c1
            have hc2 := h'.c2
            have hc3 := h'.c3
            have hf3 := h'.blk.frozen 3
            rw [Hc.out] at hc3

            have Hbl := hide h'.blk
            have Hown := hide h'.how
            have Hm := hide hm
            clear h' hm
            go_wp2
            go_loopw [11] (fun j wr => ∃ k : Nat, k ≤ n ∧ j = .int .i64 (k : Int) ∧ Blk wr r 50 #[.int .u64 (o.limit : Int), str o.data, .slice A o.data.length cap, .int .i64 o.endv, .bool o.reset] ∧
                wr.ownsRow 0 3 1 (.slice A o.data.length cap) o.data.length ((mapAt (fun _ => 1) o.hows i k).map iv) ∧ Mod (rfoot r (.slice A o.data.length cap)) w wr) (fun j _ => 70000 - (intOf j).toNat)
            case atStart => exact ⟨0, by omega, rfl, Hbl.out, by rw [mapAt_zero]; exact Hown.out, (Hm.out).mono (by simp)⟩
            case round =>
              clear hc1 hc2 hc3 hf3 Hbl Hown Hm
              obtain ⟨k, hk, rfl, hb, hown, hmod⟩ := hrel
              have hc1 : wr.cell? ⟨r, 1, none⟩ = some (str o.data) := hb.cell 1
              have hc2 : wr.cell? ⟨r, 2, none⟩ = some (.slice A o.data.length cap) := hb.cell 2
              have hc3 : wr.cell? ⟨r, 3, none⟩ = some (.int .i64 o.endv) := hb.cell 3
              have hf3 := hb.frozen 3
              unfold str at hc1
              have Hb := hide hb
              have Hown := hide hown
              have Hmod := hide hmod
              by_cases hlt : k < n
              · obtain ⟨y, hy⟩ : ∃ y, o.hows[i + k]? = some y := ⟨_, List.getElem?_eq_getElem (by rw [Hhl.out]; omega)⟩
                rcases rown_form hown with ⟨_, h0⟩ | ⟨g, cap', e1, h2, h3, h4, h5⟩
                · omega
                cases e1
                obtain ⟨hcell, hfz⟩ := h5 (i + k) y (by rw [mapAt_next]; exact hy)
                have Hsucc := hide (mapAt_succ (fun _ => 1) o.hows i k hy)
                have hne : r ≠ g := fun e => own_blk_ne hown hb (by decide) g rfl e.symm
                clear h5 hb hown hmod hy
                go_wp2
                go_roundw
                case rel =>
                  refine ⟨k + 1, by omega, by go_num, (Hb.out.far (p := ⟨g, i + k, none⟩) hne _), ?_, (Hmod.out).setCell (.inl (by simp [rfoot, Value.ownBlock])) _⟩
                  rw [Hsucc.out, List.map_set]
                  exact ((Hown.out).stored (i + k) (iv 1)).1
                case measure => simp [intOf]; omega
              · obtain rfl : n = k := by omega
                clear hb hown hmod
                by_cases hfin : i + n = o.data.length
                · have HF : Hid (o.takeFin i n = true) := hide (by rw [Htf.out, hw]; simpa using hfin)
                  have Hend := hide (Hendv.out.trans (if_pos HF.out))
                  have hfb : (((i : Int) + (n : Int)) == (o.data.length : Int)) = true := by simpa using (by omega : (i : Int) + (n : Int) = o.data.length)
                  clear hfin
                  go_wp2
                  go_quiet (fail)
                  go_wp2
                  refine bodyPost_ret (results_tmp4 rfl _ _ _) rfl ?_
                  refine ⟨?_, _, ⟨?_, ?_, Hg'.out⟩, ((Hmod.out).setCell (.inl (by simp [rfoot])) _).drewN _, fun _ hk => .inl hk⟩
                  · rw [HR.out.1, HF.out]; simp only [Told.val, str]; rw [← Hstr.out]; rfl
                  · rw [HR.out.2, Hend.out, Ob.takeEnd_limit, Ob.takeEnd_data, Ob.takeEnd_reset]; exact Hb.out.set_ 3 _
                  · rw [HR.out.2, Hhow.out, Ob.takeEnd_data]; exact ((Mod.refl [] _).drewN nq).own (own_far Hown.out (own_blk_ne Hown.out Hb.out (by decide)) _) (by simp)
                have HF : Hid (o.takeFin i n = false) := hide (by rw [Htf.out, hw]; simpa using hfin)
                have Hend := hide (Hendv.out.trans (if_neg (by rw [HF.out]; simp)))

                go_wp2
                go_quiet (fail)
                go_wp2
                refine bodyPost_ret (results_tmp4 rfl _ _ _) rfl ?_
                refine ⟨?_, _, ⟨?_, ?_, Hg'.out⟩, (Hmod.out).drewN _, fun _ hk => .inl hk⟩
                · rw [HR.out.1, HF.out]; simp only [Told.val, str]; rw [← Hstr.out]; rfl
                · rw [HR.out.2, Hend.out, Ob.takeEnd_limit, Ob.takeEnd_data, Ob.takeEnd_reset]; exact Hb.out
                · rw [HR.out.2, Hhow.out, Ob.takeEnd_data]; exact ((Mod.refl [] wr).drewN nq).own Hown.out (by simp)
    by_cases q2 : c = 2
    · subst q2
      replace hw : o.waits = true := hw
      rcases HN.out with ⟨h0, hA, hB⟩ | ⟨h0, hC, hD⟩
      · obtain rfl : M = 0 := by omega
        have hF1 : F = -1 := by rw [← hF]; unfold Ob.fromA; rw [if_pos h0]
        subst hF1
        clear HN hF
        by_cases hsl : o.sent < o.data.length
        · have HR := hide (hA (.inr hsl))
          clear hA hB h0 hM
          go_enter Try.func40, Try.ntmps40
          go_wp2_with fail
          refine Hfrom.out.mono ?_
          rintro e w1 ⟨rfl, n0, rfl⟩
          have h' := h.drewN n0
          have hm := (Mod.refl [] w).drewN n0
          generalize w.drewN n0 = w1 at h' hm ⊢
          clear h hc1 hc3 hc4
          obtain ⟨A, cap, rfl, hcp, hcm, _⟩ := h'.form
          have hc1 := h'.c1
          have hc2 := h'.c2
          have hc3 := h'.c3
          have hf3 := h'.blk.frozen 3
          rw [Hc.out] at hc3
          go_wp2
          go_quiet ((go_at_call 27; exact Calls.quiet_of (rsent_any _ r o _ (h'.drewN _))))
          go_wp2
          refine bodyPost_ret (results_tmp4 rfl _ _ _) rfl ?_
          exact ⟨by rw [HR.out.1]; rfl, by rw [HR.out.2]; exact RStep.of_mod2 h' hm ((Mod.refl _ _).drewN _)⟩
        · have HR := hide (hB hw hsl)
          have hg' := h.good.next most
          rw [HR.out.2.1] at hg'
          have hev := h.good.takeEnd_endv (i := o.data.length) (n := 0) (by omega)
          rw [HR.out.2.2, if_pos rfl] at hev
          have H3 : Hid (∀ w2, RBox w2 r o H → RBox (w2.setCell ⟨r, 3, none⟩ (.int .i64 1)) r (o.takeEnd o.data.length 0) H) := hide (fun w2 h2 => h2.set 3 _ (by
            rw [hev, Ob.takeEnd_limit, Ob.takeEnd_data, Ob.takeEnd_reset]; rfl) (Ob.takeEnd_data _ _ _) (by rw [Ob.takeEnd_hows, mapAt_zero]) hg')
          clear hA hB h0 hM hg' hev
          go_enter Try.func40, Try.ntmps40
          go_wp2_with fail
          refine Hfrom.out.mono ?_
          rintro e w1 ⟨rfl, n0, rfl⟩
          have h' := h.drewN n0
          have hm := (Mod.refl [] w).drewN n0
          generalize w.drewN n0 = w1 at h' hm ⊢
          clear h hc1 hc3 hc4
          obtain ⟨A, cap, rfl, hcp, hcm, _⟩ := h'.form
          have hc1 := h'.c1
          have hc2 := h'.c2
          have hc3 := h'.c3
          have hf3 := h'.blk.frozen 3
          rw [Hc.out] at hc3
          go_wp2
          go_quiet ((go_at_call 27; exact Calls.quiet_of (rsent_any _ r o _ (h'.drewN _))))

          have h2 := h'.drewN nq
          have hm2 := hm.drewN nq
          generalize w1.drewN nq = w2 at h2 hm2 ⊢
          clear h' hm hc1 hc2 hc3 hf3
          have hc2 := h2.c2
          have hc3 := h2.c3
          have hf3 := h2.blk.frozen 3
          go_wp2
          refine bodyPost_ret (results_tmp4 rfl _ _ _) rfl ?_
          refine ⟨by rw [HR.out.1]; rfl, _, by rw [HR.out.2.1]; exact H3.out w2 h2, (hm2.mono (by simp)).setCell (.inl (by simp [rfoot])) _, fun _ hk => .inl hk⟩

      · have hF1 : F = (o.first.1 : Int) := by rw [← hF]; unfold Ob.fromA; rw [if_neg (by omega)]
        have hfw := h.good.wf.first
        clear HN
        subst hF
        obtain ⟨i, hi⟩ : ∃ i, o.first.1 = i := ⟨_, rfl⟩
        rw [hi] at hF1 hfw hD
        rw [hF1] at Hfrom
        by_cases hlow : most < 1
        · have HR := hide (hC hlow)
          clear hC hD hF1
          rw [hM] at h0 hfw
          clear hM
          go_enter Try.func40, Try.ntmps40
          go_wp2_with fail
          refine Hfrom.out.mono ?_
          rintro e w1 ⟨rfl, n0, rfl⟩
          have h' := h.drewN n0
          have hm := (Mod.refl [] w).drewN n0
          generalize w.drewN n0 = w1 at h' hm ⊢
          clear h hc1 hc3 hc4
          obtain ⟨A, cap, rfl, hcp, hcm, _⟩ := h'.form
          have hc1 := h'.c1
          have hc2 := h'.c2
          have hc3 := h'.c3
          have hf3 := h'.blk.frozen 3
          rw [Hc.out] at hc3
          go_wp2
          refine bodyPost_ret (results_tmp4 rfl _ _ _) rfl ?_
          exact ⟨by rw [HR.out.1]; rfl, by rw [HR.out.2]; exact RStep.of_mod2 h' hm (Mod.refl _ _)⟩
        · obtain ⟨n, hn⟩ : ∃ n : Nat, (n : Int) = min (o.first.2 : Int) most := ⟨(min (o.first.2 : Int) most).toNat, by omega⟩
          have HR := hide (hD n hn (by omega))
          have hin : i + n ≤ o.data.length := by omega
          have Htf := hide (Ob.takeFin_eq hin)
          have Hendv := hide (h.good.takeEnd_endv hin)
          have Hhow := hide (Ob.takeEnd_hows o i n)
          have Hstr := hide (extract_piece o.data i n)
          have Hhl := hide h.good.hows_len
          have hg' := h.good.next most
          have Hg' := hide hg'
          have hn0 : 0 < n := by omega
          rw [hM] at hn h0 hfw
          clear hC hD hF1 hM hg'
          by_cases hmm : most < M
          · have hmn : most = (n : Int) := by omega
            have hnM : n < M := by omega
            clear hn hmm
            subst hmn
            go_enter Try.func40, Try.ntmps40
            go_wp2_with fail
            refine Hfrom.out.mono ?_
            rintro e w1 ⟨rfl, n0, rfl⟩
            have h' := h.drewN n0
            have hm := (Mod.refl [] w).drewN n0
            generalize w.drewN n0 = w1 at h' hm ⊢
            clear h hc1 hc3 hc4
            obtain ⟨A, cap, rfl, hcp, hcm, _⟩ := h'.form
            have hc1 := h'.c1
            have hc2 := h'.c2
            have hc3 := h'.c3
            have hf3 := h'.blk.frozen 3
            rw [Hc.out] at hc3

            have Hbl := hide h'.blk
            have Hown := hide h'.how
            have Hm := hide hm
            clear h' hm
            go_wp2
            go_loopw [11] (fun j wr => ∃ k : Nat, k ≤ n ∧ j = .int .i64 (k : Int) ∧ Blk wr r 50 #[.int .u64 (o.limit : Int), str o.data, .slice A o.data.length cap, .int .i64 o.endv, .bool o.reset] ∧
                wr.ownsRow 0 3 1 (.slice A o.data.length cap) o.data.length ((mapAt (fun _ => 1) o.hows i k).map iv) ∧ Mod (rfoot r (.slice A o.data.length cap)) w wr) (fun j _ => 70000 - (intOf j).toNat)
            case atStart => exact ⟨0, by omega, rfl, Hbl.out, by rw [mapAt_zero]; exact Hown.out, (Hm.out).mono (by simp)⟩
            case round =>
              clear hc1 hc2 hc3 hf3 Hbl Hown Hm
              obtain ⟨k, hk, rfl, hb, hown, hmod⟩ := hrel
              have hc1 : wr.cell? ⟨r, 1, none⟩ = some (str o.data) := hb.cell 1
              have hc2 : wr.cell? ⟨r, 2, none⟩ = some (.slice A o.data.length cap) := hb.cell 2
              have hc3 : wr.cell? ⟨r, 3, none⟩ = some (.int .i64 o.endv) := hb.cell 3
              have hf3 := hb.frozen 3
              unfold str at hc1
              have Hb := hide hb
              have Hown := hide hown
              have Hmod := hide hmod
              by_cases hlt : k < n
              · obtain ⟨y, hy⟩ : ∃ y, o.hows[i + k]? = some y := ⟨_, List.getElem?_eq_getElem (by rw [Hhl.out]; omega)⟩
                rcases rown_form hown with ⟨_, h0⟩ | ⟨g, cap', e1, h2, h3, h4, h5⟩
                · omega
                cases e1
                obtain ⟨hcell, hfz⟩ := h5 (i + k) y (by rw [mapAt_next]; exact hy)
                have Hsucc := hide (mapAt_succ (fun _ => 1) o.hows i k hy)
                have hne : r ≠ g := fun e => own_blk_ne hown hb (by decide) g rfl e.symm
                clear h5 hb hown hmod hy
                go_wp2
                go_roundw
                case rel =>
                  refine ⟨k + 1, by omega, by go_num, (Hb.out.far (p := ⟨g, i + k, none⟩) hne _), ?_, (Hmod.out).setCell (.inl (by simp [rfoot, Value.ownBlock])) _⟩
                  rw [Hsucc.out, List.map_set]
                  exact ((Hown.out).stored (i + k) (iv 1)).1
                case measure => simp [intOf]; omega
              · obtain rfl : n = k := by omega
                clear hb hown hmod
                by_cases hfin : i + n = o.data.length
                · have HF : Hid (o.takeFin i n = true) := hide (by rw [Htf.out, hw]; simpa using hfin)
                  have Hend := hide (Hendv.out.trans (if_pos HF.out))
                  have hfb : (((i : Int) + (n : Int)) == (o.data.length : Int)) = true := by simpa using (by omega : (i : Int) + (n : Int) = o.data.length)
                  clear hfin
                  go_wp2
                  go_quiet (fail)
                  go_wp2
                  refine bodyPost_ret (results_tmp4 rfl _ _ _) rfl ?_
                  refine ⟨?_, _, ⟨?_, ?_, Hg'.out⟩, ((Hmod.out).setCell (.inl (by simp [rfoot])) _).drewN _, fun _ hk => .inl hk⟩
                  · rw [HR.out.1, HF.out]; simp only [Told.val, str]; rw [← Hstr.out]; rfl
                  · rw [HR.out.2, Hend.out, Ob.takeEnd_limit, Ob.takeEnd_data, Ob.takeEnd_reset]; exact Hb.out.set_ 3 _
                  · rw [HR.out.2, Hhow.out, Ob.takeEnd_data]; exact ((Mod.refl [] _).drewN nq).own (own_far Hown.out (own_blk_ne Hown.out Hb.out (by decide)) _) (by simp)
                have HF : Hid (o.takeFin i n = false) := hide (by rw [Htf.out, hw]; simpa using hfin)
                have Hend := hide (Hendv.out.trans (if_neg (by rw [HF.out]; simp)))

                go_wp2
                go_quiet (fail)
                go_wp2
                refine bodyPost_ret (results_tmp4 rfl _ _ _) rfl ?_
                refine ⟨?_, _, ⟨?_, ?_, Hg'.out⟩, (Hmod.out).drewN _, fun _ hk => .inl hk⟩
                · rw [HR.out.1, HF.out]; simp only [Told.val, str]; rw [← Hstr.out]; rfl
                · rw [HR.out.2, Hend.out, Ob.takeEnd_limit, Ob.takeEnd_data, Ob.takeEnd_reset]; exact Hb.out
                · rw [HR.out.2, Hhow.out, Ob.takeEnd_data]; exact ((Mod.refl [] wr).drewN nq).own Hown.out (by simp)
          · obtain rfl : n = M := by omega
            clear hn
            go_enter Try.func40, Try.ntmps40
            go_wp2_with fail
            refine Hfrom.out.mono ?_
            rintro e w1 ⟨rfl, n0, rfl⟩
            have h' := h.drewN n0
            have hm := (Mod.refl [] w).drewN n0
            generalize w.drewN n0 = w1 at h' hm ⊢
            clear h hc1 hc3 hc4
            obtain ⟨A, cap, rfl, hcp, hcm, _⟩ := h'.form
            have hc1 := h'.c1
            have hc2 := h'.c2
            have hc3 := h'.c3
            have hf3 := h'.blk.frozen 3
            rw [Hc.out] at hc3

            have Hbl := hide h'.blk
            have Hown := hide h'.how
            have Hm := hide hm
            clear h' hm
            go_wp2
            go_loopw [11] (fun j wr => ∃ k : Nat, k ≤ n ∧ j = .int .i64 (k : Int) ∧ Blk wr r 50 #[.int .u64 (o.limit : Int), str o.data, .slice A o.data.length cap, .int .i64 o.endv, .bool o.reset] ∧
                wr.ownsRow 0 3 1 (.slice A o.data.length cap) o.data.length ((mapAt (fun _ => 1) o.hows i k).map iv) ∧ Mod (rfoot r (.slice A o.data.length cap)) w wr) (fun j _ => 70000 - (intOf j).toNat)
            case atStart => exact ⟨0, by omega, rfl, Hbl.out, by rw [mapAt_zero]; exact Hown.out, (Hm.out).mono (by simp)⟩
            case round =>
              clear hc1 hc2 hc3 hf3 Hbl Hown Hm
              obtain ⟨k, hk, rfl, hb, hown, hmod⟩ := hrel
              have hc1 : wr.cell? ⟨r, 1, none⟩ = some (str o.data) := hb.cell 1
              have hc2 : wr.cell? ⟨r, 2, none⟩ = some (.slice A o.data.length cap) := hb.cell 2
              have hc3 : wr.cell? ⟨r, 3, none⟩ = some (.int .i64 o.endv) := hb.cell 3
              have hf3 := hb.frozen 3
              unfold str at hc1
              have Hb := hide hb
              have Hown := hide hown
              have Hmod := hide hmod
              by_cases hlt : k < n
              · obtain ⟨y, hy⟩ : ∃ y, o.hows[i + k]? = some y := ⟨_, List.getElem?_eq_getElem (by rw [Hhl.out]; omega)⟩
                rcases rown_form hown with ⟨_, h0⟩ | ⟨g, cap', e1, h2, h3, h4, h5⟩
                · omega
                cases e1
                obtain ⟨hcell, hfz⟩ := h5 (i + k) y (by rw [mapAt_next]; exact hy)
                have Hsucc := hide (mapAt_succ (fun _ => 1) o.hows i k hy)
                have hne : r ≠ g := fun e => own_blk_ne hown hb (by decide) g rfl e.symm
                clear h5 hb hown hmod hy
                go_wp2
                go_roundw
                case rel =>
                  refine ⟨k + 1, by omega, by go_num, (Hb.out.far (p := ⟨g, i + k, none⟩) hne _), ?_, (Hmod.out).setCell (.inl (by simp [rfoot, Value.ownBlock])) _⟩
                  rw [Hsucc.out, List.map_set]
                  exact ((Hown.out).stored (i + k) (iv 1)).1
                case measure => simp [intOf]; omega
              · obtain rfl : n = k := by omega
                clear hb hown hmod
                by_cases hfin : i + n = o.data.length
                · have HF : Hid (o.takeFin i n = true) := hide (by rw [Htf.out, hw]; simpa using hfin)
                  have Hend := hide (Hendv.out.trans (if_pos HF.out))
                  have hfb : (((i : Int) + (n : Int)) == (o.data.length : Int)) = true := by simpa using (by omega : (i : Int) + (n : Int) = o.data.length)
                  clear hfin
                  go_wp2
                  go_quiet (fail)
                  go_wp2
                  refine bodyPost_ret (results_tmp4 rfl _ _ _) rfl ?_
                  refine ⟨?_, _, ⟨?_, ?_, Hg'.out⟩, ((Hmod.out).setCell (.inl (by simp [rfoot])) _).drewN _, fun _ hk => .inl hk⟩
                  · rw [HR.out.1, HF.out]; simp only [Told.val, str]; rw [← Hstr.out]; rfl
                  · rw [HR.out.2, Hend.out, Ob.takeEnd_limit, Ob.takeEnd_data, Ob.takeEnd_reset]; exact Hb.out.set_ 3 _
                  · rw [HR.out.2, Hhow.out, Ob.takeEnd_data]; exact ((Mod.refl [] _).drewN nq).own (own_far Hown.out (own_blk_ne Hown.out Hb.out (by decide)) _) (by simp)
                have HF : Hid (o.takeFin i n = false) := hide (by rw [Htf.out, hw]; simpa using hfin)
                have Hend := hide (Hendv.out.trans (if_neg (by rw [HF.out]; simp)))

                go_wp2
                go_quiet (fail)
                go_wp2
                refine bodyPost_ret (results_tmp4 rfl _ _ _) rfl ?_
                refine ⟨?_, _, ⟨?_, ?_, Hg'.out⟩, (Hmod.out).drewN _, fun _ hk => .inl hk⟩
                · rw [HR.out.1, HF.out]; simp only [Told.val, str]; rw [← Hstr.out]; rfl
                · rw [HR.out.2, Hend.out, Ob.takeEnd_limit, Ob.takeEnd_data, Ob.takeEnd_reset]; exact Hb.out
                · rw [HR.out.2, Hhow.out, Ob.takeEnd_data]; exact ((Mod.refl [] wr).drewN nq).own Hown.out (by simp)
    replace hw : o.waits = false := by rw [hw]; simp [q0, q2]
    have p0 : ((c.toNat : Int) == 0) = false := by rw [beq_u8z c 0 0 rfl]; simpa using q0
    have p2 : ((c.toNat : Int) == 2) = false := by rw [beq_u8z c 2 2 rfl]; simpa using q2
    clear q0 q2
    rcases HN.out with ⟨h0, hA, hB⟩ | ⟨h0, hC, hD⟩
    · obtain rfl : M = 0 := by omega
      have hF1 : F = -1 := by rw [← hF]; unfold Ob.fromA; rw [if_pos h0]
      subst hF1
      clear HN hF
      have HR := hide (hA (.inl hw))
      clear hA hB h0 hM
      go_enter Try.func40, Try.ntmps40
      go_wp2_with fail
      refine Hfrom.out.mono ?_
      rintro e w1 ⟨rfl, n0, rfl⟩
      have h' := h.drewN n0
      have hm := (Mod.refl [] w).drewN n0
      generalize w.drewN n0 = w1 at h' hm ⊢
      clear h hc1 hc3 hc4
      obtain ⟨A, cap, rfl, hcp, hcm, _⟩ := h'.form
      have hc1 := h'.c1
      have hc2 := h'.c2
      have hc3 := h'.c3
      have hf3 := h'.blk.frozen 3
      rw [Hc.out] at hc3
      go_wp2
      go_quiet (fail)
      go_wp2
      refine bodyPost_ret (results_tmp4 rfl _ _ _) rfl ?_
      exact ⟨by rw [HR.out.1]; rfl, by rw [HR.out.2]; exact RStep.of_mod2 h' hm ((Mod.refl _ _).drewN _)⟩

    · have hF1 : F = (o.first.1 : Int) := by rw [← hF]; unfold Ob.fromA; rw [if_neg (by omega)]
      have hfw := h.good.wf.first
      clear HN
      subst hF
      obtain ⟨i, hi⟩ : ∃ i, o.first.1 = i := ⟨_, rfl⟩
      rw [hi] at hF1 hfw hD
      rw [hF1] at Hfrom
      by_cases hlow : most < 1
      · have HR := hide (hC hlow)
        clear hC hD hF1
        rw [hM] at h0 hfw
        clear hM
        go_enter Try.func40, Try.ntmps40
        go_wp2_with fail
        refine Hfrom.out.mono ?_
        rintro e w1 ⟨rfl, n0, rfl⟩
        have h' := h.drewN n0
        have hm := (Mod.refl [] w).drewN n0
        generalize w.drewN n0 = w1 at h' hm ⊢
        clear h hc1 hc3 hc4
        obtain ⟨A, cap, rfl, hcp, hcm, _⟩ := h'.form
        have hc1 := h'.c1
        have hc2 := h'.c2
        have hc3 := h'.c3
        have hf3 := h'.blk.frozen 3
        rw [Hc.out] at hc3
        go_wp2
        refine bodyPost_ret (results_tmp4 rfl _ _ _) rfl ?_
        exact ⟨by rw [HR.out.1]; rfl, by rw [HR.out.2]; exact RStep.of_mod2 h' hm (Mod.refl _ _)⟩
      · obtain ⟨n, hn⟩ : ∃ n : Nat, (n : Int) = min (o.first.2 : Int) most := ⟨(min (o.first.2 : Int) most).toNat, by omega⟩
        have HR := hide (hD n hn (by omega))
        have hin : i + n ≤ o.data.length := by omega
        have Htf := hide (Ob.takeFin_eq hin)
        have Hendv := hide (h.good.takeEnd_endv hin)
        have Hhow := hide (Ob.takeEnd_hows o i n)
        have Hstr := hide (extract_piece o.data i n)
        have Hhl := hide h.good.hows_len
        have hg' := h.good.next most
        have Hg' := hide hg'
        have hn0 : 0 < n := by omega
        rw [hM] at hn h0 hfw
        clear hC hD hF1 hM hg'
        by_cases hmm : most < M
        · have hmn : most = (n : Int) := by omega
          have hnM : n < M := by omega
          clear hn hmm
          subst hmn
          go_enter Try.func40, Try.ntmps40
          go_wp2_with fail
          refine Hfrom.out.mono ?_
          rintro e w1 ⟨rfl, n0, rfl⟩
          have h' := h.drewN n0
          have hm := (Mod.refl [] w).drewN n0
          generalize w.drewN n0 = w1 at h' hm ⊢
          clear h hc1 hc3 hc4
          obtain ⟨A, cap, rfl, hcp, hcm, _⟩ := h'.form
          have hc1 := h'.c1
          have hc2 := h'.c2
          have hc3 := h'.c3
          have hf3 := h'.blk.frozen 3
          rw [Hc.out] at hc3

          have Hbl := hide h'.blk
          have Hown := hide h'.how
          have Hm := hide hm
          clear h' hm
          go_wp2
          go_loopw [11] (fun j wr => ∃ k : Nat, k ≤ n ∧ j = .int .i64 (k : Int) ∧ Blk wr r 50 #[.int .u64 (o.limit : Int), str o.data, .slice A o.data.length cap, .int .i64 o.endv, .bool o.reset] ∧
              wr.ownsRow 0 3 1 (.slice A o.data.length cap) o.data.length ((mapAt (fun _ => 1) o.hows i k).map iv) ∧ Mod (rfoot r (.slice A o.data.length cap)) w wr) (fun j _ => 70000 - (intOf j).toNat)
          case atStart => exact ⟨0, by omega, rfl, Hbl.out, by rw [mapAt_zero]; exact Hown.out, (Hm.out).mono (by simp)⟩
          case round =>
            clear hc1 hc2 hc3 hf3 Hbl Hown Hm
            obtain ⟨k, hk, rfl, hb, hown, hmod⟩ := hrel
            have hc1 : wr.cell? ⟨r, 1, none⟩ = some (str o.data) := hb.cell 1
            have hc2 : wr.cell? ⟨r, 2, none⟩ = some (.slice A o.data.length cap) := hb.cell 2
            have hc3 : wr.cell? ⟨r, 3, none⟩ = some (.int .i64 o.endv) := hb.cell 3
            have hf3 := hb.frozen 3
            unfold str at hc1
            have Hb := hide hb
            have Hown := hide hown
            have Hmod := hide hmod
            by_cases hlt : k < n
            · obtain ⟨y, hy⟩ : ∃ y, o.hows[i + k]? = some y := ⟨_, List.getElem?_eq_getElem (by rw [Hhl.out]; omega)⟩
              rcases rown_form hown with ⟨_, h0⟩ | ⟨g, cap', e1, h2, h3, h4, h5⟩
              · omega
              cases e1
              obtain ⟨hcell, hfz⟩ := h5 (i + k) y (by rw [mapAt_next]; exact hy)
              have Hsucc := hide (mapAt_succ (fun _ => 1) o.hows i k hy)
              have hne : r ≠ g := fun e => own_blk_ne hown hb (by decide) g rfl e.symm
              clear h5 hb hown hmod hy
              go_wp2
              go_roundw
              case rel =>
                refine ⟨k + 1, by omega, by go_num, (Hb.out.far (p := ⟨g, i + k, none⟩) hne _), ?_, (Hmod.out).setCell (.inl (by simp [rfoot, Value.ownBlock])) _⟩
                rw [Hsucc.out, List.map_set]
                exact ((Hown.out).stored (i + k) (iv 1)).1
              case measure => simp [intOf]; omega
            · obtain rfl : n = k := by omega
              clear hb hown hmod
              have HF : Hid (o.takeFin i n = false) := hide (by rw [Htf.out, hw]; simp)
              have Hend := hide (Hendv.out.trans (if_neg (by rw [HF.out]; simp)))
              by_cases hfin : i + n = o.data.length
              · have hfb : (((i : Int) + (n : Int)) == (o.data.length : Int)) = true := by simpa using (by omega : (i : Int) + (n : Int) = o.data.length)
                clear hfin
                go_wp2
                go_quiet (fail)
                go_wp2
                refine bodyPost_ret (results_tmp4 rfl _ _ _) rfl ?_
                refine ⟨?_, _, ⟨?_, ?_, Hg'.out⟩, (Hmod.out).drewN _, fun _ hk => .inl hk⟩
                · rw [HR.out.1, HF.out]; simp only [Told.val, str]; rw [← Hstr.out]; rfl
                · rw [HR.out.2, Hend.out, Ob.takeEnd_limit, Ob.takeEnd_data, Ob.takeEnd_reset]; exact Hb.out
                · rw [HR.out.2, Hhow.out, Ob.takeEnd_data]; exact ((Mod.refl [] wr).drewN nq).own Hown.out (by simp)

              go_wp2
              go_quiet (fail)
              go_wp2
              refine bodyPost_ret (results_tmp4 rfl _ _ _) rfl ?_
              refine ⟨?_, _, ⟨?_, ?_, Hg'.out⟩, (Hmod.out).drewN _, fun _ hk => .inl hk⟩
              · rw [HR.out.1, HF.out]; simp only [Told.val, str]; rw [← Hstr.out]; rfl
              · rw [HR.out.2, Hend.out, Ob.takeEnd_limit, Ob.takeEnd_data, Ob.takeEnd_reset]; exact Hb.out
              · rw [HR.out.2, Hhow.out, Ob.takeEnd_data]; exact ((Mod.refl [] wr).drewN nq).own Hown.out (by simp)
        · obtain rfl : n = M := by omega
          clear hn
          go_enter Try.func40, Try.ntmps40
          go_wp2_with fail
          refine Hfrom.out.mono ?_
          rintro e w1 ⟨rfl, n0, rfl⟩
          have h' := h.drewN n0
          have hm := (Mod.refl [] w).drewN n0
          generalize w.drewN n0 = w1 at h' hm ⊢
          clear h hc1 hc3 hc4
          obtain ⟨A, cap, rfl, hcp, hcm, _⟩ := h'.form
          have hc1 := h'.c1
          have hc2 := h'.c2
          have hc3 := h'.c3
          have hf3 := h'.blk.frozen 3
          rw [Hc.out] at hc3

          have Hbl := hide h'.blk
          have Hown := hide h'.how
          have Hm := hide hm
          clear h' hm
          go_wp2
          go_loopw [11] (fun j wr => ∃ k : Nat, k ≤ n ∧ j = .int .i64 (k : Int) ∧ Blk wr r 50 #[.int .u64 (o.limit : Int), str o.data, .slice A o.data.length cap, .int .i64 o.endv, .bool o.reset] ∧
              wr.ownsRow 0 3 1 (.slice A o.data.length cap) o.data.length ((mapAt (fun _ => 1) o.hows i k).map iv) ∧ Mod (rfoot r (.slice A o.data.length cap)) w wr) (fun j _ => 70000 - (intOf j).toNat)
          case atStart => exact ⟨0, by omega, rfl, Hbl.out, by rw [mapAt_zero]; exact Hown.out, (Hm.out).mono (by simp)⟩
          case round =>
            clear hc1 hc2 hc3 hf3 Hbl Hown Hm
            obtain ⟨k, hk, rfl, hb, hown, hmod⟩ := hrel
            have hc1 : wr.cell? ⟨r, 1, none⟩ = some (str o.data) := hb.cell 1
            have hc2 : wr.cell? ⟨r, 2, none⟩ = some (.slice A o.data.length cap) := hb.cell 2
            have hc3 : wr.cell? ⟨r, 3, none⟩ = some (.int .i64 o.endv) := hb.cell 3
            have hf3 := hb.frozen 3
            unfold str at hc1
            have Hb := hide hb
            have Hown := hide hown
            have Hmod := hide hmod
            by_cases hlt : k < n
            · obtain ⟨y, hy⟩ : ∃ y, o.hows[i + k]? = some y := ⟨_, List.getElem?_eq_getElem (by rw [Hhl.out]; omega)⟩
              rcases rown_form hown with ⟨_, h0⟩ | ⟨g, cap', e1, h2, h3, h4, h5⟩
              · omega
              cases e1
              obtain ⟨hcell, hfz⟩ := h5 (i + k) y (by rw [mapAt_next]; exact hy)
              have Hsucc := hide (mapAt_succ (fun _ => 1) o.hows i k hy)
              have hne : r ≠ g := fun e => own_blk_ne hown hb (by decide) g rfl e.symm
              clear h5 hb hown hmod hy
              go_wp2
              go_roundw
              case rel =>
                refine ⟨k + 1, by omega, by go_num, (Hb.out.far (p := ⟨g, i + k, none⟩) hne _), ?_, (Hmod.out).setCell (.inl (by simp [rfoot, Value.ownBlock])) _⟩
                rw [Hsucc.out, List.map_set]
                exact ((Hown.out).stored (i + k) (iv 1)).1
              case measure => simp [intOf]; omega
            · obtain rfl : n = k := by omega
              clear hb hown hmod
              have HF : Hid (o.takeFin i n = false) := hide (by rw [Htf.out, hw]; simp)
              have Hend := hide (Hendv.out.trans (if_neg (by rw [HF.out]; simp)))
              by_cases hfin : i + n = o.data.length
              · have hfb : (((i : Int) + (n : Int)) == (o.data.length : Int)) = true := by simpa using (by omega : (i : Int) + (n : Int) = o.data.length)
                clear hfin
                go_wp2
                go_quiet (fail)
                go_wp2
                refine bodyPost_ret (results_tmp4 rfl _ _ _) rfl ?_
                refine ⟨?_, _, ⟨?_, ?_, Hg'.out⟩, (Hmod.out).drewN _, fun _ hk => .inl hk⟩
                · rw [HR.out.1, HF.out]; simp only [Told.val, str]; rw [← Hstr.out]; rfl
                · rw [HR.out.2, Hend.out, Ob.takeEnd_limit, Ob.takeEnd_data, Ob.takeEnd_reset]; exact Hb.out
                · rw [HR.out.2, Hhow.out, Ob.takeEnd_data]; exact ((Mod.refl [] wr).drewN nq).own Hown.out (by simp)

              go_wp2
              go_quiet (fail)
              go_wp2
              refine bodyPost_ret (results_tmp4 rfl _ _ _) rfl ?_
              refine ⟨?_, _, ⟨?_, ?_, Hg'.out⟩, (Hmod.out).drewN _, fun _ hk => .inl hk⟩
              · rw [HR.out.1, HF.out]; simp only [Told.val, str]; rw [← Hstr.out]; rfl
              · rw [HR.out.2, Hend.out, Ob.takeEnd_limit, Ob.takeEnd_data, Ob.takeEnd_reset]; exact Hb.out
              · rw [HR.out.2, Hhow.out, Ob.takeEnd_data]; exact ((Mod.refl [] wr).drewN nq).own Hown.out (by simp)
  · rw [hr] at hc4
    have H1 : Hid (o.nextTold most = ⟨0, [], false, false⟩ ∧ o.next most = o) := hide (by simp [Ob.nextTold, Ob.next, hr])
    have H2 := hide (RStep.of_mod h (Mod.refl [] w))
    clear hr h
    go_enter Try.func40, Try.ntmps40
    go_wp2
    refine bodyPost_ret (results_tmp4 rfl _ _ _) rfl ?_
    exact ⟨by rw [H1.out.1]; rfl, by rw [H1.out.2]; exact H2.out⟩
end Go.Proofs.Ytnkhdipbljfohaa
