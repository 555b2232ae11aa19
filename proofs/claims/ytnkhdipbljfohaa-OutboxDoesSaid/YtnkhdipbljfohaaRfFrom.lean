/-
  the document's outbox: from, Blocked, ResetNow.
-/
import Derived.Test.YtnkhdipbljfohaaRf
namespace Go.Proofs.Ytnkhdipbljfohaa
open Go.RowKit

def Ob.fromA (o : Ob) : Int := if o.first.2 = 0 then -1 else (o.first.1 : Int)
theorem Ob.Good.first_pos {o : Ob} (h : 0 ≤ o.lostAt) : 0 < o.first.2 ∧ o.first = (o.lostAt.toNat, runAt o.st o.lostAt.toNat o.data.length 2) := by
  have e : o.first = (o.lostAt.toNat, runAt o.st o.lostAt.toNat o.data.length 2) := by unfold Ob.first; rw [if_pos h]
  refine ⟨?_, e⟩
  rw [e]
  obtain ⟨i, hi⟩ := Int.eq_ofNat_of_zero_le h
  obtain ⟨h1, h2⟩ := lostAt_lt hi
  rw [hi]
  have : 0 + 1 ≤ runAt o.st i o.data.length 2 := runOf_yes (how := 2) (k := 0) (Nat.zero_le _) (by rw [List.getElem?_drop, List.getElem?_take, if_pos (by omega)]; exact h2)
  simp only [Int.toNat_natCast]
  omega
theorem Ob.first_sent {o : Ob} (h : ¬ 0 ≤ o.lostAt) : o.first = (o.sent, o.room - o.sent) := by unfold Ob.first; rw [if_neg h]

set_option maxHeartbeats 2000000 in
theorem rfrom_any (w : World) (r : Nat) (o : Ob) (H : Value) (h : RBox w r o H) :
    Calls Try.prog 49 #[.pointer (some ⟨r, 0, none⟩)] w fun e w' => e = .returned (.tuple #[.int .i64 o.fromA, .int .i64 (o.first.2 : Nat)]) ∧ ∃ n, w' = w.drewN n := by
  have hc0 := h.c0
  have hc2 := h.c2
  have hsz := h.size
  have hlim := h.good.wf.lim
  have hse := h.good.wf.sent
  have Hsent := hide (rsent_any w r o H h)
  obtain ⟨A, cap, rfl, hc, hcm, hat⟩ := h.form
  have Hrm : Hid (o.room = min o.limit o.data.length) := hide rfl
  clear h
  go_enter Try.func49, Try.ntmps49
  go_wp2
  go_loop [4] (fun n => ∃ k : Nat, k ≤ o.data.length ∧ n = .int .i64 k ∧ ∀ j, j < k → o.st[j]? ≠ some 2) (fun n => 70000 - (intOf n).toNat)
  case atStart => exact ⟨0, by omega, rfl, by intros; omega⟩
  case round =>
    obtain ⟨k, hk, rfl, hno⟩ := hrel
    have Hno := hide hno
    clear hno
    by_cases hlt : k < o.data.length
    · obtain ⟨g, x, rfl, hg, hx, hcell, _⟩ := hat k hlt
      by_cases hx' : x = 2
      · subst hx'
        have hl := Ob.lost_first hlt hx Hno.out
        have hl0 : 0 ≤ o.lostAt := by omega
        obtain ⟨hp, hf⟩ := Ob.Good.first_pos hl0
        rw [hl] at hf
        simp only [Int.toNat_natCast] at hf
        obtain ⟨N, hN⟩ : ∃ N, N = runAt o.st k o.data.length 2 := ⟨_, rfl⟩
        have hres : Hid (o.fromA = k ∧ o.first.2 = N) := hide (by
          rw [hN]
          refine ⟨?_, by rw [hf]⟩
          unfold Ob.fromA
          rw [if_neg (by omega), hf])
        have HN := hide hN
        have hNl : k + N ≤ o.data.length := by rw [hN]; have := runAt_le o.st k o.data.length 2; omega
        clear hx hl hl0 hp hf hN
        go_wp2
        go_loop [5] (fun n => ∃ m : Nat, m ≤ N ∧ n = .int .i64 m) (fun n => 70000 - (intOf n).toNat)
        case atStart => exact ⟨0, by omega, rfl⟩
        case round =>
          clear hcell
          obtain ⟨m, hm, rfl⟩ := hrel
          by_cases hmlt : k + m < o.data.length
          · obtain ⟨g', y, e1, hg', hy, hcell, _⟩ := hat (k + m) hmlt
            cases e1
            clear hat
            by_cases hy' : y = 2
            · subst hy'
              have hm2 : m + 1 ≤ N := by
                rw [HN.out]; rw [HN.out] at hm
                exact runOf_yes hm (by rw [List.getElem?_drop, List.getElem?_take, if_pos hmlt]; exact hy)
              clear hy
              go_wp2
              go_round
              case rel => exact ⟨m + 1, by omega, by go_num⟩
              case measure => simp [intOf]; omega
            · have hm2 : N = m := by
                rw [HN.out]; rw [HN.out] at hm
                exact runOf_no hm (by rw [List.getElem?_drop, List.getElem?_take, if_pos hmlt, hy]; simpa using hy')
              have HM := hide hm2
              have hne : ((y.toNat : Int) == 2) = false := by rw [beq_u8z y 2 2 rfl]; simpa using hy'
              clear hy hy' hm2
              go_wp2
              go_ret2
              exact ⟨by rw [hres.out.1, hres.out.2, HM.out]; rfl, 0, rfl⟩
          · have hm2 : N = m := by
              rw [HN.out]; rw [HN.out] at hm
              exact runOf_no hm (by rw [List.getElem?_drop, List.getElem?_take, if_neg hmlt]; simp)
            have HM := hide hm2
            clear hm2 hat
            go_wp2
            go_ret2
            exact ⟨by rw [hres.out.1, hres.out.2, HM.out]; rfl, 0, rfl⟩
      · have hne : ((x.toNat : Int) == 2) = false := by rw [beq_u8z x 2 2 rfl]; simpa using hx'
        have hne2 : ((x.toNat : Int) != 2) = true := by simp [bne, hne]
        have Hn : Hid (∀ j, j < k + 1 → o.st[j]? ≠ some 2) := hide (fun j hj => by
          by_cases e : j = k
          · subst e; rw [hx]; simpa using hx'
          · exact Hno.out j (by omega))
        clear hx hx' hat hne
        go_wp2
        go_round
        case rel => exact ⟨k + 1, by omega, by go_num, Hn.out⟩
        case measure => simp [intOf]; omega
    · obtain rfl : o.data.length = k := by omega
      have hl := Ob.lost_never Hno.out
      have hfs := Ob.first_sent hl
      obtain ⟨M, hM⟩ : ∃ M, M = o.room - o.sent := ⟨_, rfl⟩
      have HF : Hid (o.first = (o.sent, M)) := hide (by rw [hfs, hM])
      have hM2 : M ≤ o.data.length - o.sent ∧ (o.sent + M ≤ o.limit ∨ M = 0) ∧ (o.data.length ≤ o.sent + M ∨ o.limit ≤ o.sent + M) := by rw [hM, Hrm.out]; omega
      obtain ⟨hM2, hM3, hM4⟩ := hM2
      clear hat hl hfs hM
      obtain ⟨s, hs⟩ : ∃ s, o.sent = s := ⟨_, rfl⟩
      rw [hs] at Hsent hM2 hM3 hM4 hse HF
      clear hs
      go_wp2_with fail
      refine Hsent.out.mono ?_
      rintro e w' ⟨rfl, n0, rfl⟩
      replace hc0 : (w.drewN n0).cell? ⟨r, 0, none⟩ = some (.int .u64 (o.limit : Int)) := hc0
      replace hc2 : (w.drewN n0).cell? ⟨r, 2, none⟩ = some (.slice A o.data.length cap) := hc2
      go_wp2_with fail
      go_loop [7] (fun n => ∃ m : Nat, m ≤ M ∧ n = .int .i64 m) (fun n => 70000 - (intOf n).toNat)
      case atStart => exact ⟨0, by omega, rfl⟩
      case round =>
        obtain ⟨m, hm, rfl⟩ := hrel
        by_cases h1 : s + m < o.data.length
        · by_cases h2 : s + m < o.limit
          · go_wp2
            go_round
            case rel => exact ⟨m + 1, by omega, by go_num⟩
            case measure => simp [intOf]; omega
          · obtain rfl : M = m := by omega
            clear hm
            by_cases h0 : M = 0
            · have hres : Hid (o.fromA = -1 ∧ o.first.2 = 0) := hide (by unfold Ob.fromA; rw [HF.out]; simp [h0])
              subst h0
              go_wp2
              go_ret2
              exact ⟨by rw [hres.out.1, hres.out.2]; rfl, n0, rfl⟩
            · have hres : Hid (o.fromA = s ∧ o.first.2 = M) := hide (by unfold Ob.fromA; rw [HF.out]; simp [h0])
              go_wp2
              go_ret2
              exact ⟨by rw [hres.out.1, hres.out.2]; rfl, n0, rfl⟩
        · obtain rfl : M = m := by omega
          by_cases h0 : M = 0
          · have hres : Hid (o.fromA = -1 ∧ o.first.2 = 0) := hide (by unfold Ob.fromA; rw [HF.out]; simp [h0])
            subst h0
            go_wp2
            go_ret2
            exact ⟨by rw [hres.out.1, hres.out.2]; rfl, n0, rfl⟩
          · have hres : Hid (o.fromA = s ∧ o.first.2 = M) := hide (by unfold Ob.fromA; rw [HF.out]; simp [h0])
            go_wp2
            go_ret2
            exact ⟨by rw [hres.out.1, hres.out.2]; rfl, n0, rfl⟩

theorem RBox.drewN {w : World} {r : Nat} {o : Ob} {H : Value} (h : RBox w r o H) (n : Nat) : RBox (w.drewN n) r o H := h.mod ((Mod.refl [] w).drewN n) (by simp)

set_option maxHeartbeats 2000000 in
theorem rblocked_any (w : World) (r : Nat) (o : Ob) (H : Value) (h : RBox w r o H) :
    Calls Try.prog 28 #[.pointer (some ⟨r, 0, none⟩)] w fun e w' => e = .returned (.bool o.blocked) ∧ ∃ n, w' = w.drewN n := by
  have hc0 := h.c0
  have hc2 := h.c2
  have hc4 := h.c4
  have hsz := h.size
  have hlim := h.good.wf.lim
  have hse := h.good.wf.sent
  obtain ⟨A, cap, rfl, hc, hcm, hat⟩ := h.form
  have HB : Hid (o.blocked = (!o.reset && (decide (o.sent < o.data.length) && decide (o.room ≤ o.sent)))) := hide rfl
  have Hrm : Hid (o.room = min o.limit o.data.length) := hide rfl
  clear hat
  cases hr : o.reset
  · rw [hr] at hc4
    simp only [hr] at HB
    clear hr
    by_cases h1 : o.sent < o.data.length
    · have hres : Hid (o.blocked = decide (o.limit ≤ o.sent)) := hide (by
        rw [HB.out, Hrm.out, decide_eq_true h1]
        simp only [Bool.not_false, Bool.true_and]
        apply decide_eq_decide.2
        omega)
      clear HB Hrm
      go_enter Try.func28, Try.ntmps28
      go_wp2
      go_quiet ((go_at_call 27; exact Calls.quiet_of (rsent_any _ r o _ (h.drewN _))))
      go_wp2
      go_ret
      exact ⟨by rw [hres.out]; rfl, _, rfl⟩
    · have hres : Hid (o.blocked = false) := hide (by rw [HB.out, decide_eq_false h1]; rfl)
      clear HB Hrm
      go_enter Try.func28, Try.ntmps28
      go_wp2
      go_quiet ((go_at_call 27; exact Calls.quiet_of (rsent_any _ r o _ (h.drewN _))))
      go_wp2
      go_ret
      exact ⟨by rw [hres.out]; rfl, _, rfl⟩
  · rw [hr] at hc4
    simp only [hr] at HB
    clear hr
    go_enter Try.func28, Try.ntmps28
    go_wp2
    go_quiet (fail)
    go_wp2
    go_ret
    exact ⟨by rw [HB.out]; rfl, _, rfl⟩

/-- A cell of the struct is written. -/
theorem RBox.set {w : World} {r : Nat} {o o' : Ob} {H : Value} (h : RBox w r o H) (i : Nat) (u : Value)
    (hc : (#[.int .u64 (o.limit : Int), str o.data, H, .int .i64 o.endv, .bool o.reset] : Array Value).setIfInBounds i u = #[.int .u64 (o'.limit : Int), str o'.data, H, .int .i64 o'.endv, .bool o'.reset])
    (hd : o'.data = o.data) (hst : o'.hows = o.hows) (hg : o'.Good) : RBox (w.setCell ⟨r, i, none⟩ u) r o' H := by
  have h1 := own_blk_ne h.how h.blk (by decide)
  exact ⟨hc ▸ h.blk.set_ i u, by rw [hst, hd]; exact own_far h.how h1 u, hg⟩

set_option maxHeartbeats 2000000 in
theorem rreset_any (w : World) (r : Nat) (o : Ob) (H : Value) (h : RBox w r o H) :
    Calls Try.prog 43 #[.pointer (some ⟨r, 0, none⟩)] w fun e w' =>
      e = .returned (.tuple #[.int .u64 (o.resetAt : Nat), .int .i64 o.resetErr]) ∧ RStep w r H o.resetNow w' := by
  have hc4 := h.c4
  have hf4 := h.blk.frozen 4
  have hsz := h.size
  have hse := h.good.wf.sent
  cases hr : o.reset
  · rw [hr] at hc4
    cases hd : o.done
    · have H1 : Hid (o.resetAt = o.sent ∧ o.resetErr = 0 ∧ o.resetNow = { o with reset := true }) := hide (by simp [Ob.resetAt, Ob.resetErr, Ob.resetNow, hr, hd])
      have hcall := rdone_any w r o H h
      rw [hd] at hcall
      have Hcall := hide hcall
      have hg' := h.good.resetNow
      rw [H1.out.2.2] at hg'
      clear hcall hr hd
      go_enter Try.func43, Try.ntmps43
      go_wp2_with fail
      refine Hcall.out.mono ?_
      rintro e w1 ⟨rfl, n1, rfl⟩
      replace hf4 : (w.drewN n1).frozen? ⟨r, 4, none⟩ = false := hf4
      replace hc4 : (w.drewN n1).cell? ⟨r, 4, none⟩ = some (.bool false) := hc4
      have h2 := (h.drewN n1).set (o' := { o with reset := true }) 4 (.bool true) rfl rfl rfl hg'
      have Hsent := hide (rsent_any _ r _ H h2)
      have Hm := hide ((((Mod.refl (rfoot r H) w).drewN n1).setCell (p := ⟨r, 4, none⟩) (.inl (by simp [rfoot])) (.bool true)))
      clear Hcall hg'
      go_wp2_with fail
      refine Hsent.out.mono ?_
      rintro e w2 ⟨rfl, n2, rfl⟩
      go_wp2_with fail
      go_ret2
      exact ⟨by rw [H1.out.1, H1.out.2.1]; rfl, H, by rw [H1.out.2.2]; exact h2.drewN n2, Hm.out.drewN n2, fun _ hk => .inl hk⟩
    · have H1 : Hid (o.resetAt = 0 ∧ o.resetErr = 22 ∧ o.resetNow = o) := hide (by simp [Ob.resetAt, Ob.resetErr, Ob.resetNow, hd])
      have hcall := rdone_any w r o H h
      rw [hd] at hcall
      have Hcall := hide hcall
      clear hcall hr hd
      go_enter Try.func43, Try.ntmps43
      go_wp2_with fail
      refine Hcall.out.mono ?_
      rintro e w1 ⟨rfl, n1, rfl⟩
      have H2 := hide (RStep.of_mod h ((Mod.refl [] w).drewN n1))
      clear h hc4 Hcall
      go_wp2
      go_ret2
      exact ⟨by rw [H1.out.1, H1.out.2.1]; rfl, by rw [H1.out.2.2]; exact H2.out⟩
  · rw [hr] at hc4
    have H1 : Hid (o.resetAt = 0 ∧ o.resetErr = 22 ∧ o.resetNow = o) := hide (by simp [Ob.resetAt, Ob.resetErr, Ob.resetNow, hr])
    have H2 := hide (RStep.of_mod h (Mod.refl [] w))
    clear hr h
    go_enter Try.func43, Try.ntmps43
    go_wp2
    go_ret2
    exact ⟨by rw [H1.out.1, H1.out.2.1]; rfl, by rw [H1.out.2.2]; exact H2.out⟩
end Go.Proofs.Ytnkhdipbljfohaa
