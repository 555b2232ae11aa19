/-
  outbox: first, Done, Blocked, Again, Limit, Ended, Size, Sent: what only reads.
-/
import Derived.Test.YtnkhdipbljfohaaObRun
import Derived.Deep.RegionHeld3
namespace Go.Proofs.Ytnkhdipbljfohaa
open Go.RowKit

set_option maxHeartbeats 400000 in
theorem limit_any (w : World) (b : Nat) (o : Ob) (dv sv : Value) (h : OBox w b o dv sv) :
    Calls Try.prog 13 #[.pointer (some ⟨b, 0, none⟩)] w fun e w' => e = .returned (.int .u64 (o.limit : Nat)) ∧ ∃ n, w' = w.drewN n := by
  have hc0 := h.c0
  go_enter Try.func13, Try.ntmps13
  go_wp2
  go_ret
  exact ⟨rfl, 0, rfl⟩
set_option maxHeartbeats 400000 in
theorem ended_any (w : World) (b : Nat) (o : Ob) (dv sv : Value) (h : OBox w b o dv sv) :
    Calls Try.prog 14 #[.pointer (some ⟨b, 0, none⟩)] w fun e w' => e = .returned (.bool o.ended) ∧ ∃ n, w' = w.drewN n := by
  have hc0 := h.c4
  go_enter Try.func14, Try.ntmps14
  go_wp2
  go_ret
  exact ⟨rfl, 0, rfl⟩
set_option maxHeartbeats 400000 in
theorem sent_any (w : World) (b : Nat) (o : Ob) (dv sv : Value) (h : OBox w b o dv sv) :
    Calls Try.prog 16 #[.pointer (some ⟨b, 0, none⟩)] w fun e w' => e = .returned (.int .u64 (o.sent : Nat)) ∧ ∃ n, w' = w.drewN n := by
  have hc0 := h.c3
  have h1 := h.wf.sent
  have h2 := h.wf.size
  go_enter Try.func16, Try.ntmps16
  go_wp2
  go_ret
  exact ⟨rfl, 0, rfl⟩
set_option maxHeartbeats 400000 in
theorem size_any (w : World) (b : Nat) (o : Ob) (dv sv : Value) (h : OBox w b o dv sv) :
    Calls Try.prog 15 #[.pointer (some ⟨b, 0, none⟩)] w fun e w' => e = .returned (.int .u64 (o.data.length : Nat)) ∧ ∃ n, w' = w.drewN n := by
  have hc0 := h.c1
  have h2 := h.wf.size
  obtain ⟨A, c, rfl, _, _⟩ := h.dv_form
  go_enter Try.func15, Try.ntmps15
  go_wp2
  go_ret
  exact ⟨rfl, 0, rfl⟩

/-- What 'bytes.IndexByte(b.state[:len(b.data)], lost)' reads. -/
theorem OBox.piece {w : World} {b : Nat} {o : Ob} {dv sv : Value} (h : OBox w b o dv sv) :
    ∃ A c, sv = .slice A o.st.length c ∧ o.st.length ≤ c ∧ c ≤ 9223372036854775807 ∧ (A = none → o.data.length = 0) ∧
      ∀ a, A = some a → a.spot = none ∧ ∀ j x, (o.st.take o.data.length)[j]? = some x → w.cell? ⟨a.block, a.off + j, none⟩ = some (cv x) := by
  rcases own_form h.sta with ⟨h1, h2⟩ | ⟨g, cap, h1, h3, h4, _, h5⟩
  · refine ⟨none, 0, by rw [h1, h2]; rfl, by rw [h2]; simp, by omega, fun _ => ?_, fun a ha => by cases ha⟩
    have := h.wf.stl
    rw [h2] at this
    simp at this
    omega
  · refine ⟨_, _, h1, h3, h4, (fun h => by cases h), fun a ha => ?_⟩
    cases ha
    refine ⟨rfl, fun j x hx => ?_⟩
    rw [List.getElem?_take] at hx
    split at hx
    · simpa using (h5 j x hx).1
    · cases hx

/-- the state's slice, cut behind the last byte's state: as the walk spells it -/
theorem lost_call (w : World) (b : Nat) (o : Ob) (dv : Value) (g cap c : Nat) (h : OBox w b o dv (.slice (some ⟨g, 0, none⟩) o.st.length cap)) :
    Calls Try.prog 44 #[.slice (some ⟨g, 0, none⟩) o.data.length c, .int .u8 2] w fun e w' => e = .returned (.int .i64 o.lostAt) ∧ ∃ n, w' = w.drewN n := by
  obtain ⟨A', c'', hsv', h1, h2, h3, h4⟩ := h.piece
  cases hsv'
  exact indexByte_any w _ o.data.length c (o.st.take o.data.length) 2 (by rw [List.length_take]; have := h.wf.stl; omega) h3 h4
theorem lost_call_nil (w : World) (b : Nat) (o : Ob) (dv : Value) (c : Nat) (h : OBox w b o dv (.slice none 0 0)) :
    Calls Try.prog 44 #[.slice none 0 c, .int .u8 2] w fun e w' => e = .returned (.int .i64 o.lostAt) ∧ ∃ n, w' = w.drewN n := by
  obtain ⟨A', c'', hsv', h1, h2, h3, h4⟩ := h.piece
  injection hsv' with hA _ _
  have h0 := h3 hA.symm
  have := indexByte_any w none 0 c (o.st.take o.data.length) 2 (by rw [h0]; simp) (fun _ => rfl) (fun a ha => by cases ha)
  exact this

theorem OBox.drewN {w : World} {b : Nat} {o : Ob} {dv sv : Value} (h : OBox w b o dv sv) (n : Nat) : OBox (w.drewN n) b o dv sv := ⟨h.blk, h.dat, h.sta, h.dis, h.wf⟩

set_option maxHeartbeats 1000000 in
theorem first_any (w : World) (b : Nat) (o : Ob) (dv sv : Value) (h : OBox w b o dv sv) :
    Calls Try.prog 34 #[.pointer (some ⟨b, 0, none⟩)] w fun e w' => e = .returned (.tuple #[.int .i64 (o.first.1 : Nat), .int .i64 (o.first.2 : Nat)]) ∧ ∃ n, w' = w.drewN n := by
  have hc1 := h.c1
  have hc2 := h.c2
  have hc3 := h.c3
  have hs := h.wf.size
  have hst := h.wf.stl
  have hst2 : o.data.length ≤ o.st.length := by omega
  obtain ⟨A, c, rfl, hcl, hcm⟩ := h.dv_form
  have hroom : o.room - o.sent ≤ 65536 := by unfold Ob.room; omega
  have hroom2 : o.room ≤ 65536 := by unfold Ob.room; omega
  have hsent : o.sent ≤ 65536 := by have := h.wf.sent; omega
  have hlo : -1 ≤ o.lostAt := Lib.indexByte_ge _ _
  by_cases hL : 0 ≤ o.lostAt
  · obtain ⟨i, hi⟩ := Int.eq_ofNat_of_zero_le hL
    have hi2 := (lostAt_lt hi).1
    have hf1 : o.first.1 = i := by unfold Ob.first; rw [if_pos hL, hi]; rfl
    have hf2 : o.first.2 = runAt o.st i o.data.length 2 := by unfold Ob.first; rw [if_pos hL, hi]; rfl
    have hfst : Hid (o.first.1 = i ∧ o.first.2 = runAt o.st i o.data.length 2) := hide ⟨hf1, hf2⟩
    have Hi := hide hi
    clear hf1 hf2 hi
    rcases own_form h.sta with ⟨rfl, h0⟩ | ⟨g, cap, rfl, h3, h4, _, _⟩
    · have h6 : o.st.length = 0 := by rw [h0]; rfl
      omega
    · have h5 : o.data.length ≤ cap := by omega
      clear hst
      go_enter Try.func34, Try.ntmps34
      go_wp2
      go_quiet ((go_at_call 44; exact Calls.quiet_of (lost_call _ b o _ g cap _ (h.drewN _))))
      go_wp2_with fail
      rw [Hi.out]
      refine (run_any _ b i o.data.length 2 o _ _ (h.drewN _) hst2 (by omega)).mono ?_
      rintro e w' ⟨rfl, rfl⟩
      go_wp2
      go_ret2
      exact ⟨by rw [hfst.out.1, hfst.out.2]; rfl, _, rfl⟩
  · have hf1 : o.first.1 = o.sent := by unfold Ob.first; rw [if_neg hL]
    have hf2 : ((o.first.2 : Nat) : Int) = max ((o.room : Int) - o.sent) 0 := by unfold Ob.first; rw [if_neg hL]; show ((o.room - o.sent : Nat) : Int) = _; omega
    have hfst : Hid (o.first.1 = o.sent ∧ ((o.first.2 : Nat) : Int) = max ((o.room : Int) - o.sent) 0) := hide ⟨hf1, hf2⟩
    clear hf1 hf2
    rcases own_form h.sta with ⟨rfl, h0⟩ | ⟨g, cap, rfl, h3, h4, _, _⟩
    · have hsl : o.st.length = 0 := by rw [h0]; rfl
      have hd : o.data.length = 0 := by omega
      clear hst h0
      rw [hd] at hc1
      have Hd := hide hd
      have Hs := hide hsl
      clear hd hsl hst2 hcl
      go_enter Try.func34, Try.ntmps34
      go_wp2
      go_quiet ((go_at_call 44; exact Calls.quiet_of (lost_call_nil _ b o _ _ (h.drewN _))))
      go_wp2_with fail
      go_quiet ((go_at_call 38; exact quiet_add (room_any _ b o _ _ (h.drewN _))))
      go_wp2
      go_ret2
      exact ⟨by rw [hfst.out.1, hfst.out.2]; rfl, _, World.drewN_drewN _ _ _⟩
    · have h5 : o.data.length ≤ cap := by omega
      clear hst
      go_enter Try.func34, Try.ntmps34
      go_wp2
      go_quiet ((go_at_call 44; exact Calls.quiet_of (lost_call _ b o _ g cap _ (h.drewN _))))
      go_wp2_with fail
      go_quiet ((go_at_call 38; exact quiet_add (room_any _ b o _ _ (h.drewN _))))
      go_wp2
      go_ret2
      exact ⟨by rw [hfst.out.1, hfst.out.2]; rfl, _, World.drewN_drewN _ _ _⟩

set_option maxHeartbeats 1000000 in
theorem again_any (w : World) (b : Nat) (o : Ob) (dv sv : Value) (h : OBox w b o dv sv) :
    Calls Try.prog 30 #[.pointer (some ⟨b, 0, none⟩)] w fun e w' => e = .returned (.bool o.again) ∧ ∃ n, w' = w.drewN n := by
  have hc1 := h.c1
  have hc2 := h.c2
  have hc5 := h.c5
  have hs := h.wf.size
  have hst := h.wf.stl
  have hst2 : o.data.length ≤ o.st.length := by omega
  obtain ⟨A, c, rfl, hcl, hcm⟩ := h.dv_form
  have hlo : -1 ≤ o.lostAt := Lib.indexByte_ge _ _
  have HA : Hid (o.again = (!o.reset && decide (0 ≤ o.lostAt))) := hide rfl
  cases hr : o.reset
  · rw [hr] at hc5
    simp only [hr] at HA
    clear hr
    rcases own_form h.sta with ⟨rfl, h0⟩ | ⟨g, cap, rfl, h3, h4, _, _⟩
    · have hsl : o.st.length = 0 := by rw [h0]; rfl
      have hd : o.data.length = 0 := by omega
      clear hst h0
      rw [hd] at hc1
      clear hd hsl hst2 hcl
      go_enter Try.func30, Try.ntmps30
      go_wp2
      go_quiet ((go_at_call 44; exact Calls.quiet_of (lost_call_nil _ b o _ _ (h.drewN _))))
      go_wp2
      go_ret
      exact ⟨by rw [HA.out]; rfl, _, rfl⟩
    · have h5 : o.data.length ≤ cap := by omega
      clear hst
      go_enter Try.func30, Try.ntmps30
      go_wp2
      go_quiet ((go_at_call 44; exact Calls.quiet_of (lost_call _ b o _ g cap _ (h.drewN _))))
      go_wp2
      go_ret
      exact ⟨by rw [HA.out]; rfl, _, rfl⟩
  · rw [hr] at hc5
    simp only [hr] at HA
    clear hr
    go_enter Try.func30, Try.ntmps30
    go_wp2
    go_quiet (fail)
    go_wp2
    go_ret
    exact ⟨by rw [HA.out]; rfl, _, rfl⟩

set_option maxHeartbeats 1000000 in
theorem blocked_any (w : World) (b : Nat) (o : Ob) (dv sv : Value) (h : OBox w b o dv sv) :
    Calls Try.prog 23 #[.pointer (some ⟨b, 0, none⟩)] w fun e w' => e = .returned (.bool o.blocked) ∧ ∃ n, w' = w.drewN n := by
  have hc1 := h.c1
  have hc3 := h.c3
  have hc5 := h.c5
  have hs := h.wf.size
  have hse := h.wf.sent
  obtain ⟨A, c, rfl, hcl, hcm⟩ := h.dv_form
  have hroom : o.room ≤ 65536 := by unfold Ob.room; omega
  have HA : Hid (o.blocked = (!o.reset && (decide (o.sent < o.data.length) && decide (o.room ≤ o.sent)))) := hide rfl
  cases hr : o.reset
  · rw [hr] at hc5
    simp only [hr] at HA
    clear hr
    by_cases h1 : o.sent < o.data.length
    · have hd : decide ((o.sent : Nat) < o.data.length) = true := by simpa using h1
      simp only [hd] at HA
      go_enter Try.func23, Try.ntmps23
      go_wp2
      go_quiet ((go_at_call 38; exact Calls.quiet_of (room_any _ b o _ _ (h.drewN _))))
      go_wp2
      go_ret
      exact ⟨by rw [HA.out]; simp, _, rfl⟩
    · have hd : decide ((o.sent : Nat) < o.data.length) = false := by simpa using h1
      simp only [hd] at HA
      go_enter Try.func23, Try.ntmps23
      go_wp2
      go_quiet (fail)
      go_wp2
      go_ret
      exact ⟨by rw [HA.out]; simp, _, rfl⟩
  · rw [hr] at hc5
    simp only [hr] at HA
    clear hr
    go_enter Try.func23, Try.ntmps23
    go_wp2
    go_quiet (fail)
    go_wp2
    go_ret
    exact ⟨by rw [HA.out]; rfl, _, rfl⟩
end Go.Proofs.Ytnkhdipbljfohaa
