/-
  OutboxReset: the walk: behind a reset nothing goes, and nothing is written.
-/
import Derived.Test.YtnkhdipbljfohaaObActs
namespace Go.Proofs.Ytnkhdipbljfohaa
open Go.RowKit

theorem Ob.play_noreset {o : Ob} {x : PAct} (hr : o.reset = false) (hk : x.kind ≠ 5) : (o.play x).reset = false := by
  unfold Ob.play Ob.write Ob.next Ob.each Ob.raise
  (repeat' split) <;> first | exact hr | (rw [Ob.takeEnd_reset]; exact hr) | (rename_i h; exact absurd h hk) | (exfalso; omega)
theorem Ob.play_reset {o : Ob} (x : PAct) (hr : o.reset = true) : (o.play x).reset = true ∧ (o.play x).sent = o.sent := by
  unfold Ob.play Ob.write Ob.next Ob.each Ob.raise Ob.resetNow
  (repeat' split) <;> first | exact ⟨hr, rfl⟩ | (exfalso; simp_all) | exact ⟨rfl, rfl⟩
theorem Ob.played_reset {o : Ob} (x : PAct) (hr : o.reset = true) : (o.played x).is_ = false ∧ (x.kind = 0 → (o.played x).e = 22) := by
  unfold Ob.played Ob.nextTold Ob.writeErr
  constructor
  · (repeat' split) <;> first | rfl | (exfalso; simp_all)
  · intro hk
    rw [if_pos hk]
    simp [hr]

set_option maxRecDepth 100000 in
set_option maxHeartbeats 4000000 in
theorem walkOutboxReset (limit : Nat) (hl : limit ≤ 18446744073709551615) (a : Option Addr) (len cap : Nat) (l : List PAct) (a' : Option Addr) (len' cap' : Nat) (l' : List PAct) (W : World) (ha : IsActs W a len l) (ha' : IsActs W a' len' l') :
    Calls Try.prog 6 #[.int .u64 limit, .slice a len cap, .slice a' len' cap'] W fun e w' => e = .returned (.bool true) ∧ Below W.heap.size W w' := by
  have hlen := ha.2.1
  have hlen' := ha'.2.1
  go_enter Try.func6, Try.ntmps6
  go_wp2_with fail
  refine (awake_any W).mono ?_
  rintro e w1 ⟨rfl, m1⟩
  go_wp2_with fail
  refine (mine_new w1 limit hl).mono ?_
  rintro e w2 ⟨b, rfl, h⟩
  have g0 := Ob.Good.fresh limit
  go_wp2_with fail
  go_loopw [8] (fun i wr => ∃ (k : Nat) (o : Ob), k ≤ len ∧ i = .int .i64 (k : Int) ∧ Mine w1 wr b o ∧ o.Good ∧ o.reset = false) (fun i _ => len - (intOf i).toNat)
  case atStart => exact ⟨0, _, by omega, rfl, h, g0, rfl⟩
  case round =>
    obtain ⟨k, o, hk, rfl, hm, hg, hrs⟩ := hrel
    clear h g0
    have Hrs := hide hrs
    clear hrs
    by_cases hlt : k < len ∧ k < 60
    · obtain ⟨h1, h2⟩ := hlt
      obtain ⟨b0, off, x, rfl, hx, hok, hlie⟩ := ha.at_ h1
      obtain ⟨hb0, c0, c1, c2, c3, c4, c5⟩ := hlie.mod (m1.trans hm.frame (by simp))
      by_cases hd : 200 < x.data.size
      · have hlg : x.large = true := by simpa [PAct.large] using hd
        have hfr := m1.trans hm.frame (by simp)
        go_wp2_with fail
        refine (large_is _ x true hlg).mono ?_
        rintro e w3 ⟨rfl, m3⟩
        go_wp2_with fail
        go_ret
        exact ⟨rfl, (hfr.trans m3 (by simp)).below (Nat.le_refl _) (by simp)⟩
      have hlg : x.large = false := by simpa [PAct.large] using hd
      have Hd := hide hd
      clear hd
      go_wp2_with fail
      refine (large_is _ x false hlg).mono ?_
      rintro e w3 ⟨rfl, m3⟩
      replace hm := hm.mod m3
      clear c0 c1 c2 c3 c4 c5 hb0 m3 hlg
      obtain ⟨hb0, c0, c1, c2, c3, c4, c5⟩ := hlie.mod (m1.trans hm.frame (by simp))
      by_cases hk5 : x.kind = 5
      · have e1 : (x.kind != 5) = false := by simpa using hk5
        clear hk5
        go_wp2_with fail
        go_roundw
        case rel => exact ⟨k + 1, o, by omega, by go_num, hm, hg, Hrs.out⟩
        case measure => simp [intOf]; omega
      · have e1 : (x.kind != 5) = true := by simpa using hk5
        have Hn := hide (Ob.play_noreset Hrs.out hk5)
        clear hk5
        go_wp2_with fail
        refine (mine_played hm x hok (by have := Hd.out; omega) _ _ rfl rfl).mono ?_
        rintro e w5 ⟨rfl, hm'⟩
        go_wp2_with fail
        go_roundw
        case rel => exact ⟨k + 1, o.play x, by omega, by go_num, hm', hg.play x, Hn.out⟩
        case measure => simp [intOf]; omega
    · obtain ⟨was, hwas⟩ : ∃ v, o.sent = v := ⟨_, rfl⟩
      have Hwas := hide hwas
      clear hwas
      have hend : ¬ (k < len) ∨ (k < len ∧ ¬ (k < 60)) := by omega
      cases hdn : o.done
      · -- not all was acknowledged
        have Hr : Hid (o.resetAt = was ∧ o.resetErr = 0 ∧ o.resetNow = { o with reset := true }) := hide (by
          rw [← Hwas.out]; simp [Ob.resetAt, Ob.resetErr, Ob.resetNow, Hrs.out, hdn])
        have Hdn := hide hdn
        clear hdn
        rcases hend with hend | ⟨hend0, hend⟩
        all_goals
          go_wp2_with fail
          refine (mine_sent hm was Hwas.out).mono ?_
          rintro e w4 ⟨rfl, mm⟩
          replace hm := hm.mod mm
          clear mm
          go_wp2_with fail
          refine (mine_done hm false Hdn.out).mono ?_
          rintro e w5 ⟨rfl, hm2⟩
          clear hm
          go_wp2_with fail
          refine (mine_reset hm2 was 0 _ Hr.out.1 Hr.out.2.1 Hr.out.2.2).mono ?_
          rintro e w6 ⟨rfl, hm⟩
          clear hm2
          have hg2 : ({ o with reset := true } : Ob).Good := ⟨⟨hg.wf.lim, hg.wf.size, hg.wf.stl, hg.wf.sent, hg.wf.low⟩, hg.lim, hg.un⟩
          go_wp2_with fail
          go_loopw [13] (fun i wr => ∃ (k : Nat) (o : Ob), k ≤ len' ∧ i = .int .i64 (k : Int) ∧ Mine w1 wr b o ∧ o.Good ∧ o.reset = true ∧ o.sent = was) (fun i _ => len' - (intOf i).toNat)
          case atStart => exact ⟨0, _, by omega, rfl, hm, hg2, rfl, Hwas.out⟩
          case round =>
            clear hm hg2 hk hg hlt
            try clear hend0
            clear hend
            obtain ⟨k, o, hk, rfl, hm, hg, hrs, hst⟩ := hrel
            have Hst := hide hst
            clear hst
            by_cases hlt : k < len' ∧ k < 60
            · obtain ⟨h1, h2⟩ := hlt
              obtain ⟨b0, off, x, rfl, hx, hok, hlie⟩ := ha'.at_ h1
              obtain ⟨hb0, c0, c1, c2, c3, c4, c5⟩ := hlie.mod (m1.trans hm.frame (by simp))
              by_cases hd : 200 < x.data.size
              · have hlg : x.large = true := by simpa [PAct.large] using hd
                have hfr := m1.trans hm.frame (by simp)
                go_wp2_with fail
                refine (large_is _ x true hlg).mono ?_
                rintro e w3 ⟨rfl, m3⟩
                go_wp2_with fail
                go_ret
                exact ⟨rfl, (hfr.trans m3 (by simp)).below (Nat.le_refl _) (by simp)⟩
              have hlg : x.large = false := by simpa [PAct.large] using hd
              have Hd := hide hd
              clear hd
              obtain ⟨q1, q2⟩ := Ob.play_reset x hrs
              obtain ⟨q3, q4⟩ := Ob.played_reset x hrs
              have hg' := hg.play x
              obtain ⟨p, hp⟩ : ∃ p, o.played x = p := ⟨_, rfl⟩
              obtain ⟨o', ho'⟩ : ∃ o', o.play x = o' := ⟨_, rfl⟩
              rw [hp] at q3 q4
              rw [ho'] at q1 q2 hg'
              have hbl : o'.blocked = false := by simp [Ob.blocked, q1]
              have Hq1 := hide q1
              have Hq2 := hide (q2.trans Hst.out)
              have Hbl := hide hbl
              have Hp := hide hp
              have Ho := hide ho'
              clear q1 q2 hbl hp ho' hrs
              go_wp2_with fail
              refine (large_is _ x false hlg).mono ?_
              rintro e w3 ⟨rfl, m3⟩
              replace hm := hm.mod m3
              clear c0 c1 c2 c3 c4 c5 hb0 m3 hlg
              obtain ⟨hb0, c0, c1, c2, c3, c4, c5⟩ := hlie.mod (m1.trans hm.frame (by simp))
              go_wp2_with fail
              refine (mine_played hm x hok (by have := Hd.out; omega) p o' Hp.out Ho.out).mono ?_
              rintro e w5 ⟨rfl, hm'⟩
              clear hm c0 c1 c2 c3 c4 c5 hb0
              obtain ⟨hb0, c0, c1, c2, c3, c4, c5⟩ := hlie.mod (m1.trans hm'.frame (by simp))
              rw [q3]
              clear q3
              by_cases hk0 : x.kind = 0
              · have e1 : (x.kind == 0) = true := by simpa using hk0
                rw [q4 hk0]
                clear q4 hk0
                go_wp2_with fail
                refine (mine_sent hm' was Hq2.out).mono ?_
                rintro e w7 ⟨rfl, mm⟩
                replace hm' := hm'.mod mm
                clear mm
                go_wp2_with fail
                refine (mine_blocked hm' false Hbl.out).mono ?_
                rintro e w8 ⟨rfl, mm⟩
                replace hm' := hm'.mod mm
                clear mm
                go_wp2_with fail
                go_roundw
                case rel => exact ⟨k + 1, o', by omega, by go_num, hm', hg', Hq1.out, Hq2.out⟩
                case measure => simp [intOf]; omega
              · have e1 : (x.kind == 0) = false := by simpa using hk0
                clear q4 hk0
                go_wp2_with fail
                refine (mine_sent hm' was Hq2.out).mono ?_
                rintro e w7 ⟨rfl, mm⟩
                replace hm' := hm'.mod mm
                clear mm
                go_wp2_with fail
                refine (mine_blocked hm' false Hbl.out).mono ?_
                rintro e w8 ⟨rfl, mm⟩
                replace hm' := hm'.mod mm
                clear mm
                go_wp2_with fail
                go_roundw
                case rel => exact ⟨k + 1, o', by omega, by go_num, hm', hg', Hq1.out, Hq2.out⟩
                case measure => simp [intOf]; omega
            · have hfr := m1.trans hm.frame (by simp)
              have hend : ¬ (k < len') ∨ (k < len' ∧ ¬ (k < 60)) := by omega
              rcases hend with hend | ⟨hend0, hend⟩
              all_goals
                go_wp2_with fail
                go_ret
                exact ⟨rfl, hfr.below (Nat.le_refl _) (by simp)⟩
      · have Hr : Hid (o.resetAt = 0 ∧ o.resetErr = 22 ∧ o.resetNow = o) := hide (by simp [Ob.resetAt, Ob.resetErr, Ob.resetNow, hdn])
        have Hdn := hide hdn
        clear hdn
        rcases hend with hend | ⟨hend0, hend⟩
        all_goals
          go_wp2_with fail
          refine (mine_sent hm was Hwas.out).mono ?_
          rintro e w4 ⟨rfl, mm⟩
          replace hm := hm.mod mm
          clear mm
          go_wp2_with fail
          refine (mine_done hm true Hdn.out).mono ?_
          rintro e w5 ⟨rfl, hm2⟩
          clear hm
          go_wp2_with fail
          refine (mine_reset hm2 0 22 o Hr.out.1 Hr.out.2.1 Hr.out.2.2).mono ?_
          rintro e w6 ⟨rfl, hm⟩
          clear hm2
          go_wp2_with fail
          go_ret
          exact ⟨rfl, (m1.trans hm.frame (by simp)).below (Nat.le_refl _) (by simp)⟩
end Go.Proofs.Ytnkhdipbljfohaa
