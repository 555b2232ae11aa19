/-
  OutboxSent: the walk.
-/
import Derived.Test.YtnkhdipbljfohaaObActs
namespace Go.Proofs.Ytnkhdipbljfohaa
open Go.RowKit

/-- what a step tells of what was sent -/
theorem sent_step {o : Ob} (h : o.Good) (x : PAct) :
    let p := o.played x
    let o' := o.play x
    o'.sent ≤ o'.limit ∧ o'.sent ≤ o'.data.length ∧ o.sent ≤ o'.sent ∧ (x.kind ≠ 1 → o'.sent = o.sent) ∧ p.s.length ≤ 65536 ∧ p.at_ ≤ 65536 ∧
      (o'.sent = o.sent ∨ (x.kind = 1 ∧ p.is_ = true ∧ p.at_ = o.sent ∧ p.at_ + p.s.length = o'.sent)) := by
  simp only
  have hg := h.play x
  by_cases hk : x.kind = 1
  · have e1 : o.play x = o.next x.num := by simp [Ob.play, hk]
    have e2 : o.played x = ⟨(o.nextTold x.num).at_, (o.nextTold x.num).s, (o.nextTold x.num).fin, (o.nextTold x.num).is_, 0⟩ := by simp [Ob.played, hk]
    rw [e1] at hg ⊢
    rw [e2]
    simp only
    have hs := hg.wf.sent
    have hz := h.wf.size
    rcases h.told x.num with ⟨t1, t2⟩ | ⟨_, t1, t2, _, _, t3, t4, t5, _⟩
    · rw [t1]
      rw [t2] at hg hs ⊢
      exact ⟨hg.lim, hs, Nat.le_refl _, fun _ => rfl, by simp, by simp, .inl rfl⟩
    · have hd : (o.next x.num).sent = max o.sent ((o.nextTold x.num).at_ + (o.nextTold x.num).s.length) := by rw [t5, Ob.takeEnd_sent]
      refine ⟨hg.lim, hs, by omega, fun h => absurd hk h, by omega, by omega, ?_⟩
      rcases t4 with t4 | ⟨t4, _⟩
      · left; omega
      · right
        exact ⟨hk, t1, t4, by omega⟩
  · have hs := Ob.play_sent (o := o) hk
    have hp : (o.played x).s = [] ∧ (o.played x).at_ ≤ 65536 := by
      have h1 := h.wf.sent
      have h2 := h.wf.size
      unfold Ob.played Ob.resetAt
      (repeat' split) <;> first | exact ⟨rfl, by simp only; omega⟩ | (exfalso; omega)
    exact ⟨hg.lim, hg.wf.sent, by omega, fun _ => hs, by rw [hp.1]; simp, hp.2, .inl hs⟩

set_option maxRecDepth 100000 in
set_option maxHeartbeats 4000000 in
theorem walkOutboxSent (limit : Nat) (hl : limit ≤ 18446744073709551615) (a : Option Addr) (len cap : Nat) (l : List PAct) (W : World) (ha : IsActs W a len l) :
    Calls Try.prog 7 #[.int .u64 limit, .slice a len cap] W fun e w' => e = .returned (.bool true) ∧ Below W.heap.size W w' := by
  have hlen := ha.2.1
  go_enter Try.func7, Try.ntmps7
  go_wp2_with fail
  refine (awake_any W).mono ?_
  rintro e w1 ⟨rfl, m1⟩
  go_wp2_with fail
  refine (mine_new w1 limit hl).mono ?_
  rintro e w2 ⟨b, rfl, h⟩
  have m2 : Mod [] W w2 := m1.trans h.frame (by simp)
  have g0 := Ob.Good.fresh limit
  go_wp2_with fail
  go_loopw [6] (fun i wr => ∃ (k : Nat) (o : Ob), k ≤ len ∧ i = .int .i64 (k : Int) ∧ Mine w1 wr b o ∧ o.Good) (fun i _ => len - (intOf i).toNat)
  case atStart => exact ⟨0, _, by omega, rfl, h, g0⟩
  case round =>
    obtain ⟨k, o, hk, rfl, hm, hg⟩ := hrel
    clear h g0 m2
    by_cases hlt : k < len ∧ k < 60
    · obtain ⟨h1, h2⟩ := hlt
      obtain ⟨b0, off, x, rfl, hx, hok, hlie⟩ := ha.at_ h1
      have hlw := hlie.mod (m1.trans hm.frame (by simp))
      obtain ⟨hb0, c0, c1, c2, c3, c4, c5⟩ := hlw
      by_cases hd : 200 < x.data.size
      · have hlg : x.large = true := by simpa [PAct.large] using hd
        have hfr := m1.trans hm.frame (by simp)
        go_wp2_with fail
        refine (large_is _ x true hlg).mono ?_
        rintro e w3 ⟨rfl, m3⟩
        go_wp2_with fail
        go_ret
        exact ⟨rfl, (hfr.trans m3 (by simp)).below (Nat.le_refl _) (by simp)⟩
      · have hlg : x.large = false := by simpa [PAct.large] using hd
        obtain ⟨q1, q2, q3, q4, q5, q6, q7⟩ := sent_step hg x
        have hg' := hg.play x
        obtain ⟨p, hp⟩ : ∃ p, o.played x = p := ⟨_, rfl⟩
        obtain ⟨o', ho'⟩ : ∃ o', o.play x = o' := ⟨_, rfl⟩
        obtain ⟨was, hwas⟩ : ∃ v, o.sent = v := ⟨_, rfl⟩
        obtain ⟨now, hnow⟩ : ∃ v, o'.sent = v := ⟨_, rfl⟩
        rw [hp, ho', hwas, hnow] at q7
        rw [ho', hwas, hnow] at q3 q4
        obtain ⟨lim, hlim⟩ : ∃ v, o'.limit = v := ⟨_, rfl⟩
        obtain ⟨siz, hsiz⟩ : ∃ v, o'.data.length = v := ⟨_, rfl⟩
        rw [ho', hnow, hlim] at q1
        rw [ho', hnow, hsiz] at q2
        have Hlim := hide hlim
        have Hsiz := hide hsiz
        clear hlim hsiz
        rw [hp] at q5 q6
        rw [ho'] at hg'
        have Hwas := hide hwas
        have Hnow := hide hnow
        have Hp := hide hp
        have Ho := hide ho'
        have Hd := hide hd
        clear hwas hnow hp ho' hd
        go_wp2_with fail
        refine (large_is _ x false hlg).mono ?_
        rintro e w3 ⟨rfl, m3⟩
        replace hm := hm.mod m3
        clear c0 c1 c2 c3 c4 c5 hb0 m3 hlg
        obtain ⟨hb0, c0, c1, c2, c3, c4, c5⟩ := hlie.mod (m1.trans hm.frame (by simp))
        go_wp2_with fail
        refine (mine_sent hm was Hwas.out).mono ?_
        rintro e w4 ⟨rfl, m4⟩
        replace hm := hm.mod m4
        clear c0 c1 c2 c3 c4 c5 hb0 m4
        obtain ⟨hb0, c0, c1, c2, c3, c4, c5⟩ := hlie.mod (m1.trans hm.frame (by simp))
        go_wp2_with fail
        refine (mine_played hm x hok (by have := Hd.out; omega) p o' Hp.out Ho.out).mono ?_
        rintro e w5 ⟨rfl, hm'⟩
        clear hm c0 c1 c2 c3 c4 c5 hb0
        go_wp2_with fail
        refine (mine_sent hm' now Hnow.out).mono ?_
        rintro e w6 ⟨rfl, m6⟩
        replace hm' := hm'.mod m6
        clear m6
        obtain ⟨hb0, c0, c1, c2, c3, c4, c5⟩ := hlie.mod (m1.trans hm'.frame (by simp))
        by_cases hk1 : x.kind = 1
        · have e1 : (x.kind != 1) = false := by simpa using hk1
          have e2 : (x.kind == 1) = true := by simpa using hk1
          clear q4
          by_cases hnw : now = was
          · subst hnw
            clear q7 hk1
            cases hi : p.is_
            ·
              go_wp2_with fail
              refine (mine_limit hm' lim Hlim.out).mono ?_
              rintro e w7 ⟨rfl, m7⟩
              replace hm' := hm'.mod m7
              clear m7
              go_wp2_with fail
              refine (mine_size hm' siz Hsiz.out).mono ?_
              rintro e w8 ⟨rfl, m8⟩
              replace hm' := hm'.mod m8
              clear m8 c0 c1 c2 c3 c4 c5 hb0
              obtain ⟨hb0, c0, c1, c2, c3, c4, c5⟩ := hlie.mod (m1.trans hm'.frame (by simp))
              go_wp2_with fail
              go_roundw
              case rel => exact ⟨k + 1, o', by omega, by go_num, hm', hg'⟩
              case measure => simp [intOf]; omega
            · by_cases hat : p.at_ + p.s.length = now
              · have e3 : (((p.at_ : Int) + (p.s.length : Int)) != (now : Int)) = false := by simpa using (by omega : (p.at_ : Int) + (p.s.length : Int) = (now : Int))
                go_wp2_with fail
                refine (mine_limit hm' lim Hlim.out).mono ?_
                rintro e w7 ⟨rfl, m7⟩
                replace hm' := hm'.mod m7
                clear m7
                go_wp2_with fail
                refine (mine_size hm' siz Hsiz.out).mono ?_
                rintro e w8 ⟨rfl, m8⟩
                replace hm' := hm'.mod m8
                clear m8 c0 c1 c2 c3 c4 c5 hb0
                obtain ⟨hb0, c0, c1, c2, c3, c4, c5⟩ := hlie.mod (m1.trans hm'.frame (by simp))
                go_wp2_with fail
                go_roundw
                case rel => exact ⟨k + 1, o', by omega, by go_num, hm', hg'⟩
                case measure => simp [intOf]; omega
              · have e3 : (((p.at_ : Int) + (p.s.length : Int)) != (now : Int)) = true := by simpa using (by omega : ¬ (p.at_ : Int) + (p.s.length : Int) = (now : Int))
                go_wp2_with fail
                refine (mine_limit hm' lim Hlim.out).mono ?_
                rintro e w7 ⟨rfl, m7⟩
                replace hm' := hm'.mod m7
                clear m7
                go_wp2_with fail
                refine (mine_size hm' siz Hsiz.out).mono ?_
                rintro e w8 ⟨rfl, m8⟩
                replace hm' := hm'.mod m8
                clear m8 c0 c1 c2 c3 c4 c5 hb0
                obtain ⟨hb0, c0, c1, c2, c3, c4, c5⟩ := hlie.mod (m1.trans hm'.frame (by simp))
                go_wp2_with fail
                go_roundw
                case rel => exact ⟨k + 1, o', by omega, by go_num, hm', hg'⟩
                case measure => simp [intOf]; omega
          · obtain ⟨_, hi, hat, hend⟩ := q7.resolve_left hnw
            have e3 : (((p.at_ : Int) + (p.s.length : Int)) != (now : Int)) = false := by simpa using (by omega : (p.at_ : Int) + (p.s.length : Int) = (now : Int))
            have e4 : ((now : Int) != (was : Int)) = true := by simpa using (by omega : ¬ (now : Int) = (was : Int))
            have q8 : p.at_ ≤ was := by omega
            rw [hi]
            clear q7 hk1 hat hend hi
            go_wp2_with fail
            refine (mine_limit hm' lim Hlim.out).mono ?_
            rintro e w7 ⟨rfl, m7⟩
            replace hm' := hm'.mod m7
            clear m7
            go_wp2_with fail
            refine (mine_size hm' siz Hsiz.out).mono ?_
            rintro e w8 ⟨rfl, m8⟩
            replace hm' := hm'.mod m8
            clear m8 c0 c1 c2 c3 c4 c5 hb0
            obtain ⟨hb0, c0, c1, c2, c3, c4, c5⟩ := hlie.mod (m1.trans hm'.frame (by simp))
            go_wp2_with fail
            go_roundw
            case rel => exact ⟨k + 1, o', by omega, by go_num, hm', hg'⟩
            case measure => simp [intOf]; omega
        · have e1 : (x.kind != 1) = true := by simpa using hk1
          have e2 : (x.kind == 1) = false := by simpa using hk1
          obtain rfl := q4 hk1
          clear q4 q7 hk1
          go_wp2_with fail
          refine (mine_limit hm' lim Hlim.out).mono ?_
          rintro e w7 ⟨rfl, m7⟩
          replace hm' := hm'.mod m7
          clear m7
          go_wp2_with fail
          refine (mine_size hm' siz Hsiz.out).mono ?_
          rintro e w8 ⟨rfl, m8⟩
          replace hm' := hm'.mod m8
          clear m8 c0 c1 c2 c3 c4 c5 hb0
          obtain ⟨hb0, c0, c1, c2, c3, c4, c5⟩ := hlie.mod (m1.trans hm'.frame (by simp))
          go_wp2_with fail
          go_roundw
          case rel => exact ⟨k + 1, o', by omega, by go_num, hm', hg'⟩
          case measure => simp [intOf]; omega
    · have hfr := m1.trans hm.frame (by simp)
      go_wp2_with fail
      all_goals
        go_ret
        exact ⟨rfl, hfr.below (Nat.le_refl _) (by simp)⟩
end Go.Proofs.Ytnkhdipbljfohaa
