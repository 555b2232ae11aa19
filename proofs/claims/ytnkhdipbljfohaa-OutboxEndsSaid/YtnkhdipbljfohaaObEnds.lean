/-
  OutboxEnds: the walk: if all that goes again is acknowledged in the end, it is done.
-/
import Derived.Test.YtnkhdipbljfohaaObActs
import Derived.Test.YtnkhdipbljfohaaObClose
namespace Go.Proofs.Ytnkhdipbljfohaa
open Go.RowKit

theorem Ob.play_noreset {o : Ob} {x : PAct} (hr : o.reset = false) (hk : x.kind ≠ 5) : (o.play x).reset = false := by
  unfold Ob.play Ob.write Ob.next Ob.each Ob.raise
  (repeat' split) <;> first | exact hr | (rw [Ob.takeEnd_reset]; exact hr) | (rename_i h; exact absurd h hk) | (exfalso; omega)
theorem Ob.play_grows {o : Ob} {x : PAct} (hd : x.data.size ≤ 200) : (o.play x).data.length ≤ o.data.length + 200 := by
  have hl : x.data.data.toList.length = x.data.size := by rw [Array.length_toList]; rfl
  unfold Ob.play Ob.write Ob.next Ob.each Ob.raise Ob.resetNow
  (repeat' split) <;> first | (simp only [List.length_append, hl]; omega) | (rw [Ob.takeEnd_data]; omega) | omega

set_option maxRecDepth 100000 in
set_option maxHeartbeats 4000000 in
theorem walkOutboxEnds (limit : Nat) (hl : limit ≤ 18446744073709551615) (a : Option Addr) (len cap : Nat) (l : List PAct) (piece : Nat) (hp : piece ≤ 255) (W : World) (ha : IsActs W a len l) :
    Calls Try.prog 4 #[.int .u64 limit, .slice a len cap, .int .u8 piece] W fun e w' => e = .returned (.bool true) ∧ Below W.heap.size W w' := by
  have hlen := ha.2.1
  go_enter Try.func4, Try.ntmps4
  go_wp2_with fail
  refine (awake_any W).mono ?_
  rintro e w1 ⟨rfl, m1⟩
  go_wp2_with fail
  refine (mine_new w1 limit hl).mono ?_
  rintro e w2 ⟨b, rfl, h⟩
  have g0 := Ob.Good.fresh limit
  go_wp2_with fail
  go_loopw [8] (fun i wr => ∃ (k : Nat) (o : Ob), k ≤ len ∧ i = .int .i64 (k : Int) ∧ Mine w1 wr b o ∧ o.Good ∧ o.reset = false ∧ o.data.length ≤ 200 * k ∧ k ≤ 60) (fun i _ => len - (intOf i).toNat)
  case atStart => exact ⟨0, _, by omega, rfl, h, g0, rfl, by simp [Ob.fresh], by omega⟩
  case round =>
    obtain ⟨k, o, hk, rfl, hm, hg, hrs, hsz, hk60⟩ := hrel
    clear h g0
    have Hrs := hide hrs
    have Hsz := hide hsz
    clear hrs hsz
    by_cases hlt : k < len ∧ k < 60
    · obtain ⟨h1, h2⟩ := hlt
      obtain ⟨b0, off, x, rfl, hx, hok, hlie⟩ := ha.at_ h1
      obtain ⟨hb0, c0, c1, c2, c3, c4, c5⟩ := hlie.mod (m1.trans hm.frame (by simp))
      by_cases hd : 200 < x.data.size
      · have hlg : x.large = true := by simpa [PAct.large] using hd
        have hfr := m1.trans hm.frame (by simp)
        go_wp2_with fail
        refine (large_is _ x true hlg).mono ?_
        rintro e w3 ⟨rfl, m3⟩
        go_wp2_with fail
        go_ret
        exact ⟨rfl, (hfr.trans m3 (by simp)).below (Nat.le_refl _) (by simp)⟩
      have hlg : x.large = false := by simpa [PAct.large] using hd
      have Hd := hide hd
      clear hd
      go_wp2_with fail
      refine (large_is _ x false hlg).mono ?_
      rintro e w3 ⟨rfl, m3⟩
      replace hm := hm.mod m3
      clear c0 c1 c2 c3 c4 c5 hb0 m3 hlg
      obtain ⟨hb0, c0, c1, c2, c3, c4, c5⟩ := hlie.mod (m1.trans hm.frame (by simp))
      by_cases hk5 : x.kind = 5
      · have e1 : (x.kind != 5) = false := by simpa using hk5
        clear hk5
        go_wp2_with fail
        go_roundw
        case rel => exact ⟨k + 1, o, by omega, by go_num, hm, hg, Hrs.out, by have := Hsz.out; omega, by omega⟩
        case measure => simp [intOf]; omega
      · have e1 : (x.kind != 5) = true := by simpa using hk5
        have Hn := hide (Ob.play_noreset Hrs.out hk5)
        have Hgr := hide (Ob.play_grows (o := o) (x := x) (by have := Hd.out; omega))
        clear hk5
        go_wp2_with fail
        refine (mine_played hm x hok (by have := Hd.out; omega) _ _ rfl rfl).mono ?_
        rintro e w5 ⟨rfl, hm'⟩
        go_wp2_with fail
        go_roundw
        case rel => exact ⟨k + 1, o.play x, by omega, by go_num, hm', hg.play x, Hn.out, by have := Hsz.out; have := Hgr.out; omega, by omega⟩
        case measure => simp [intOf]; omega
    · have hend : ¬ (k < len) ∨ (k < len ∧ ¬ (k < 60)) := by omega
      have hcl := hg.closing Hrs.out
      simp only at hcl
      have hmost : Hid ((1 : Int) ≤ (piece : Int) + 1) := hide (by omega)
      have hd60 : Hid (o.data.length ≤ 12000) := hide (by have := Hsz.out; omega)
      have Hg := hide hg
      clear hg
      cases hen : o.ended
      · rw [hen] at hcl
        simp only [Bool.false_eq_true, if_false, forall_const] at hcl
        have Hcl := hide hcl
        have Hen := hide hen
        clear hcl hen
        rcases hend with hend | ⟨hend0, hend⟩
        all_goals
          go_wp2_with fail
          refine (mine_ended hm false Hen.out).mono ?_
          rintro e w4 ⟨rfl, mm⟩
          replace hm := hm.mod mm
          clear mm
          go_wp2_with fail
          refine (mine_write hm ⟨#[]⟩ true (by decide) 0 _ Hcl.out.2.2 rfl).mono ?_
          rintro e w5 ⟨rfl, hm2⟩
          clear hm
          go_wp2_with fail
          refine (mine_lost hm2 0 4611686018427387903 true (by omega) (by omega) _ rfl).mono ?_
          rintro e w6 ⟨rfl, hm⟩
          clear hm2
          go_wp2_with fail
          refine (mine_raise hm 4611686018427387903 (by omega) _ rfl).mono ?_
          rintro e w7 ⟨rfl, hm2⟩
          clear hm
          obtain ⟨q, hq⟩ : ∃ q, q = ((o.write [] true).each loseOf 0 4611686018427387903 true).raise 4611686018427387903 := ⟨_, rfl⟩
          have hqc := Hcl.out.1
          have hqd := Hcl.out.2.1
          have hm : Mine w1 w7 b q := by rw [hq]; exact hm2
          rw [← hq] at hqc hqd
          have hqm : q.missing ≤ 12001 := by
            have h1 := hqc.good.wf.stl
            rw [hqc.en, hqd] at h1
            have := hd60.out
            simp only [Bool.toNat_true] at h1
            unfold Ob.missing; omega
          clear hm2 hq hqd Hcl
          go_wp2_with fail
          go_loopw [9] (fun i wr => ∃ (k : Nat) (q : Ob), i = .int .i64 (k : Int) ∧ Mine w1 wr b q ∧ q.Closing ∧ k + q.missing ≤ 12001) (fun i _ => 20000 - (intOf i).toNat)
          case atStart => exact ⟨0, q, rfl, hm, hqc, by omega⟩
          case round =>
            clear hm hqc hqm hend hk hlt hk60
            try clear hend0
            obtain ⟨k, q, rfl, hm, hqc, hqm⟩ := hrel
            have Hqm := hide hqm
            have hk20 : k < 20000 := by omega
            clear hqm
            have hrd := hqc.round ((piece : Int) + 1)
            have hla := hqc.last ((piece : Int) + 1) hmost.out
            simp only at hrd
            have hsm : (q.nextTold ((piece : Int) + 1)).at_ ≤ 65536 ∧ (q.nextTold ((piece : Int) + 1)).s.length ≤ 65536 := by
              have := hqc.good.wf.size
              rcases hqc.good.told ((piece : Int) + 1) with ⟨t1, _⟩ | ⟨_, _, _, _, _, t5, _⟩
              · rw [t1]; simp
              · omega
            obtain ⟨t, ht⟩ : ∃ t, q.nextTold ((piece : Int) + 1) = t := ⟨_, rfl⟩
            obtain ⟨q', hq'⟩ : ∃ q', q.next ((piece : Int) + 1) = q' := ⟨_, rfl⟩
            rw [ht, hq'] at hrd
            rw [ht, hq'] at hla
            rw [ht] at hsm
            obtain ⟨hs1, hs2⟩ := hsm
            have Hrd := hide hrd
            have Hla := hide hla
            have Ht := hide ht
            have Hq' := hide hq'
            clear hrd hla ht hq'
            go_wp2_with fail
            refine (mine_next hm ((piece : Int) + 1) (by omega) (by omega) t q' Ht.out Hq'.out).mono ?_
            rintro e w8 ⟨rfl, hm'⟩
            clear hm
            unfold str
            cases hi : t.is_
            · obtain ⟨r1, r2, r3, r4⟩ := Hla.out hi
              rw [r1] at hm'
              have R2 := hide r2
              have R4 := hide r4
              obtain ⟨siz, hsiz⟩ : ∃ v, q.data.length = v := ⟨_, rfl⟩
              have R3 := hide (r3.trans hsiz)
              have Hsiz := hide hsiz
              clear r1 r2 r3 r4 hsiz hi
              go_wp2_with fail
              refine (mine_done hm' true R2.out).mono ?_
              rintro e w9 ⟨rfl, hm⟩
              clear hm'
              go_wp2_with fail
              refine (mine_sent hm siz R3.out).mono ?_
              rintro e w10 ⟨rfl, mm⟩
              replace hm := hm.mod mm
              clear mm
              go_wp2_with fail
              refine (mine_size hm siz Hsiz.out).mono ?_
              rintro e w11 ⟨rfl, mm⟩
              replace hm := hm.mod mm
              clear mm
              go_wp2_with fail
              refine (mine_blocked hm false R4.out).mono ?_
              rintro e w12 ⟨rfl, mm⟩
              replace hm := hm.mod mm
              clear mm
              go_wp2_with fail
              go_ret
              exact ⟨rfl, (m1.trans hm.frame (by simp)).below (Nat.le_refl _) (by simp)⟩
            · obtain ⟨r1, r2, _⟩ := Hrd.out hi
              have R1 := hide r1
              have R2 := hide r2
              clear r1 r2 hi
              go_wp2_with fail
              refine (mine_acked hm' t.at_ t.s.length t.fin (by omega) (by omega) _ rfl).mono ?_
              rintro e w9 ⟨rfl, hm⟩
              clear hm'
              go_wp2_with fail
              go_roundw
              case rel => exact ⟨k + 1, _, by go_num, hm, R1.out, by have := R2.out; have := Hqm.out; omega⟩
              case measure => simp [intOf]; omega
      · rw [hen] at hcl
        simp only [if_true] at hcl
        have Hcl := hide hcl
        have Hen := hide hen
        clear hcl hen
        rcases hend with hend | ⟨hend0, hend⟩
        all_goals
          go_wp2_with fail
          refine (mine_ended hm true Hen.out).mono ?_
          rintro e w4 ⟨rfl, mm⟩
          replace hm := hm.mod mm
          clear mm
          go_wp2_with fail
          refine (mine_lost hm 0 4611686018427387903 true (by omega) (by omega) _ rfl).mono ?_
          rintro e w6 ⟨rfl, hm3⟩
          clear hm
          go_wp2_with fail
          refine (mine_raise hm3 4611686018427387903 (by omega) _ rfl).mono ?_
          rintro e w7 ⟨rfl, hm2⟩
          clear hm3
          obtain ⟨q, hq⟩ : ∃ q, q = (o.each loseOf 0 4611686018427387903 true).raise 4611686018427387903 := ⟨_, rfl⟩
          have hqc := Hcl.out.1
          have hqd := Hcl.out.2.1
          have hm : Mine w1 w7 b q := by rw [hq]; exact hm2
          rw [← hq] at hqc hqd
          have hqm : q.missing ≤ 12001 := by
            have h1 := hqc.good.wf.stl
            rw [hqc.en, hqd] at h1
            have := hd60.out
            simp only [Bool.toNat_true] at h1
            unfold Ob.missing; omega
          clear hm2 hq hqd Hcl
          go_wp2_with fail
          go_loopw [9] (fun i wr => ∃ (k : Nat) (q : Ob), i = .int .i64 (k : Int) ∧ Mine w1 wr b q ∧ q.Closing ∧ k + q.missing ≤ 12001) (fun i _ => 20000 - (intOf i).toNat)
          case atStart => exact ⟨0, q, rfl, hm, hqc, by omega⟩
          case round =>
            clear hm hqc hqm hend hk hlt hk60
            try clear hend0
            obtain ⟨k, q, rfl, hm, hqc, hqm⟩ := hrel
            have Hqm := hide hqm
            have hk20 : k < 20000 := by omega
            clear hqm
            have hrd := hqc.round ((piece : Int) + 1)
            have hla := hqc.last ((piece : Int) + 1) hmost.out
            simp only at hrd
            have hsm : (q.nextTold ((piece : Int) + 1)).at_ ≤ 65536 ∧ (q.nextTold ((piece : Int) + 1)).s.length ≤ 65536 := by
              have := hqc.good.wf.size
              rcases hqc.good.told ((piece : Int) + 1) with ⟨t1, _⟩ | ⟨_, _, _, _, _, t5, _⟩
              · rw [t1]; simp
              · omega
            obtain ⟨t, ht⟩ : ∃ t, q.nextTold ((piece : Int) + 1) = t := ⟨_, rfl⟩
            obtain ⟨q', hq'⟩ : ∃ q', q.next ((piece : Int) + 1) = q' := ⟨_, rfl⟩
            rw [ht, hq'] at hrd
            rw [ht, hq'] at hla
            rw [ht] at hsm
            obtain ⟨hs1, hs2⟩ := hsm
            have Hrd := hide hrd
            have Hla := hide hla
            have Ht := hide ht
            have Hq' := hide hq'
            clear hrd hla ht hq'
            go_wp2_with fail
            refine (mine_next hm ((piece : Int) + 1) (by omega) (by omega) t q' Ht.out Hq'.out).mono ?_
            rintro e w8 ⟨rfl, hm'⟩
            clear hm
            unfold str
            cases hi : t.is_
            · obtain ⟨r1, r2, r3, r4⟩ := Hla.out hi
              rw [r1] at hm'
              have R2 := hide r2
              have R4 := hide r4
              obtain ⟨siz, hsiz⟩ : ∃ v, q.data.length = v := ⟨_, rfl⟩
              have R3 := hide (r3.trans hsiz)
              have Hsiz := hide hsiz
              clear r1 r2 r3 r4 hsiz hi
              go_wp2_with fail
              refine (mine_done hm' true R2.out).mono ?_
              rintro e w9 ⟨rfl, hm⟩
              clear hm'
              go_wp2_with fail
              refine (mine_sent hm siz R3.out).mono ?_
              rintro e w10 ⟨rfl, mm⟩
              replace hm := hm.mod mm
              clear mm
              go_wp2_with fail
              refine (mine_size hm siz Hsiz.out).mono ?_
              rintro e w11 ⟨rfl, mm⟩
              replace hm := hm.mod mm
              clear mm
              go_wp2_with fail
              refine (mine_blocked hm false R4.out).mono ?_
              rintro e w12 ⟨rfl, mm⟩
              replace hm := hm.mod mm
              clear mm
              go_wp2_with fail
              go_ret
              exact ⟨rfl, (m1.trans hm.frame (by simp)).below (Nat.le_refl _) (by simp)⟩
            · obtain ⟨r1, r2, _⟩ := Hrd.out hi
              have R1 := hide r1
              have R2 := hide r2
              clear r1 r2 hi
              go_wp2_with fail
              refine (mine_acked hm' t.at_ t.s.length t.fin (by omega) (by omega) _ rfl).mono ?_
              rintro e w9 ⟨rfl, hm⟩
              clear hm'
              go_wp2_with fail
              go_roundw
              case rel => exact ⟨k + 1, _, by go_num, hm, R1.out, by have := R2.out; have := Hqm.out; omega⟩
              case measure => simp [intOf]; omega
end Go.Proofs.Ytnkhdipbljfohaa
