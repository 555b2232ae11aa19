/-
  OutboxGoes: the walk: what goes is what was written, at its place; nothing goes beyond the limit, and the end only behind the last byte.
-/
import Derived.Test.YtnkhdipbljfohaaObActs
namespace Go.Proofs.Ytnkhdipbljfohaa
open Go.RowKit

theorem Ob.play_data {o : Ob} {x : PAct} : (o.play x).data = if x.kind = 0 ∧ (o.played x).e = 0 then o.data ++ x.data.data.toList else o.data := by
  by_cases hk : x.kind = 0
  · have e1 : o.play x = o.write x.data.data.toList x.fin := by simp [Ob.play, hk]
    have e2 : (o.played x).e = o.writeErr x.data.data.toList := by simp [Ob.played, hk]
    rw [e1, e2]
    unfold Ob.write
    by_cases h0 : o.writeErr x.data.data.toList = 0
    · have hc : x.kind = 0 ∧ o.writeErr x.data.data.toList = 0 := ⟨hk, h0⟩
      rw [if_pos h0, if_pos hc]
    · rw [if_neg h0, if_neg (fun h => h0 h.2)]
  · rw [if_neg (fun h => hk h.1)]
    unfold Ob.play Ob.next Ob.each Ob.raise Ob.resetNow
    (repeat' split) <;> first | rfl | (rw [Ob.takeEnd_data]) | (exfalso; omega)

theorem Ob.Good.goesEmpty {o : Ob} (h : o.Good) (hg : o.goes 0 = true) : o.first.1 = o.data.length ∧ o.takeFin o.first.1 0 = true := by
  have hm : o.first.2 = 0 ∧ o.waits = true ∧ o.data.length ≤ o.sent := by
    unfold Ob.goes at hg
    rcases Nat.eq_zero_or_pos o.first.2 with h0 | h0
    · rw [h0] at hg
      simp at hg
      exact ⟨h0, hg.1, by omega⟩
    · have e1 : (o.first.2 == 0) = false := by simpa using (by omega : ¬ o.first.2 = 0)
      rw [e1] at hg
      simp at hg
      omega
  obtain ⟨h1, h2, h3⟩ := hm
  have h4 := h.wf.sent
  have h5 : o.first.1 = o.sent := by
    unfold Ob.first at h1 ⊢
    split
    · rename_i h0
      rw [if_pos h0] at h1
      simp only at h1
      obtain ⟨i, hi⟩ := Int.eq_ofNat_of_zero_le h0
      obtain ⟨h6, h7⟩ := lostAt_lt hi
      rw [hi] at h1
      simp only [Int.toNat_natCast] at h1
      have : 0 + 1 ≤ runAt o.st i o.data.length 2 := runOf_yes (how := 2) (k := 0) (Nat.zero_le _) (by rw [List.getElem?_drop, List.getElem?_take, if_pos (by omega)]; exact h7)
      omega
    · rfl
  have h6 : o.first.1 = o.data.length := by omega
  refine ⟨h6, ?_⟩
  have e : (o.take o.first.1 0).waits = o.waits := by
    unfold Ob.take Ob.waits
    simp only [mapAt_zero]
  unfold Ob.takeFin
  rw [e, h2, h6]
  simp

/-- what a piece that goes is -/
theorem goes_step {o : Ob} (h : o.Good) (x : PAct) (hk : x.kind = 1) (hi : (o.played x).is_ = true) :
    let p := o.played x
    let o' := o.play x
    o'.data = o.data ∧ p.at_ + p.s.length ≤ o.data.length ∧ p.s = (o.data.drop p.at_).take p.s.length ∧ (p.at_ + p.s.length ≤ o'.limit) ∧
      (p.fin = true → p.at_ + p.s.length = o.data.length ∧ o'.ended = true) ∧ ((p.s.length : Int) ≤ max x.num 0) ∧ (p.s = [] → p.fin = true) := by
  simp only
  have e1 : o.play x = o.next x.num := by simp [Ob.play, hk]
  have e2 : o.played x = ⟨(o.nextTold x.num).at_, (o.nextTold x.num).s, (o.nextTold x.num).fin, (o.nextTold x.num).is_, 0⟩ := by simp [Ob.played, hk]
  rw [e2] at hi
  rw [e1, e2]
  simp only at hi ⊢
  have hlim := h.lim
  rcases h.told x.num with ⟨t1, _⟩ | ⟨_, _, t2, t3, t4, t5, t6, t7, t8, t9⟩
  · rw [t1] at hi; cases hi
  · have hfin : ∀ s : Nat, (o.nextTold x.num).s.length = s → o.takeFin (o.nextTold x.num).at_ s = true → (o.nextTold x.num).at_ + s = o.data.length ∧ o.ended = true := by
      intro s _ hf
      unfold Ob.takeFin at hf
      obtain ⟨f1, f2⟩ := Bool.and_eq_true_iff.1 hf
      unfold Ob.waits at f2
      exact ⟨by simpa using f1, (Bool.and_eq_true_iff.1 f2).1⟩
    refine ⟨by rw [t7, Ob.takeEnd_data], t5, t4, ?_, ?_, ?_, ?_⟩
    · rw [t7, Ob.takeEnd_limit]
      rcases t6 with t6 | ⟨_, t6⟩ <;> omega
    · intro hf
      rw [t7, Ob.takeEnd_ended]
      exact hfin _ rfl (by rw [← t8]; exact hf)
    · rw [t3]; unfold Ob.much; omega
    · intro hs
      rw [hs] at t9 t8
      simp only [List.length_nil] at t9 t8
      rw [t8, t2]
      exact (h.goesEmpty t9).2

set_option maxRecDepth 100000 in
set_option maxHeartbeats 4000000 in
theorem walkOutboxGoes (limit : Nat) (hl : limit ≤ 18446744073709551615) (a : Option Addr) (len cap : Nat) (l : List PAct) (W : World) (ha : IsActs W a len l) :
    Calls Try.prog 3 #[.int .u64 limit, .slice a len cap] W fun e w' => e = .returned (.bool true) ∧ Below W.heap.size W w' := by
  have hlen := ha.2.1
  go_enter Try.func3, Try.ntmps3
  go_wp2_with fail
  refine (awake_any W).mono ?_
  rintro e w1 ⟨rfl, m1⟩
  go_wp2_with fail
  refine (mine_new w1 limit hl).mono ?_
  rintro e w2 ⟨b, rfl, h⟩
  have g0 := Ob.Good.fresh limit
  go_wp2_with fail
  go_loopw [6, 7] (fun s i wr => ∃ (k : Nat) (o : Ob) (S : ByteArray), k ≤ len ∧ i = .int .i64 (k : Int) ∧ s = .string S ∧ S.data.toList = o.data ∧ Mine w1 wr b o ∧ o.Good) (fun _ i _ => len - (intOf i).toNat)
  case atStart => exact ⟨0, _, ⟨#[]⟩, by omega, rfl, rfl, rfl, h, g0⟩
  case round =>
    obtain ⟨k, o, S, hk, rfl, rfl, hS, hm, hg⟩ := hrel
    clear h g0
    have hSl : S.size = o.data.length := by rw [← hS, Array.length_toList]; rfl
    have hSz : S.size ≤ 65536 := by rw [hSl]; exact hg.wf.size
    have HS := hide hS
    have HSl := hide hSl
    clear hS hSl
    by_cases hlt : k < len ∧ k < 60
    · obtain ⟨h1, h2⟩ := hlt
      obtain ⟨b0, off, x, rfl, hx, hok, hlie⟩ := ha.at_ h1
      obtain ⟨hb0, c0, c1, c2, c3, c4, c5⟩ := hlie.mod (m1.trans hm.frame (by simp))
      by_cases hd : 200 < x.data.size
      · have hlg : x.large = true := by simpa [PAct.large] using hd
        have hfr := m1.trans hm.frame (by simp)
        go_wp2_with fail
        refine (large_is _ x true hlg).mono ?_
        rintro e w3 ⟨rfl, m3⟩
        go_wp2_with fail
        go_ret
        exact ⟨rfl, (hfr.trans m3 (by simp)).below (Nat.le_refl _) (by simp)⟩
      have hlg : x.large = false := by simpa [PAct.large] using hd
      have Hd := hide hd
      clear hd
      have hdat := Ob.play_data (o := o) (x := x)
      have hst := goes_step hg x
      have hg' := hg.play x
      obtain ⟨p, hp⟩ : ∃ p, o.played x = p := ⟨_, rfl⟩
      obtain ⟨o', ho'⟩ : ∃ o', o.play x = o' := ⟨_, rfl⟩
      rw [hp, ho'] at hdat hst
      rw [ho'] at hg'
      have Hst := hide hst
      have Hdat := hide hdat
      have Hp := hide hp
      have Ho := hide ho'
      clear hdat hst hp ho'
      go_wp2_with fail
      refine (large_is _ x false hlg).mono ?_
      rintro e w3 ⟨rfl, m3⟩
      replace hm := hm.mod m3
      clear c0 c1 c2 c3 c4 c5 hb0 m3 hlg
      obtain ⟨hb0, c0, c1, c2, c3, c4, c5⟩ := hlie.mod (m1.trans hm.frame (by simp))
      go_wp2_with fail
      refine (mine_played hm x hok (by have := Hd.out; omega) p o' Hp.out Ho.out).mono ?_
      rintro e w5 ⟨rfl, hm'⟩
      clear hm c0 c1 c2 c3 c4 c5 hb0
      obtain ⟨hb0, c0, c1, c2, c3, c4, c5⟩ := hlie.mod (m1.trans hm'.frame (by simp))
      have h0dat : x.kind ≠ 0 → o'.data = o.data := fun hk => by rw [Hdat.out, if_neg (fun h => hk h.1)]
      by_cases hk1 : x.kind = 1
      · have e1 : (x.kind != 1) = false := by simpa using hk1
        have e2 : (x.kind == 0) = false := by simpa using (by omega : ¬ x.kind = 0)
        have HS2 : Hid (S.data.toList = o'.data) := hide (by rw [h0dat (by omega)]; exact HS.out)
        have Hk1 := hide hk1
        clear hk1 h0dat
        cases hi : p.is_
        · clear hi
          go_wp2_with fail
          go_roundw
          case rel => exact ⟨k + 1, o', S, by omega, by go_num, rfl, HS2.out, hm', hg'⟩
          case measure => simp [intOf]; omega
        · obtain ⟨r1, r2, r3, r4, r5, r6, r7⟩ := Hst.out Hk1.out hi
          have hE : (S.extract p.at_ (p.at_ + p.s.length)).toList = p.s := by
            rw [Lib.toList_data, Lib.extract_data, HS.out, Nat.add_sub_cancel_left]
            exact r3.symm
          obtain ⟨lim, hlim⟩ : ∃ v, o'.limit = v := ⟨_, rfl⟩
          rw [hlim] at r4
          rw [← HSl.out] at r2 r5
          have Hlim := hide hlim
          clear hi r1 r3 hlim
          have R5 := hide r5
          have R7 := hide r7
          clear r5 r7
          rcases Nat.eq_zero_or_pos p.s.length with hz | hz
          · have hf := R7.out (List.eq_nil_of_length_eq_zero hz)
            obtain ⟨f1, f2⟩ := R5.out hf
            have Hen := hide f2
            have e3 : (((p.at_ : Int) + (p.s.length : Int)) != (S.size : Int)) = false := by simpa using (by omega : (p.at_ : Int) + (p.s.length : Int) = (S.size : Int))
            have hz2 : ¬ 0 < p.s.length := by omega
            rw [hf]
            clear hf f1 f2 hz
            go_wp2_with fail
            refine (mine_ended hm' true Hen.out).mono ?_
            rintro e w8 ⟨rfl, mm⟩
            replace hm' := hm'.mod mm
            clear mm c0 c1 c2 c3 c4 c5 hb0
            obtain ⟨hb0, c0, c1, c2, c3, c4, c5⟩ := hlie.mod (m1.trans hm'.frame (by simp))
            go_wp2_with fail
            go_roundw
            case rel => exact ⟨k + 1, o', S, by omega, by go_num, rfl, HS2.out, hm', hg'⟩
            case measure => simp [intOf]; omega
          · cases hf : p.fin
            · have hne : ¬ p.s = [] := by intro h; rw [h] at hz; simp at hz
              have hne2 : (p.s == []) = false := by simpa using hne
              have hne3 : p.s.isEmpty = false := by simpa using hne
              clear hf
              go_wp2_with fail
              refine (mine_limit hm' lim Hlim.out).mono ?_
              rintro e w7 ⟨rfl, mm⟩
              replace hm' := hm'.mod mm
              clear mm c0 c1 c2 c3 c4 c5 hb0
              obtain ⟨hb0, c0, c1, c2, c3, c4, c5⟩ := hlie.mod (m1.trans hm'.frame (by simp))
              go_wp2_with fail
              go_roundw
              case rel => exact ⟨k + 1, o', S, by omega, by go_num, rfl, HS2.out, hm', hg'⟩
              case measure => simp [intOf]; omega
            · obtain ⟨f1, f2⟩ := R5.out hf
              have Hen := hide f2
              have e3 : (((p.at_ : Int) + (p.s.length : Int)) != (S.size : Int)) = false := by simpa using (by omega : (p.at_ : Int) + (p.s.length : Int) = (S.size : Int))
              clear hf f1 f2
              go_wp2_with fail
              refine (mine_limit hm' lim Hlim.out).mono ?_
              rintro e w7 ⟨rfl, mm⟩
              replace hm' := hm'.mod mm
              clear mm c0 c1 c2 c3 c4 c5 hb0
              obtain ⟨hb0, c0, c1, c2, c3, c4, c5⟩ := hlie.mod (m1.trans hm'.frame (by simp))
              go_wp2_with fail
              refine (mine_ended hm' true Hen.out).mono ?_
              rintro e w8 ⟨rfl, mm⟩
              replace hm' := hm'.mod mm
              clear mm c0 c1 c2 c3 c4 c5 hb0
              obtain ⟨hb0, c0, c1, c2, c3, c4, c5⟩ := hlie.mod (m1.trans hm'.frame (by simp))
              go_wp2_with fail
              go_roundw
              case rel => exact ⟨k + 1, o', S, by omega, by go_num, rfl, HS2.out, hm', hg'⟩
              case measure => simp [intOf]; omega
      · have e1 : (x.kind != 1) = true := by simpa using hk1
        by_cases hk0 : x.kind = 0
        · have e2 : (x.kind == 0) = true := by simpa using hk0
          by_cases he : p.e = 0
          · have e3 : (p.e == 0) = true := by simpa using he
            have hsum : S.size + x.data.size ≤ 9223372036854775807 := by have := Hd.out; omega
            have HS2 : Hid ((S ++ x.data).data.toList = o'.data) := hide (by
              rw [Hdat.out, if_pos ⟨hk0, he⟩, ← HS.out]
              simp)
            clear hk1 hk0 h0dat he
            go_wp2_with fail
            go_roundw
            case rel => exact ⟨k + 1, o', S ++ x.data, by omega, by go_num, rfl, HS2.out, hm', hg'⟩
            case measure => simp [intOf]; omega
          · have e3 : (p.e == 0) = false := by simpa using he
            have HS2 : Hid (S.data.toList = o'.data) := hide (by
              rw [Hdat.out, if_neg (fun h => he h.2)]; exact HS.out)
            clear hk1 hk0 h0dat he
            go_wp2_with fail
            go_roundw
            case rel => exact ⟨k + 1, o', S, by omega, by go_num, rfl, HS2.out, hm', hg'⟩
            case measure => simp [intOf]; omega
        · have e2 : (x.kind == 0) = false := by simpa using hk0
          have HS2 : Hid (S.data.toList = o'.data) := hide (by rw [h0dat hk0]; exact HS.out)
          clear hk1 hk0 h0dat
          go_wp2_with fail
          go_roundw
          case rel => exact ⟨k + 1, o', S, by omega, by go_num, rfl, HS2.out, hm', hg'⟩
          case measure => simp [intOf]; omega
    ·
      obtain ⟨siz, hsiz⟩ : ∃ v, o.data.length = v := ⟨_, rfl⟩
      obtain ⟨was, hwas⟩ : ∃ v, o.sent = v := ⟨_, rfl⟩
      have hws : was ≤ siz := by rw [← hsiz, ← hwas]; exact hg.wf.sent
      have hss : S.size = siz := HSl.out.trans hsiz
      have Hsiz := hide hsiz
      have Hwas := hide hwas
      clear hsiz hwas hg
      have hend : ¬ (k < len) ∨ (k < len ∧ ¬ (k < 60)) := by omega
      rcases hend with hend | ⟨hend0, hend⟩
      all_goals
        go_wp2_with fail
        refine (mine_size hm siz Hsiz.out).mono ?_
        rintro e w4 ⟨rfl, mm⟩
        replace hm := hm.mod mm
        clear mm
        go_wp2_with fail
        refine (mine_sent hm was Hwas.out).mono ?_
        rintro e w5 ⟨rfl, mm⟩
        replace hm := hm.mod mm
        clear mm
        go_wp2_with fail
        refine (mine_size hm siz Hsiz.out).mono ?_
        rintro e w6 ⟨rfl, mm⟩
        replace hm := hm.mod mm
        clear mm
        go_wp2_with fail
        go_ret
        exact ⟨ret_bool (by simp), (m1.trans hm.frame (by simp)).below (Nat.le_refl _) (by simp)⟩
end Go.Proofs.Ytnkhdipbljfohaa
