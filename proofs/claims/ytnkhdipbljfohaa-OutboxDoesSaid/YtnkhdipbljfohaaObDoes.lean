/-
  OutboxDoes: the walk: the outbox tells what the document's tells, act by act.
-/
import Derived.Test.YtnkhdipbljfohaaRfPair
namespace Go.Proofs.Ytnkhdipbljfohaa
open Go.RowKit

/-- both, and the cells of the document's that the statement itself reads -/
def Both (W : World) (b : Nat) (o : Ob) (r : Nat) (q : Ob) (lim : Nat) (D : ByteArray) (E : Int) (w : World) : Prop :=
  Pair W w b o r q ∧ w.cell? ⟨r, 0, none⟩ = some (.int .u64 (lim : Int)) ∧ w.cell? ⟨r, 1, none⟩ = some (.string D) ∧ w.cell? ⟨r, 3, none⟩ = some (.int .i64 E)

section
variable {W w w' : World} {b r : Nat} {o q : Ob} {lim : Nat} {D : ByteArray} {E : Int}
theorem Pair.both (h : Pair W w b o r q) (h0 : q.limit = lim) (h1 : (⟨q.data.toArray⟩ : ByteArray) = D) (h2 : q.endv = E) : Both W b o r q lim D E w := by
  subst h0 h1 h2
  obtain ⟨H, hr⟩ := h.ref
  exact ⟨h, hr.c0, hr.c1, hr.c3⟩
theorem Pair.good (h : Pair W w b o r q) : q.Good := by
  obtain ⟨H, hr⟩ := h.ref
  exact hr.good
theorem Both.mod (h : Both W b o r q lim D E w) (hm : Mod [] w w') : Both W b o r q lim D E w' := by
  have h' := h.1.mod hm
  obtain ⟨H, hr⟩ := h.1.ref
  obtain ⟨H', hr'⟩ := h'.ref
  obtain ⟨_, k0, k1, k3⟩ := h
  have e0 := hr.c0.symm.trans k0
  have e1 := hr.c1.symm.trans k1
  have e3 := hr.c3.symm.trans k3
  exact ⟨h', hr'.c0.trans e0, hr'.c1.trans e1, hr'.c3.trans e3⟩
theorem Both.drew (h : Both W b o r q lim D E w) : Both W b o r q lim D E w.drew := h.mod (Mod.refl _ _).drew
theorem Both.ask {P : Program} {f : FuncId} {args : Array Value} {v : Ending} (h : Both W b o r q lim D E w)
    (hc : Calls P f args w fun e w' => e = v ∧ Mod [] w w') : Calls P f args w fun e w' => e = v ∧ Both W b o r q lim D E w' :=
  hc.mono fun _ _ ⟨he, hm⟩ => ⟨he, h.mod hm⟩
theorem Both.askR {P : Program} {f : FuncId} {args : Array Value} {v : Ending} (h : Both W b o r q lim D E w)
    (hc : ∀ H, RBox w r q H → Calls P f args w fun e w' => e = v ∧ ∃ n, w' = w.drewN n) : Calls P f args w fun e w' => e = v ∧ Both W b o r q lim D E w' := by
  obtain ⟨H, hr⟩ := h.1.ref
  exact (hc H hr).mono fun _ _ ⟨he, n, hn⟩ => ⟨he, h.mod (by rw [hn]; exact (Mod.refl _ _).drewN n)⟩
theorem both_limit (h : Both W b o r q lim D E w) (v : Nat) (hv : o.limit = v) :
    Calls Try.prog 13 #[.pointer (some ⟨b, 0, none⟩)] w fun e w' => e = .returned (.int .u64 (v : Nat)) ∧ Both W b o r q lim D E w' := h.ask (mine_limit h.1.mine v hv)
theorem both_sent (h : Both W b o r q lim D E w) (v : Nat) (hv : o.sent = v) :
    Calls Try.prog 16 #[.pointer (some ⟨b, 0, none⟩)] w fun e w' => e = .returned (.int .u64 (v : Nat)) ∧ Both W b o r q lim D E w' := h.ask (mine_sent h.1.mine v hv)
theorem both_size (h : Both W b o r q lim D E w) (v : Nat) (hv : o.data.length = v) :
    Calls Try.prog 15 #[.pointer (some ⟨b, 0, none⟩)] w fun e w' => e = .returned (.int .u64 (v : Nat)) ∧ Both W b o r q lim D E w' := h.ask (mine_size h.1.mine v hv)
theorem both_blocked (h : Both W b o r q lim D E w) (v : Bool) (hv : o.blocked = v) :
    Calls Try.prog 23 #[.pointer (some ⟨b, 0, none⟩)] w fun e w' => e = .returned (.bool v) ∧ Both W b o r q lim D E w' := h.ask (mine_blocked h.1.mine v hv)
theorem both_done (h : Both W b o r q lim D E w) (v : Bool) (hv : o.done = v) :
    Calls Try.prog 22 #[.pointer (some ⟨b, 0, none⟩)] w fun e w' => e = .returned (.bool v) ∧ Both W b o r q lim D E w' := h.ask (mine_doneM h.1.mine v hv)
theorem both_ended (h : Both W b o r q lim D E w) (v : Bool) (hv : o.ended = v) :
    Calls Try.prog 14 #[.pointer (some ⟨b, 0, none⟩)] w fun e w' => e = .returned (.bool v) ∧ Both W b o r q lim D E w' := h.ask (mine_ended h.1.mine v hv)
theorem both_again (h : Both W b o r q lim D E w) (v : Bool) (hv : o.again = v) :
    Calls Try.prog 30 #[.pointer (some ⟨b, 0, none⟩)] w fun e w' => e = .returned (.bool v) ∧ Both W b o r q lim D E w' := h.ask (mine_again h.1.mine v hv)
theorem both_rsent (h : Both W b o r q lim D E w) (v : Nat) (hv : q.sent = v) :
    Calls Try.prog 27 #[.pointer (some ⟨r, 0, none⟩)] w fun e w' => e = .returned (.int .i64 (v : Nat)) ∧ Both W b o r q lim D E w' := by
  subst hv; exact h.askR fun H hr => rsent_any w r q H hr
theorem both_rblocked (h : Both W b o r q lim D E w) (v : Bool) (hv : q.blocked = v) :
    Calls Try.prog 28 #[.pointer (some ⟨r, 0, none⟩)] w fun e w' => e = .returned (.bool v) ∧ Both W b o r q lim D E w' := by
  subst hv; exact h.askR fun H hr => rblocked_any w r q H hr
theorem both_rdone (h : Both W b o r q lim D E w) (v : Bool) (hv : q.done = v) :
    Calls Try.prog 29 #[.pointer (some ⟨r, 0, none⟩)] w fun e w' => e = .returned (.bool v) ∧ Both W b o r q lim D E w' := by
  subst hv; exact h.askR fun H hr => rdone_any w r q H hr
theorem both_ragain (h : Both W b o r q lim D E w) (v : Bool) (hv : q.again = v) :
    Calls Try.prog 31 #[.pointer (some ⟨r, 0, none⟩)] w fun e w' => e = .returned (.bool v) ∧ Both W b o r q lim D E w' := by
  subst hv; exact h.askR fun H hr => ragain_any w r q H hr
end

set_option maxRecDepth 100000 in
set_option maxHeartbeats 8000000 in
theorem walkOutboxDoes (limit : Nat) (hl : limit ≤ 18446744073709551615) (a : Option Addr) (len cap : Nat) (l : List PAct) (W : World) (ha : IsActs W a len l) :
    Calls Try.prog 8 #[.int .u64 limit, .slice a len cap] W fun e w' => e = .returned (.bool true) ∧ Below W.heap.size W w' := by
  have hlen := ha.2.1
  go_enter Try.func8, Try.ntmps8
  go_wp2_with fail
  refine (awake_any W).mono ?_
  rintro e w1 ⟨rfl, m1⟩
  go_wp2_with fail
  refine (mine_new w1 limit hl).mono ?_
  rintro e w2 ⟨b, rfl, h⟩
  have g0 := Ob.Good.fresh limit
  go_wp2_with fail
  refine (pair_new h limit hl).mono ?_
  rintro e w3 ⟨r, rfl, hp⟩
  clear h
  go_wp2_with fail
  go_loopw [7] (fun i wr => ∃ (k : Nat) (o : Ob), k ≤ len ∧ i = .int .i64 (k : Int) ∧ Pair w1 wr b o r o ∧ o.Good) (fun i _ => len - (intOf i).toNat)
  case atStart => exact ⟨0, _, by omega, rfl, hp, g0⟩
  case round =>
    obtain ⟨k, o, hk, rfl, hm, hg⟩ := hrel
    clear hp g0
    by_cases hlt : k < len ∧ k < 60
    · obtain ⟨h1, h2⟩ := hlt
      obtain ⟨b0, off, x, rfl, hx, hok, hlie⟩ := ha.at_ h1
      obtain ⟨hb0, c0, c1, c2, c3, c4, c5⟩ := hlie.mod (m1.trans hm.frame (by simp))
      by_cases hd : 200 < x.data.size
      · have hlg : x.large = true := by simpa [PAct.large] using hd
        have hfr := m1.trans hm.frame (by simp)
        go_wp2_with fail
        refine (large_is _ x true hlg).mono ?_
        rintro e w3 ⟨rfl, m3⟩
        go_wp2_with fail
        go_ret
        exact ⟨rfl, (hfr.trans m3 (by simp)).below (Nat.le_refl _) (by simp)⟩
      have hlg : x.large = false := by simpa [PAct.large] using hd
      have Hd := hide hd
      clear hd
      have hg' := hg.play x
      obtain ⟨p, hp⟩ : ∃ p, o.played x = p := ⟨_, rfl⟩
      obtain ⟨o', ho'⟩ : ∃ o', o.play x = o' := ⟨_, rfl⟩
      rw [ho'] at hg'
      have Hp := hide hp
      have Ho := hide ho'
      clear hp ho'
      go_wp2_with fail
      refine (large_is _ x false hlg).mono ?_
      rintro e w3 ⟨rfl, m3⟩
      replace hm := hm.mod m3
      clear c0 c1 c2 c3 c4 c5 hb0 m3 hlg
      obtain ⟨hb0, c0, c1, c2, c3, c4, c5⟩ := hlie.mod (m1.trans hm.frame (by simp))
      go_wp2_with fail
      refine (pair_play hm x hok (by have := Hd.out; omega) p o' Hp.out Ho.out).mono ?_
      rintro e w5 ⟨rfl, hm'⟩
      clear hm c0 c1 c2 c3 c4 c5 hb0
      obtain ⟨hb0, c0, c1, c2, c3, c4, c5⟩ := hlie.mod (m1.trans hm'.frame (by simp))
      go_wp2_with fail
      refine (pair_model hm' x hok (by have := Hd.out; omega) p o' Hp.out Ho.out).mono ?_
      rintro e w6 ⟨rfl, hm2⟩
      clear hm' c0 c1 c2 c3 c4 c5 hb0
      obtain ⟨lim, hlim⟩ : ∃ v, o'.limit = v := ⟨_, rfl⟩
      obtain ⟨sent, hsent⟩ : ∃ v, o'.sent = v := ⟨_, rfl⟩
      obtain ⟨size, hsize⟩ : ∃ v, o'.data.length = v := ⟨_, rfl⟩
      obtain ⟨blk, hblk⟩ : ∃ v, o'.blocked = v := ⟨_, rfl⟩
      obtain ⟨dn, hdn⟩ : ∃ v, o'.done = v := ⟨_, rfl⟩
      obtain ⟨en, hen⟩ : ∃ v, o'.ended = v := ⟨_, rfl⟩
      obtain ⟨ag, hag⟩ : ∃ v, o'.again = v := ⟨_, rfl⟩
      obtain ⟨D, hD⟩ : ∃ v, (⟨o'.data.toArray⟩ : ByteArray) = v := ⟨_, rfl⟩
      obtain ⟨E, hE⟩ : ∃ v, o'.endv = v := ⟨_, rfl⟩
      have hDs : D.size = size := by rw [← hD, ← hsize]; rfl
      have hsz : size ≤ 65536 := by rw [← hsize]; exact hg'.wf.size
      have hse : sent ≤ size := by rw [← hsize, ← hsent]; exact hg'.wf.sent
      have hEn : decide (E < 4) = en := by
        have := hg'.end_low
        rw [hen, hE] at this
        cases en <;> simp at this ⊢ <;> omega
      have hw1 : IntKind.u64.wrap (sent : Int) = sent := IntWalk.u64_in _ (by omega)
      have hw2 : IntKind.u64.wrap (size : Int) = size := IntWalk.u64_in _ (by omega)
      have hS := (hm2.both hlim hD hE).drew
      have Hlim := hide hlim
      have Hsent := hide hsent
      have Hsize := hide hsize
      have Hblk := hide hblk
      have Hdn := hide hdn
      have Hen := hide hen
      have Hag := hide hag
      clear hlim hsent hsize hblk hdn hen hag hD hE hg hm2
      go_wp2_with fail
      go_region_held3 (fun w' => Pair w1 w' b o' r o' ∧ w'.cell? ⟨r, 0, none⟩ = some (.int .u64 (lim : Int)) ∧ w'.cell? ⟨r, 1, none⟩ = some (.string D) ∧ w'.cell? ⟨r, 3, none⟩ = some (.int .i64 E))
        (first | assumption)
        (first
          | (go_at_call 13; refine (both_limit (by assumption) lim Hlim.out).mono ?_; rintro e w' ⟨rfl, hS⟩)
          | (go_at_call 16; refine (both_sent (by assumption) sent Hsent.out).mono ?_; rintro e w' ⟨rfl, hS⟩)
          | (go_at_call 15; refine (both_size (by assumption) size Hsize.out).mono ?_; rintro e w' ⟨rfl, hS⟩)
          | (go_at_call 23; refine (both_blocked (by assumption) blk Hblk.out).mono ?_; rintro e w' ⟨rfl, hS⟩)
          | (go_at_call 22; refine (both_done (by assumption) dn Hdn.out).mono ?_; rintro e w' ⟨rfl, hS⟩)
          | (go_at_call 14; refine (both_ended (by assumption) en Hen.out).mono ?_; rintro e w' ⟨rfl, hS⟩)
          | (go_at_call 30; refine (both_again (by assumption) ag Hag.out).mono ?_; rintro e w' ⟨rfl, hS⟩)
          | (go_at_call 27; refine (both_rsent (by assumption) sent Hsent.out).mono ?_; rintro e w' ⟨rfl, hS⟩)
          | (go_at_call 28; refine (both_rblocked (by assumption) blk Hblk.out).mono ?_; rintro e w' ⟨rfl, hS⟩)
          | (go_at_call 29; refine (both_rdone (by assumption) dn Hdn.out).mono ?_; rintro e w' ⟨rfl, hS⟩)
          | (go_at_call 31; refine (both_ragain (by assumption) ag Hag.out).mono ?_; rintro e w' ⟨rfl, hS⟩))
      have hm3 : Pair w1 _ b o' r o' := hS.1
      go_wp2_with fail
      go_roundw
      case rel => exact ⟨k + 1, o', by omega, by go_num, hm3, hg'⟩
      case measure => simp [intOf]; omega
    ·
      have hend : ¬ (k < len) ∨ (k < len ∧ ¬ (k < 60)) := by omega
      rcases hend with hend | ⟨hend0, hend⟩
      all_goals
        go_wp2_with fail
        go_ret
        exact ⟨ret_bool (by simp), (m1.trans hm.frame (by simp)).below (Nat.le_refl _) (by simp)⟩
end Go.Proofs.Ytnkhdipbljfohaa
