/-
  the statements' own helper: awake. And what is the statement's own: an outbox made since a world W.
-/
import Derived.Test.YtnkhdipbljfohaaObPlay
namespace Go.Proofs.Ytnkhdipbljfohaa
open Go.RowKit

/-- An outbox that was made since W; nothing that was in W has turned. -/
def Mine (W w : World) (b : Nat) (o : Ob) : Prop := ∃ dv sv, OBox w b o dv sv ∧ Mod [] W w ∧ ∀ k ∈ ofoot b dv sv, W.heap.size ≤ k

theorem Mine.wf {W w : World} {b : Nat} {o : Ob} (h : Mine W w b o) : o.WF := by
  obtain ⟨dv, sv, h1, _⟩ := h
  exact h1.wf
theorem Mine.frame {W w : World} {b : Nat} {o : Ob} (h : Mine W w b o) : Mod [] W w := by
  obtain ⟨dv, sv, _, h2, _⟩ := h
  exact h2
theorem Mine.mod {W w w' : World} {b : Nat} {o : Ob} (h : Mine W w b o) (hm : Mod [] w w') : Mine W w' b o := by
  obtain ⟨dv, sv, h1, h2, h3⟩ := h
  exact ⟨dv, sv, h1.mod hm (by simp), h2.trans hm (by simp), h3⟩
theorem Mine.drewN {W w : World} {b : Nat} {o : Ob} (h : Mine W w b o) (n : Nat) : Mine W (w.drewN n) b o := h.mod ((Mod.refl _ _).drewN n)
theorem Mine.step {W w w' : World} {b : Nat} {o' : Ob} {dv sv : Value} (hm : Mod [] W w) (hf : ∀ k ∈ ofoot b dv sv, W.heap.size ≤ k) (hs : OStep w b dv sv o' w') : Mine W w' b o' := by
  obtain ⟨dv', sv', h1, h2, h3⟩ := hs
  refine ⟨dv', sv', h1, hm.trans h2 (fun x hx => .inr (hf x hx)), fun k hk => ?_⟩
  rcases h3 k hk with h | h
  · exact hf k h
  · have := hm.size; omega
theorem Mine.lift {P : Program} {f : FuncId} {args : Array Value} {W w : World} {b : Nat} {o o' : Ob} {v : Ending} (h : Mine W w b o)
    (hc : ∀ dv sv, OBox w b o dv sv → Calls P f args w fun e w' => e = v ∧ OStep w b dv sv o' w') : Calls P f args w fun e w' => e = v ∧ Mine W w' b o' := by
  obtain ⟨dv, sv, h1, h2, h3⟩ := h
  exact (hc dv sv h1).mono fun e w' ⟨he, hs⟩ => ⟨he, Mine.step h2 h3 hs⟩
theorem Mine.ask {P : Program} {f : FuncId} {args : Array Value} {W w : World} {b : Nat} {o : Ob} {v : Ending} (h : Mine W w b o)
    (hc : ∀ dv sv, OBox w b o dv sv → Calls P f args w fun e w' => e = v ∧ ∃ n, w' = w.drewN n) : Calls P f args w fun e w' => e = v ∧ Mod [] w w' := by
  obtain ⟨dv, sv, h1, _⟩ := h
  exact (hc dv sv h1).mono fun e w' ⟨he, n, hn⟩ => ⟨he, by rw [hn]; exact (Mod.refl _ _).drewN n⟩
theorem Mine.askM {P : Program} {f : FuncId} {args : Array Value} {W w : World} {b : Nat} {o : Ob} {v : Ending} (h : Mine W w b o)
    (hc : ∀ dv sv, OBox w b o dv sv → Calls P f args w fun e w' => e = v ∧ Mod [] w w') : Calls P f args w fun e w' => e = v ∧ Mine W w' b o := by
  obtain ⟨dv, sv, h1, h2, h3⟩ := h
  exact (hc dv sv h1).mono fun e w' ⟨he, hs⟩ => ⟨he, ⟨dv, sv, h1.mod hs (by simp), h2.trans hs (by simp), h3⟩⟩

section
variable {W w : World} {b : Nat} {o : Ob}
theorem mine_new (W : World) (l : Nat) (hl : l ≤ 18446744073709551615) : Calls Try.prog 10 #[.int .u64 l] W fun e w' => ∃ b, e = .returned (.pointer (some ⟨b, 0, none⟩)) ∧ Mine W w' b (Ob.fresh l) :=
  (new_any W l hl).mono fun e w' ⟨b, h1, h2, h3, h4⟩ => ⟨b, h1, _, _, h2, h3, fun k hk => by simp [ofoot, Value.ownBlock] at hk; omega⟩
theorem mine_write (h : Mine W w b o) (s : ByteArray) (fin : Bool) (hs : s.size ≤ 9223372036854700000) (v : Int) (o' : Ob) (hv : o.writeErr s.data.toList = v) (ho : o.write s.data.toList fin = o') :
    Calls Try.prog 17 #[.pointer (some ⟨b, 0, none⟩), .string s, .bool fin] w fun e w' => e = .returned (.int .i64 v) ∧ Mine W w' b o' := by
  subst hv ho; exact h.lift fun dv sv hb => write_any w b o dv sv hb s fin hs
theorem mine_next (h : Mine W w b o) (most : Int) (hm1 : -9223372036854775808 ≤ most) (hm2 : most ≤ 9223372036854775807) (t : Told) (o' : Ob) (ht : o.nextTold most = t) (ho : o.next most = o') :
    Calls Try.prog 20 #[.pointer (some ⟨b, 0, none⟩), .int .i64 most] w fun e w' => e = .returned (.tuple #[.int .u64 (t.at_ : Nat), str t.s, .bool t.fin, .bool t.is_]) ∧ Mine W w' b o' := by
  subst ht ho; exact h.lift fun dv sv hb => next_any w b o dv sv hb most hm1 hm2
theorem mine_lost (h : Mine W w b o) (a n : Nat) (fin : Bool) (ha : a ≤ 18446744073709551615) (hn : n ≤ 18446744073709551615) (o' : Ob) (ho : o.each loseOf a n fin = o') :
    Calls Try.prog 18 #[.pointer (some ⟨b, 0, none⟩), .int .u64 a, .int .u64 n, .bool fin] w fun e w' => e = .returned (.tuple #[]) ∧ Mine W w' b o' := by
  subst ho; exact h.lift fun dv sv hb => lost_any w b o dv sv hb a n fin ha hn
theorem mine_acked (h : Mine W w b o) (a n : Nat) (fin : Bool) (ha : a ≤ 18446744073709551615) (hn : n ≤ 18446744073709551615) (o' : Ob) (ho : o.each ackOf a n fin = o') :
    Calls Try.prog 21 #[.pointer (some ⟨b, 0, none⟩), .int .u64 a, .int .u64 n, .bool fin] w fun e w' => e = .returned (.tuple #[]) ∧ Mine W w' b o' := by
  subst ho; exact h.lift fun dv sv hb => acked_any w b o dv sv hb a n fin ha hn
theorem mine_raise (h : Mine W w b o) (l : Nat) (hl : l ≤ 18446744073709551615) (o' : Ob) (ho : o.raise l = o') :
    Calls Try.prog 19 #[.pointer (some ⟨b, 0, none⟩), .int .u64 l] w fun e w' => e = .returned (.tuple #[]) ∧ Mine W w' b o' := by
  subst ho; exact h.lift fun dv sv hb => raise_any w b o dv sv hb l hl
theorem mine_reset (h : Mine W w b o) (a : Nat) (v : Int) (o' : Ob) (ha : o.resetAt = a) (hv : o.resetErr = v) (ho : o.resetNow = o') :
    Calls Try.prog 24 #[.pointer (some ⟨b, 0, none⟩)] w fun e w' => e = .returned (.tuple #[.int .u64 (a : Nat), .int .i64 v]) ∧ Mine W w' b o' := by
  subst ha hv ho; exact h.lift fun dv sv hb => reset_any w b o dv sv hb
theorem mine_blocked (h : Mine W w b o) (v : Bool) (hv : o.blocked = v) :
    Calls Try.prog 23 #[.pointer (some ⟨b, 0, none⟩)] w fun e w' => e = .returned (.bool v) ∧ Mod [] w w' := by
  subst hv; exact h.ask fun dv sv hb => blocked_any w b o dv sv hb
theorem mine_sent (h : Mine W w b o) (v : Nat) (hv : o.sent = v) :
    Calls Try.prog 16 #[.pointer (some ⟨b, 0, none⟩)] w fun e w' => e = .returned (.int .u64 (v : Nat)) ∧ Mod [] w w' := by
  subst hv; exact h.ask fun dv sv hb => sent_any w b o dv sv hb
theorem mine_size (h : Mine W w b o) (v : Nat) (hv : o.data.length = v) :
    Calls Try.prog 15 #[.pointer (some ⟨b, 0, none⟩)] w fun e w' => e = .returned (.int .u64 (v : Nat)) ∧ Mod [] w w' := by
  subst hv; exact h.ask fun dv sv hb => size_any w b o dv sv hb
theorem mine_limit (h : Mine W w b o) (v : Nat) (hv : o.limit = v) :
    Calls Try.prog 13 #[.pointer (some ⟨b, 0, none⟩)] w fun e w' => e = .returned (.int .u64 (v : Nat)) ∧ Mod [] w w' := by
  subst hv; exact h.ask fun dv sv hb => limit_any w b o dv sv hb
theorem mine_ended (h : Mine W w b o) (v : Bool) (hv : o.ended = v) :
    Calls Try.prog 14 #[.pointer (some ⟨b, 0, none⟩)] w fun e w' => e = .returned (.bool v) ∧ Mod [] w w' := by
  subst hv; exact h.ask fun dv sv hb => ended_any w b o dv sv hb
theorem mine_again (h : Mine W w b o) (v : Bool) (hv : o.again = v) :
    Calls Try.prog 30 #[.pointer (some ⟨b, 0, none⟩)] w fun e w' => e = .returned (.bool v) ∧ Mod [] w w' := by
  subst hv; exact h.ask fun dv sv hb => again_any w b o dv sv hb
theorem mine_done (h : Mine W w b o) (v : Bool) (hv : o.done = v) :
    Calls Try.prog 22 #[.pointer (some ⟨b, 0, none⟩)] w fun e w' => e = .returned (.bool v) ∧ Mine W w' b o := by
  subst hv; exact h.askM fun dv sv hb => done_any w b o dv sv hb
theorem mine_doneM (h : Mine W w b o) (v : Bool) (hv : o.done = v) :
    Calls Try.prog 22 #[.pointer (some ⟨b, 0, none⟩)] w fun e w' => e = .returned (.bool v) ∧ Mod [] w w' := by
  subst hv
  obtain ⟨dv, sv, h1, _⟩ := h
  exact done_any w b o dv sv h1
theorem mine_play (h : Mine W w b o) (x : PAct) (hx : x.OK) (hd : x.data.size ≤ 200) :
    Calls Try.prog 12 #[.pointer (some ⟨b, 0, none⟩), x.val] w fun e w' => e = .returned (o.played x).val ∧ Mine W w' b (o.play x) :=
  h.lift fun dv sv hb => play_any w b o dv sv hb x hx hd
end

set_option maxRecDepth 100000 in
set_option maxHeartbeats 8000000 in
theorem awake_any (W : World) : Calls Try.prog 9 #[] W fun e w' => e = .returned (.bool true) ∧ Mod [] W w' := by
  go_enter Try.func9, Try.ntmps9
  go_wp2_with fail
  refine (mine_new W 3 (by omega)).mono ?_
  rintro e w' ⟨b, rfl, h⟩
  have h : Mine W w' b ⟨3, [], [], 0, false, false⟩ := h
  go_wp2_with fail
  refine (mine_write h ⟨#[97, 98, 99, 100]⟩ true (by decide) 0 ⟨3, [97, 98, 99, 100], [0, 0, 0, 0, 0], 0, true, false⟩ rfl rfl).mono ?_
  rintro e w' ⟨rfl, h⟩
  go_wp2_with fail
  refine (mine_write h ⟨#[120]⟩ false (by decide) 22 _ rfl rfl).mono ?_
  rintro e w' ⟨rfl, h⟩
  go_wp2_with fail
  refine (mine_next h 2 (by omega) (by omega) ⟨0, [97, 98], false, true⟩ ⟨3, [97, 98, 99, 100], [1, 1, 0, 0, 0], 2, true, false⟩ rfl rfl).mono ?_
  rintro e w' ⟨rfl, h⟩
  unfold str
  go_wp2_with fail
  refine (mine_lost h 0 2 false (by omega) (by omega) ⟨3, [97, 98, 99, 100], [2, 2, 0, 0, 0], 2, true, false⟩ rfl).mono ?_
  rintro e w' ⟨rfl, h⟩
  go_wp2_with fail
  refine (mine_next h 9 (by omega) (by omega) ⟨0, [97, 98], false, true⟩ ⟨3, [97, 98, 99, 100], [1, 1, 0, 0, 0], 2, true, false⟩ rfl rfl).mono ?_
  rintro e w' ⟨rfl, h⟩
  unfold str
  go_wp2_with fail
  refine (mine_next h 9 (by omega) (by omega) ⟨2, [99], false, true⟩ ⟨3, [97, 98, 99, 100], [1, 1, 1, 0, 0], 3, true, false⟩ rfl rfl).mono ?_
  rintro e w' ⟨rfl, h⟩
  unfold str
  go_wp2_with fail
  refine (mine_next h 9 (by omega) (by omega) ⟨0, [], false, false⟩ ⟨3, [97, 98, 99, 100], [1, 1, 1, 0, 0], 3, true, false⟩ rfl rfl).mono ?_
  rintro e w' ⟨rfl, h⟩
  unfold str
  go_wp2_with fail
  refine (mine_blocked h true rfl).mono ?_
  rintro e w' ⟨rfl, hm⟩
  replace h := h.mod hm
  clear hm
  go_wp2_with fail
  refine (mine_raise h 9 (by omega) ⟨9, [97, 98, 99, 100], [1, 1, 1, 0, 0], 3, true, false⟩ rfl).mono ?_
  rintro e w' ⟨rfl, h⟩
  go_wp2_with fail
  refine (mine_next h 9 (by omega) (by omega) ⟨3, [100], true, true⟩ ⟨9, [97, 98, 99, 100], [1, 1, 1, 1, 1], 4, true, false⟩ rfl rfl).mono ?_
  rintro e w' ⟨rfl, h⟩
  unfold str
  go_wp2_with fail
  refine (mine_sent h 4 rfl).mono ?_
  rintro e w' ⟨rfl, hm⟩
  replace h := h.mod hm
  clear hm
  go_wp2_with fail
  refine (mine_acked h 0 9 true (by omega) (by omega) ⟨9, [97, 98, 99, 100], [3, 3, 3, 3, 3], 4, true, false⟩ rfl).mono ?_
  rintro e w' ⟨rfl, h⟩
  go_wp2_with fail
  refine (mine_reset h 0 22 ⟨9, [97, 98, 99, 100], [3, 3, 3, 3, 3], 4, true, false⟩ rfl rfl rfl).mono ?_
  rintro e w' ⟨rfl, h⟩
  go_wp2_with fail
  refine (mine_new _ 9 (by omega)).mono ?_
  rintro e w' ⟨r, rfl, q⟩
  go_wp2_with fail
  refine (mine_write q ⟨#[120, 121]⟩ false (by decide) 0 ⟨9, [120, 121], [0, 0], 0, false, false⟩ rfl rfl).mono ?_
  rintro e w' ⟨rfl, q⟩
  go_wp2_with fail
  refine (mine_next q 1 (by omega) (by omega) ⟨0, [120], false, true⟩ ⟨9, [120, 121], [1, 0], 1, false, false⟩ rfl rfl).mono ?_
  rintro e w' ⟨rfl, q⟩
  go_wp2_with fail
  refine (mine_reset q 1 0 ⟨9, [120, 121], [1, 0], 1, false, true⟩ rfl rfl rfl).mono ?_
  rintro e w' ⟨rfl, q⟩
  replace h := h.mod q.frame
  unfold str
  go_wp2_with fail
  refine (mine_doneM h true rfl).mono ?_
  rintro e w' ⟨rfl, hm⟩
  replace h := h.mod hm
  replace q := q.mod hm
  clear hm
  go_wp2_with fail
  refine (mine_ended h true rfl).mono ?_
  rintro e w' ⟨rfl, hm⟩
  replace h := h.mod hm
  replace q := q.mod hm
  clear hm
  go_wp2_with fail
  refine (mine_size h 4 rfl).mono ?_
  rintro e w' ⟨rfl, hm⟩
  replace h := h.mod hm
  replace q := q.mod hm
  clear hm
  go_wp2_with fail
  refine (mine_limit h 9 rfl).mono ?_
  rintro e w' ⟨rfl, hm⟩
  replace h := h.mod hm
  replace q := q.mod hm
  clear hm
  go_wp2_with fail
  refine (mine_blocked q false rfl).mono ?_
  rintro e w' ⟨rfl, hm⟩
  replace h := h.mod hm
  replace q := q.mod hm
  clear hm
  go_wp2_with fail
  go_ret
  exact ⟨rfl, h.frame⟩
end Go.Proofs.Ytnkhdipbljfohaa
