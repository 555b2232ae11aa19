/-
  an inbox that was made since a world W; the statements' own helper: awake.
-/
import Derived.Test.YtfbcbddfmiiilaaIbPut
namespace Go.Proofs.Ytfbcbddfmiiilaa
open Go.RowKit

def IMine (W w : World) (b : Nat) (o : Ib) : Prop := ∃ m, IBox w b m o ∧ Mod [] W w ∧ W.heap.size ≤ b ∧ W.heap.size ≤ m

section
variable {W w w' : World} {b : Nat} {o : Ib}
theorem IMine.wf (h : IMine W w b o) : o.WF := by
  obtain ⟨m, h1, _⟩ := h
  exact h1.wf
theorem IMine.frame (h : IMine W w b o) : Mod [] W w := by
  obtain ⟨m, _, h2, _⟩ := h
  exact h2
theorem IMine.mod (h : IMine W w b o) (hm : Mod [] w w') : IMine W w' b o := by
  obtain ⟨m, h1, h2, h3, h4⟩ := h
  exact ⟨m, h1.mod hm (by simp) (by simp), h2.trans hm (by simp), h3, h4⟩
theorem IMine.ask {P : Program} {f : FuncId} {args : Array Value} {v : Ending} (h : IMine W w b o)
    (hc : ∀ m, IBox w b m o → Calls P f args w fun e w' => e = v ∧ ∃ n, w' = w.drewN n) : Calls P f args w fun e w' => e = v ∧ Mod [] w w' := by
  obtain ⟨m, h1, _⟩ := h
  exact (hc m h1).mono fun _ _ ⟨he, n, hn⟩ => ⟨he, by rw [hn]; exact (Mod.refl _ _).drewN n⟩
theorem IMine.step {m : Nat} {o' : Ib} (h2 : Mod [] W w) (h3 : W.heap.size ≤ b) (h4 : W.heap.size ≤ m) (hs : IStep w b m o' w') : IMine W w' b o' := by
  obtain ⟨m', k1, k2, k3⟩ := hs
  have := h2.size
  exact ⟨m', k1, h2.trans k2 (fun x hx => by simp at hx; rcases hx with rfl | rfl <;> exact .inr (by assumption)), h3, by rcases k3 with rfl | k3 <;> omega⟩

theorem imine_new (W : World) (l : Nat) (hl : l ≤ 18446744073709551615) : Calls Try.prog 9 #[.int .u64 l] W fun e w' => ∃ b, e = .returned (.pointer (some ⟨b, 0, none⟩)) ∧ IMine W w' b (Ib.fresh l) :=
  (inew_any W l hl).mono fun _ _ ⟨b, m, h1, h2, h3, h4, h5⟩ => ⟨b, h1, m, h2, h3, h4, h5⟩
theorem imine_put (h : IMine W w b o) (a : Nat) (s : ByteArray) (fin : Bool) (ha : a ≤ 18446744073709551615) (hs : s.size ≤ 65536) (hroom : o.supp.length < 65536) (v : Int) (hv : o.putErr a s.size fin = v) :
    Calls Try.prog 10 #[.pointer (some ⟨b, 0, none⟩), .int .u64 a, .string s, .bool fin] w fun e w' => e = .returned (.int .i64 v) ∧ ∃ o', Put o a s.data.toList fin o' ∧ IMine W w' b o' := by
  obtain ⟨m, h1, h2, h3, h4⟩ := h
  have hl : s.data.toList.length = s.size := by simp
  have := iput_any w b m o h1 a s.data.toList fin ha (by omega) hroom
  rw [hl, hv] at this
  exact this.mono fun e w' ⟨he, o', hp, hb, hm⟩ => ⟨he, o', hp, IMine.step h2 h3 h4 ⟨m, hb, hm, .inl rfl⟩⟩
theorem imine_read (h : IMine W w b o) (most : Int) (hs : o.ready - o.taken ≤ 281474976710656) (s : List UInt8) (d : Bool) (v : Int) (o' : Ib) (h1 : o.readS most = s) (h2 : o.readD most = d) (h3 : o.readE = v) (h4 : o.read most = o') :
    Calls Try.prog 11 #[.pointer (some ⟨b, 0, none⟩), .int .i64 most] w fun e w' => e = .returned (.tuple #[.string ⟨s.toArray⟩, .bool d, .int .i64 v]) ∧ IMine W w' b o' := by
  subst h1 h2 h3 h4
  obtain ⟨m, k1, k2, k3, k4⟩ := h
  exact (iread_any w b m o k1 most hs).mono fun e w' ⟨he, hst⟩ => ⟨he, IMine.step k2 k3 k4 hst⟩
theorem imine_reset (h : IMine W w b o) (fin code : Nat) (v : Int) (o' : Ib) (h1 : o.resetErr fin = v) (h2 : o.resetTo fin = o') :
    Calls Try.prog 19 #[.pointer (some ⟨b, 0, none⟩), .int .u64 fin, .int .u64 code] w fun e w' => e = .returned (.int .i64 v) ∧ IMine W w' b o' := by
  subst h1 h2
  obtain ⟨m, k1, k2, k3, k4⟩ := h
  exact (ireset_any w b m o k1 fin code).mono fun e w' ⟨he, hst⟩ => ⟨he, IMine.step k2 k3 k4 hst⟩
theorem imine_raise (h : IMine W w b o) (l : Nat) (hl : l ≤ 18446744073709551615) (o' : Ib) (h1 : o.raise l = o') :
    Calls Try.prog 20 #[.pointer (some ⟨b, 0, none⟩), .int .u64 l] w fun e w' => e = .returned (.tuple #[]) ∧ IMine W w' b o' := by
  subst h1
  obtain ⟨m, k1, k2, k3, k4⟩ := h
  exact (iraise_any w b m o k1 l hl).mono fun e w' ⟨he, hst⟩ => ⟨he, IMine.step k2 k3 k4 hst⟩
theorem imine_limit (h : IMine W w b o) (v : Nat) (hv : o.limit = v) : Calls Try.prog 21 #[.pointer (some ⟨b, 0, none⟩)] w fun e w' => e = .returned (.int .u64 (v : Nat)) ∧ Mod [] w w' := by
  subst hv; exact h.ask fun m hb => ilimit_any w b m o hb
theorem imine_taken (h : IMine W w b o) (v : Nat) (hv : o.taken = v) : Calls Try.prog 13 #[.pointer (some ⟨b, 0, none⟩)] w fun e w' => e = .returned (.int .u64 (v : Nat)) ∧ Mod [] w w' := by
  subst hv; exact h.ask fun m hb => itaken_any w b m o hb
theorem imine_ready (h : IMine W w b o) (v : Nat) (hv : o.ready - o.taken = v) : Calls Try.prog 18 #[.pointer (some ⟨b, 0, none⟩)] w fun e w' => e = .returned (.int .i64 (v : Int)) ∧ Mod [] w w' := by
  subst hv; exact h.ask fun m hb => iready_any w b m o hb
theorem imine_top (h : IMine W w b o) (v : Nat) (hv : o.top = v) : Calls Try.prog 15 #[.pointer (some ⟨b, 0, none⟩)] w fun e w' => e = .returned (.int .u64 (v : Nat)) ∧ Mod [] w w' := by
  subst hv; exact h.ask fun m hb => itop_any w b m o hb
theorem imine_final (h : IMine W w b o) (v : Nat) (k : Bool) (hv : o.final = v) (hk : o.known = k) : Calls Try.prog 17 #[.pointer (some ⟨b, 0, none⟩)] w fun e w' => e = .returned (.tuple #[.int .u64 (v : Nat), .bool k]) ∧ Mod [] w w' := by
  subst hv hk; exact h.ask fun m hb => ifinal_any w b m o hb
theorem imine_over (h : IMine W w b o) (k : Bool) (hk : o.over = k) : Calls Try.prog 12 #[.pointer (some ⟨b, 0, none⟩)] w fun e w' => e = .returned (.bool k) ∧ Mod [] w w' := by
  subst hk; exact h.ask fun m hb => iover_any w b m o hb
end

theorem Ib.WF.ready_eq {o : Ib} (h : o.WF) (r : Nat) (h1 : ∀ n, n < r → (o.B n).isSome = true) (h2 : o.B r = none) : o.ready = r := by
  rcases Nat.lt_trichotomy o.ready r with h3 | h3 | h3
  · have := h1 o.ready h3
    rw [h.gap] at this; cases this
  · exact h3
  · have := h.fill r h3
    rw [h2] at this; cases this
theorem Put.is {o o' : Ib} {a : Nat} {D : List UInt8} {fin : Bool} (h : Put o a D fin o') (h0 : o.putErr a D.length fin = 0) (hr : o.reset = false) (r : Nat) (h1 : ∀ n, n < r → (over o.B a D n).isSome = true) (h2 : over o.B a D r = none) :
    o' = { o.came (a + D.length) fin with ready := r, B := over o.B a D, supp := o.supp ++ List.range' a D.length } := by
  obtain ⟨h3, _⟩ := h.new h0 hr
  have hB : o'.B = over o.B a D := by rw [h3]
  have := h.wf.ready_eq r (by rw [hB]; exact h1) (by rw [hB]; exact h2)
  rw [h3, this]

set_option maxRecDepth 100000 in
set_option maxHeartbeats 8000000 in
theorem iawake_any (W : World) : Calls Try.prog 8 #[] W fun e w' => e = .returned (.bool true) ∧ Mod [] W w' := by
  go_enter Try.func8, Try.ntmps8
  go_wp2_with fail
  refine (imine_new W 10 (by omega)).mono ?_
  rintro e w1 ⟨b, rfl, h⟩
  go_wp2_with fail
  refine (imine_put h 2 ⟨#[99, 100]⟩ true (by omega) (by decide) (by decide) 0 rfl).mono ?_
  rintro e w2 ⟨rfl, o1, hp, h⟩
  obtain rfl := hp.is rfl rfl 0 (fun n hn => by omega) rfl
  clear hp
  go_wp2_with fail
  refine (imine_put h 0 ⟨#[97, 98, 88]⟩ false (by omega) (by decide) (by decide) 0 rfl).mono ?_
  rintro e w3 ⟨rfl, o2, hp, h⟩
  obtain rfl := hp.is rfl rfl 4 (by decide) rfl
  clear hp
  go_wp2_with fail
  refine (imine_put h 9 ⟨#[120, 121]⟩ false (by omega) (by decide) (by decide) 20 rfl).mono ?_
  rintro e w4 ⟨rfl, o3, hp, h⟩
  obtain rfl := hp.bad (by decide)
  clear hp
  go_wp2_with fail
  refine (imine_put h 3 ⟨#[120, 121]⟩ false (by omega) (by decide) (by decide) 23 rfl).mono ?_
  rintro e w5 ⟨rfl, o4, hp, h⟩
  obtain rfl := hp.bad (by decide)
  clear hp
  go_wp2_with fail
  refine (imine_ready h 4 rfl).mono ?_
  rintro e w6 ⟨rfl, mm⟩
  replace h := h.mod mm
  clear mm
  go_wp2_with fail
  refine (imine_read h 3 (by decide) [97, 98, 99] false 0 _ (by decide) rfl rfl rfl).mono ?_
  rintro e w7 ⟨rfl, h⟩
  go_wp2_with fail
  refine (imine_read h 9 (by decide) [100] true 0 _ (by decide) rfl rfl rfl).mono ?_
  rintro e w8 ⟨rfl, h⟩
  go_wp2_with fail
  refine (imine_new w8 5 (by omega)).mono ?_
  rintro e w9 ⟨r, rfl, g⟩
  go_wp2_with fail
  refine (imine_put g 1 ⟨#[98]⟩ false (by omega) (by decide) (by decide) 0 rfl).mono ?_
  rintro e w10 ⟨rfl, o5, hp, g⟩
  obtain rfl := hp.is rfl rfl 0 (fun n hn => by omega) rfl
  clear hp
  go_wp2_with fail
  refine (imine_reset g 1 7 23 _ (by decide) rfl).mono ?_
  rintro e w11 ⟨rfl, g⟩
  go_wp2_with fail
  refine (imine_reset g 4 7 0 _ (by decide) rfl).mono ?_
  rintro e w12 ⟨rfl, g⟩
  go_wp2_with fail
  refine (imine_read g 1 (by decide) [] true 22 _ (by decide) rfl rfl rfl).mono ?_
  rintro e w13 ⟨rfl, g⟩
  go_wp2_with fail
  refine (imine_final g 4 true rfl rfl).mono ?_
  rintro e w14 ⟨rfl, mm⟩
  replace g := g.mod mm
  clear mm
  go_wp2_with fail
  refine (imine_raise g 9 (by omega) _ rfl).mono ?_
  rintro e w15 ⟨rfl, g⟩
  go_wp2_with fail
  refine (imine_raise g 3 (by omega) _ rfl).mono ?_
  rintro e w16 ⟨rfl, g⟩
  replace h := h.mod g.frame
  go_wp2_with fail
  refine (imine_over h true rfl).mono ?_
  rintro e w' ⟨rfl, hm⟩
  replace h := h.mod hm
  replace g := g.mod hm
  clear hm
  go_wp2_with fail
  refine (imine_taken h 4 rfl).mono ?_
  rintro e w' ⟨rfl, hm⟩
  replace h := h.mod hm
  replace g := g.mod hm
  clear hm
  go_wp2_with fail
  refine (imine_top h 4 rfl).mono ?_
  rintro e w' ⟨rfl, hm⟩
  replace h := h.mod hm
  replace g := g.mod hm
  clear hm
  go_wp2_with fail
  refine (imine_over g true rfl).mono ?_
  rintro e w' ⟨rfl, hm⟩
  replace h := h.mod hm
  replace g := g.mod hm
  clear hm
  go_wp2_with fail
  refine (imine_limit g 9 rfl).mono ?_
  rintro e w' ⟨rfl, hm⟩
  replace h := h.mod hm
  replace g := g.mod hm
  clear hm
  go_wp2_with fail
  refine (imine_top g 4 rfl).mono ?_
  rintro e w' ⟨rfl, hm⟩
  replace h := h.mod hm
  replace g := g.mod hm
  clear hm
  go_wp2_with fail
  go_ret
  exact ⟨rfl, h.frame⟩
end Go.Proofs.Ytfbcbddfmiiilaa
