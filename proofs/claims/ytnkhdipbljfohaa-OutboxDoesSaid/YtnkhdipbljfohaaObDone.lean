/-
  outbox: Done, Reset, Raise, New.
-/
import Derived.Test.YtnkhdipbljfohaaObRead
namespace Go.Proofs.Ytnkhdipbljfohaa
open Go.RowKit

set_option maxHeartbeats 1000000 in
/-- bytes.Count at a separator of one byte. -/
theorem count_any (w : World) (g cap d g2 : Nat) (xs : List UInt8) (how : UInt8) (n : Nat) (hn : xs.length = n)
    (hc : ∀ j x, xs[j]? = some x → w.cell? ⟨g, j, none⟩ = some (cv x)) (hc2 : w.cell? ⟨g2, 0, none⟩ = some (.int .u8 how.toNat)) :
    Calls Try.prog 37 #[.slice (some ⟨g, 0, none⟩) n cap, .slice (some ⟨g2, 0, none⟩) 1 d] w fun e w' => e = .returned (.int .i64 (Lib.countByte xs how : Nat)) ∧ w' = w := by
  have key : (Extern.BytealgCount.count #[.slice (some ⟨g, 0, none⟩) n cap, .int .u8 how.toNat]).run Try.prog w = .ok (.int .i64 (Lib.countByte xs how : Nat)) w := by
    have := Lib.run_countSlice (P := Try.prog) w g 0 n cap (xs.map fun x => (x.toNat : Int)) (by simpa using hn) (fun i hi => by
      obtain ⟨x, hx⟩ : ∃ x, xs[i]? = some x := ⟨_, List.getElem?_eq_getElem (by omega)⟩
      rw [Nat.zero_add, hc i x hx]
      simp [cv, List.getD_eq_getElem?_getD, hx]) how.toNat
    rw [this]
    congr 2
    have e1 : Lib.bytesOf (xs.map fun x => (x.toNat : Int)) = xs := by
      simp [Lib.bytesOf, Function.comp_def]
    rw [e1]
    simp
  clear hc
  go_enter Try.func37, Try.ntmps37
  go_wp2
  rw [run_callFunc_extern Try.func47 (by kernel_rfl) (by kernel_rfl) (by kernel_rfl) (e := Extern.BytealgCount.count) (by kernel_rfl), key]
  simp only [Result.andThen]
  rw [Oper.upon_value]
  go_wp2
  go_ret
  exact ⟨rfl, rfl⟩

set_option maxHeartbeats 1000000 in
theorem done_any (w : World) (b : Nat) (o : Ob) (dv sv : Value) (h : OBox w b o dv sv) :
    Calls Try.prog 22 #[.pointer (some ⟨b, 0, none⟩)] w fun e w' => e = .returned (.bool o.done) ∧ Mod [] w w' := by
  have hc2 := h.c2
  have hc4 := h.c4
  have hs := h.wf.size
  have hst := h.wf.stl
  have HD : Hid (o.done = (o.ended && (Lib.countByte o.st 3 == o.st.length))) := hide rfl
  cases he : o.ended
  · rw [he] at hc4
    simp only [he] at HD
    clear he hst
    go_enter Try.func22, Try.ntmps22
    go_wp2
    go_quiet (fail)
    go_wp2
    go_ret
    exact ⟨by rw [HD.out]; rfl, (Mod.refl _ _).drewN _⟩
  · rw [he] at hc4 hst
    simp only [he, Bool.true_and] at HD
    simp at hst
    obtain ⟨g, cap, rfl, h1, h2, h3, hcell⟩ := own_at h.sta (by omega)
    have hb : b < w.heap.size := h.blk.lt
    have hcell' : ∀ j x, o.st[j]? = some x → w.cell? ⟨g, j, none⟩ = some (cv x) := fun j x hx => (hcell j x hx).1
    have hle : Lib.countByte o.st 3 ≤ o.st.length := List.count_le_length
    obtain ⟨L, hL⟩ : ∃ L, L = o.st.length := ⟨_, rfl⟩
    obtain ⟨C, hC⟩ : ∃ C, C = Lib.countByte o.st 3 := ⟨_, rfl⟩
    rw [← hL, ← hC] at hle
    rw [← hC, ← hL] at HD
    rw [← hL] at hc2
    have HC := hide hC
    have HL := hide hL
    have Hcell := hide hcell'
    clear he hcell hcell' hst h hC h1 hL
    go_enter Try.func22, Try.ntmps22
    go_wp2
    go_region_held3 (fun w' => w'.cell? ⟨b, 4, none⟩ = some (.bool true) ∧ w'.cell? ⟨b, 2, none⟩ = some (.slice (some ⟨g, 0, none⟩) L cap))
      (first | exact ⟨hc4, hc2⟩ | exact ⟨(World.cell?_alloc_lt _ _ ⟨b, 4, none⟩ hb).trans hc4, (World.cell?_alloc_lt _ _ ⟨b, 2, none⟩ hb).trans hc2⟩)
      (first | (go_at_call 37; refine (count_any _ g cap 1 w.heap.size o.st 3 L HL.out.symm ?_ ?_).mono ?_; exact (fun j x hx => (World.cell?_alloc_lt _ _ ⟨g, j, none⟩ h3).trans (Hcell.out j x hx)); exact (World.cell?_alloc_new _ _ _ _); rintro e w' ⟨rfl, rfl⟩; rw [← HC.out]))
    go_wp2
    go_ret
    refine ⟨by rw [HD.out]; exact ret_bool (beq_nat _ _), ?_⟩
    exact (((Mod.refl _ _).drew).alloc _)

/-- What an outbox's function does to memory: it is o' then; only its own blocks, and new ones. -/
def OStep (w : World) (b : Nat) (dv sv : Value) (o' : Ob) (w' : World) : Prop :=
  ∃ dv' sv', OBox w' b o' dv' sv' ∧ Mod (ofoot b dv sv) w w' ∧ ∀ k ∈ ofoot b dv' sv', k ∈ ofoot b dv sv ∨ w.heap.size ≤ k

theorem OStep.of_mod {w w' : World} {b : Nat} {o : Ob} {dv sv : Value} (h : OBox w b o dv sv) (hm : Mod [] w w') : OStep w b dv sv o w' :=
  ⟨dv, sv, h.mod hm (by simp), hm.mono (by simp), fun _ hk => .inl hk⟩

/-- A cell of the struct is written. -/
theorem OBox.set {w : World} {b : Nat} {o o' : Ob} {dv sv : Value} (h : OBox w b o dv sv) (i : Nat) (u : Value)
    (hc : (#[.int .u64 (o.limit : Int), dv, sv, .int .i64 (o.sent : Int), .bool o.ended, .bool o.reset] : Array Value).setIfInBounds i u = #[.int .u64 (o'.limit : Int), dv, sv, .int .i64 (o'.sent : Int), .bool o'.ended, .bool o'.reset])
    (hd : o'.data = o.data) (hst : o'.st = o.st) (hwf : o'.WF) : OBox (w.setCell ⟨b, i, none⟩ u) b o' dv sv := by
  have h1 := own_blk_ne h.dat h.blk (by decide)
  have h2 := own_blk_ne h.sta h.blk (by decide)
  exact ⟨hc ▸ h.blk.set_ i u, by rw [hd]; exact own_far h.dat h1 u, by rw [hst]; exact own_far h.sta h2 u, h.dis, hwf⟩

set_option maxHeartbeats 1000000 in
theorem raise_any (w : World) (b : Nat) (o : Ob) (dv sv : Value) (h : OBox w b o dv sv) (l : Nat) (hl : l ≤ 18446744073709551615) :
    Calls Try.prog 19 #[.pointer (some ⟨b, 0, none⟩), .int .u64 l] w fun e w' => e = .returned (.tuple #[]) ∧ OStep w b dv sv (o.raise l) w' := by
  have hc0 := h.c0
  have hf0 := h.blk.frozen 0
  have hlim := h.wf.lim
  have H : Hid (OBox (w.setCell ⟨b, 0, none⟩ (.int .u64 (max (o.limit : Int) (min (l : Int) 4611686018427387903)))) b (o.raise l) dv sv) :=
    hide (h.set 0 _ (by
      have : ((max o.limit (min l 4611686018427387903) : Nat) : Int) = max (o.limit : Int) (min (l : Int) 4611686018427387903) := by omega
      simp only [Ob.raise, this]; rfl) rfl rfl (h.wf.raise l))
  clear h
  go_enter Try.func19, Try.ntmps19
  go_wp2
  go_end0
  exact ⟨rfl, dv, sv, H.out, (Mod.refl _ _).setCell (.inl (by simp [ofoot])) _, fun _ hk => .inl hk⟩

set_option maxHeartbeats 1000000 in
theorem reset_any (w : World) (b : Nat) (o : Ob) (dv sv : Value) (h : OBox w b o dv sv) :
    Calls Try.prog 24 #[.pointer (some ⟨b, 0, none⟩)] w fun e w' =>
      e = .returned (.tuple #[.int .u64 (o.resetAt : Nat), .int .i64 o.resetErr]) ∧ OStep w b dv sv o.resetNow w' := by
  have hc5 := h.c5
  have hsz := h.wf.size
  have hse := h.wf.sent
  cases hr : o.reset
  · rw [hr] at hc5
    cases hd : o.done
    · have H1 : Hid (o.resetAt = o.sent ∧ o.resetErr = 0 ∧ o.resetNow = { o with reset := true }) := hide (by simp [Ob.resetAt, Ob.resetErr, Ob.resetNow, hr, hd])
      have hcall := done_any w b o dv sv h
      rw [hd] at hcall
      have Hcall := hide hcall
      clear hcall hr hd
      go_enter Try.func24, Try.ntmps24
      go_wp2_with fail
      refine Hcall.out.mono ?_
      rintro e w1 ⟨rfl, hm⟩
      have h1 := h.mod hm (by simp)
      have hc3 := h1.c3
      have hc5' := h1.c5
      have hf5 := h1.blk.frozen 5
      have Hm := hide hm
      have H2 := hide (h1.set (o' := { o with reset := true }) 5 (.bool true) rfl rfl rfl ⟨h.wf.lim, h.wf.size, h.wf.stl, h.wf.sent, h.wf.low⟩)
      clear hm h1 h hc5
      go_wp2
      go_ret2
      refine ⟨by rw [H1.out.1, H1.out.2.1]; rfl, dv, sv, by rw [H1.out.2.2]; exact H2.out, ?_, fun _ hk => .inl hk⟩
      exact (Hm.out.mono (by simp)).setCell (.inl (by simp [ofoot])) _
    · have H1 : Hid (o.resetAt = 0 ∧ o.resetErr = 22 ∧ o.resetNow = o) := hide (by simp [Ob.resetAt, Ob.resetErr, Ob.resetNow, hd])
      have hcall := done_any w b o dv sv h
      rw [hd] at hcall
      have Hcall := hide hcall
      clear hcall hr hd
      go_enter Try.func24, Try.ntmps24
      go_wp2_with fail
      refine Hcall.out.mono ?_
      rintro e w1 ⟨rfl, hm⟩
      have H2 := hide (OStep.of_mod h hm)
      clear hm h hc5
      go_wp2
      go_ret2
      exact ⟨by rw [H1.out.1, H1.out.2.1]; rfl, by rw [H1.out.2.2]; exact H2.out⟩
  · rw [hr] at hc5
    have H1 : Hid (o.resetAt = 0 ∧ o.resetErr = 22 ∧ o.resetNow = o) := hide (by simp [Ob.resetAt, Ob.resetErr, Ob.resetNow, hr])
    have H2 := hide (OStep.of_mod h (Mod.refl [] w))
    clear hr h
    go_enter Try.func24, Try.ntmps24
    go_wp2
    go_ret2
    exact ⟨by rw [H1.out.1, H1.out.2.1]; rfl, by rw [H1.out.2.2]; exact H2.out⟩

set_option maxHeartbeats 1000000 in
theorem new_any (w : World) (l : Nat) (hl : l ≤ 18446744073709551615) :
    Calls Try.prog 10 #[.int .u64 l] w fun e w' =>
      ∃ b, e = .returned (.pointer (some ⟨b, 0, none⟩)) ∧ OBox w' b (Ob.fresh l) (.slice none 0 0) (.slice none 0 0) ∧ Mod [] w w' ∧ w.heap.size ≤ b := by
  go_enter Try.func10, Try.ntmps10
  go_wp2
  go_ret
  refine ⟨w.heap.size, rfl, ⟨?_, World.ownsRow_nil _ _ _ _, World.ownsRow_nil _ _ _ _, by simp [Value.ownBlock], Ob.WF.fresh l⟩, (Mod.refl _ _).alloc _, Nat.le_refl _⟩
  have := Blk.new w 54 #[.int .u64 ((Ob.fresh l).limit : Int), .slice none 0 0, .slice none 0 0, .int .i64 ((Ob.fresh l).sent : Int), .bool (Ob.fresh l).ended, .bool (Ob.fresh l).reset]
  have e : ((min l 4611686018427387903 : Nat) : Int) = min (l : Int) 4611686018427387903 := by omega
  simp only [Ob.fresh, e] at this ⊢
  exact this
end Go.Proofs.Ytnkhdipbljfohaa
