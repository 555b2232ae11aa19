/-
  the document's outbox: model: an act, by the document.
-/
import Derived.Test.YtnkhdipbljfohaaRfNext
import Derived.Test.YtnkhdipbljfohaaRfWrite
namespace Go.Proofs.Ytnkhdipbljfohaa
open Go.RowKit

theorem RStep.alloc0 {w w' : World} {r : Nat} {H : Value} {o' : Ob} {X : Obj} (h : RStep (w.alloc X) r H o' w') : RStep w r H o' w' := by
  obtain ⟨H', h1, h2, h3⟩ := h
  refine ⟨H', h1, ?_, fun k hk => ?_⟩
  · exact ((Mod.refl _ w).alloc X).trans h2 (fun x hx => .inl hx)
  · rcases h3 k hk with h | h
    · exact .inl h
    · exact .inr (by simp at h; omega)
theorem RStep.drew {w w' : World} {r : Nat} {H : Value} {o' : Ob} (h : RStep w r H o' w') : RStep w r H o' w'.drew := by
  obtain ⟨H', h1, h2, h3⟩ := h
  exact ⟨H', h1.drewN 1, h2.drew, h3⟩
theorem RBox.alloc {w : World} {r : Nat} {o : Ob} {H : Value} (h : RBox w r o H) (X : Obj) : RBox (w.alloc X) r o H := h.mod ((Mod.refl [] w).alloc X) (by simp)

set_option maxHeartbeats 4000000 in
theorem model_any (w : World) (r : Nat) (o : Ob) (V : Value) (h : RBox w r o V) (x : PAct) (hx : x.OK) (hd : x.data.size ≤ 200) :
    Calls Try.prog 26 #[.pointer (some ⟨r, 0, none⟩), x.val] w fun e w' => e = .returned (o.played x).val ∧ RStep w r V (o.play x) w' := by
  obtain ⟨k1, k2, n1, n2, ha, hm, _⟩ := hx
  have h0 := h.alloc (.cells #[.int .i64 x.kind, .int .i64 x.num, .int .u64 (x.at_ : Nat), .int .u64 (x.m : Nat), .string x.data, .bool x.fin] 29)
  unfold PAct.val
  by_cases e0 : x.kind = 0
  · have H : Hid (o.played x = ⟨0, [], false, false, o.writeErr x.data.data.toList⟩ ∧ o.play x = o.write x.data.data.toList x.fin) := hide (by simp [Ob.played, Ob.play, e0])
    have b0 : (x.kind == 0) = true := by simpa using e0
    clear e0 h
    go_enter Try.func26, Try.ntmps26
    go_wp2_with fail
    refine (rwrite_any _ r o V h0 x.data x.fin hd).mono ?_
    rintro e w' ⟨rfl, hs⟩
    have Hs := hide hs.alloc0
    clear hs
    go_wp2
    refine bodyPost_ret (results_tmp5 rfl _ _ _) rfl ?_
    exact ⟨by rw [H.out.1]; rfl, by rw [H.out.2]; exact Hs.out⟩
  by_cases e1 : x.kind = 1
  · have H : Hid (o.played x = ⟨(o.nextTold x.num).at_, (o.nextTold x.num).s, (o.nextTold x.num).fin, (o.nextTold x.num).is_, 0⟩ ∧ o.play x = o.next x.num) := hide (by simp [Ob.played, Ob.play, e1])
    have c0 : (x.kind == 0) = false := by simpa using e0
    have b0 : (x.kind == 1) = true := by simpa using e1
    clear e0 e1 h
    go_enter Try.func26, Try.ntmps26
    go_wp2_with fail
    refine (rnext_any _ r o V h0 x.num n1 n2).mono ?_
    rintro e w' ⟨rfl, hs⟩
    have Hs := hide hs.alloc0
    clear hs
    unfold Told.val
    go_wp2
    refine bodyPost_ret (results_tmp5 rfl _ _ _) rfl ?_
    exact ⟨by rw [H.out.1]; rfl, by rw [H.out.2]; exact Hs.out⟩
  by_cases e2 : x.kind = 2
  · have H : Hid (o.played x = ⟨0, [], false, false, 0⟩ ∧ o.play x = o.each ackOf x.at_ x.m x.fin) := hide (by simp [Ob.played, Ob.play, e2])
    have c0 : (x.kind == 0) = false := by simpa using e0
    have c1 : (x.kind == 1) = false := by simpa using e1
    have b0 : (x.kind == 2) = true := by simpa using e2
    clear e0 e1 e2 h
    go_enter Try.func26, Try.ntmps26
    go_wp2_with fail
    refine (racked_any _ r o V h0 x.at_ x.m x.fin ha hm).mono ?_
    rintro e w' ⟨rfl, hs⟩
    have Hs := hide hs.alloc0
    clear hs
    go_wp2
    refine bodyPost_ret (results_tmp5 rfl _ _ _) rfl ?_
    exact ⟨by rw [H.out.1]; rfl, by rw [H.out.2]; exact Hs.out⟩
  by_cases e3 : x.kind = 3
  · have H : Hid (o.played x = ⟨0, [], false, false, 0⟩ ∧ o.play x = o.each loseOf x.at_ x.m x.fin) := hide (by simp [Ob.played, Ob.play, e3])
    have c0 : (x.kind == 0) = false := by simpa using e0
    have c1 : (x.kind == 1) = false := by simpa using e1
    have c2 : (x.kind == 2) = false := by simpa using e2
    have b0 : (x.kind == 3) = true := by simpa using e3
    clear e0 e1 e2 e3 h
    go_enter Try.func26, Try.ntmps26
    go_wp2_with fail
    refine (rlost_any _ r o V h0 x.at_ x.m x.fin ha hm).mono ?_
    rintro e w' ⟨rfl, hs⟩
    have Hs := hide hs.alloc0
    clear hs
    go_wp2
    refine bodyPost_ret (results_tmp5 rfl _ _ _) rfl ?_
    exact ⟨by rw [H.out.1]; rfl, by rw [H.out.2]; exact Hs.out⟩
  by_cases e4 : x.kind = 4
  · have H : Hid (o.played x = ⟨0, [], false, false, 0⟩ ∧ o.play x = o.raise x.at_) := hide (by simp [Ob.played, Ob.play, e4])
    have c0 : (x.kind == 0) = false := by simpa using e0
    have c1 : (x.kind == 1) = false := by simpa using e1
    have c2 : (x.kind == 2) = false := by simpa using e2
    have c3 : (x.kind == 3) = false := by simpa using e3
    have b0 : (x.kind == 4) = true := by simpa using e4
    have hc0 := h0.c0
    have hf0 := h0.blk.frozen 0
    have hlim := h0.good.wf.lim
    have hr := h0.set (o' := o.raise x.at_) 0 (.int .u64 (max (o.limit : Int) (min (x.at_ : Int) 4611686018427387903))) (by
      have : ((max o.limit (min x.at_ 4611686018427387903) : Nat) : Int) = max (o.limit : Int) (min (x.at_ : Int) 4611686018427387903) := by omega
      simp only [Ob.raise, this]; rfl) rfl rfl (h0.good.raise x.at_)
    have Hs := hide (RStep.alloc0 (o' := o.raise x.at_) ⟨V, hr, (Mod.refl (rfoot r V) _).setCell (p := ⟨r, 0, none⟩) (.inl (by simp [rfoot])) (.int .u64 (max (o.limit : Int) (min (x.at_ : Int) 4611686018427387903))), fun _ hk => .inl hk⟩)
    clear e0 e1 e2 e3 e4 h h0 hr
    go_enter Try.func26, Try.ntmps26
    go_wp2
    go_region
    go_wp2
    refine bodyPost_ret (results_tmp5 rfl _ _ _) rfl ?_
    exact ⟨by rw [H.out.1]; rfl, by rw [H.out.2]; exact Hs.out.drew⟩
  by_cases e5 : x.kind = 5
  · have H : Hid (o.played x = ⟨o.resetAt, [], false, false, o.resetErr⟩ ∧ o.play x = o.resetNow) := hide (by simp [Ob.played, Ob.play, e5])
    have c0 : (x.kind == 0) = false := by simpa using e0
    have c1 : (x.kind == 1) = false := by simpa using e1
    have c2 : (x.kind == 2) = false := by simpa using e2
    have c3 : (x.kind == 3) = false := by simpa using e3
    have c4 : (x.kind == 4) = false := by simpa using e4
    have b0 : (x.kind == 5) = true := by simpa using e5
    clear e0 e1 e2 e3 e4 e5 h
    go_enter Try.func26, Try.ntmps26
    go_wp2_with fail
    refine (rreset_any _ r o V h0).mono ?_
    rintro e w' ⟨rfl, hs⟩
    have Hs := hide hs.alloc0
    clear hs
    go_wp2
    refine bodyPost_ret (results_tmp5 rfl _ _ _) rfl ?_
    exact ⟨by rw [H.out.1]; rfl, by rw [H.out.2]; exact Hs.out⟩
  have H : Hid (o.played x = ⟨0, [], false, false, 0⟩ ∧ o.play x = o) := hide (by simp [Ob.played, Ob.play, e0, e1, e2, e3, e4, e5])
  have c0 : (x.kind == 0) = false := by simpa using e0
  have c1 : (x.kind == 1) = false := by simpa using e1
  have c2 : (x.kind == 2) = false := by simpa using e2
  have c3 : (x.kind == 3) = false := by simpa using e3
  have c4 : (x.kind == 4) = false := by simpa using e4
  have c5 : (x.kind == 5) = false := by simpa using e5
  have Hs := hide (RStep.of_mod h ((Mod.refl [] w).alloc (.cells #[.int .i64 x.kind, .int .i64 x.num, .int .u64 (x.at_ : Nat), .int .u64 (x.m : Nat), .string x.data, .bool x.fin] 29)))
  clear e0 e1 e2 e3 e4 e5 h
  go_enter Try.func26, Try.ntmps26
  go_wp2
  refine bodyPost_ret (results_tmp5 rfl _ _ _) rfl ?_
  exact ⟨by rw [H.out.1]; rfl, by rw [H.out.2]; exact Hs.out⟩
end Go.Proofs.Ytnkhdipbljfohaa
