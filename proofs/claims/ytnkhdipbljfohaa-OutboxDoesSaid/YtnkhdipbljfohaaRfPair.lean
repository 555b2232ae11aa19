/-
  an outbox and the document's, side by side.
-/
import Derived.Test.YtnkhdipbljfohaaRfModel
namespace Go.Proofs.Ytnkhdipbljfohaa
open Go.RowKit

def Pair (W w : World) (b : Nat) (o : Ob) (r : Nat) (q : Ob) : Prop :=
  ∃ dv sv H, OBox w b o dv sv ∧ RBox w r q H ∧ Mod [] W w ∧ (∀ k ∈ ofoot b dv sv, W.heap.size ≤ k) ∧ (∀ k ∈ rfoot r H, W.heap.size ≤ k) ∧ ∀ k ∈ ofoot b dv sv, k ∉ rfoot r H

section
variable {W w w' : World} {b r : Nat} {o q : Ob}
theorem RBox.foot_lt {H : Value} (h : RBox w r q H) : ∀ k ∈ rfoot r H, k < w.heap.size := by
  intro k hk
  simp only [rfoot, List.mem_cons, Option.mem_toList] at hk
  rcases hk with rfl | hk
  · exact h.blk.lt
  · exact own_lt h.how k hk
theorem Pair.frame (h : Pair W w b o r q) : Mod [] W w := by
  obtain ⟨_, _, _, _, _, h3, _⟩ := h
  exact h3
theorem Pair.mine (h : Pair W w b o r q) : Mine W w b o := by
  obtain ⟨dv, sv, H, h1, h2, h3, h4, _⟩ := h
  exact ⟨dv, sv, h1, h3, h4⟩
theorem Pair.mod (h : Pair W w b o r q) (hm : Mod [] w w') : Pair W w' b o r q := by
  obtain ⟨dv, sv, H, h1, h2, h3, h4, h5, h6⟩ := h
  exact ⟨dv, sv, H, h1.mod hm (by simp), h2.mod hm (by simp), h3.trans hm (by simp), h4, h5, h6⟩
theorem Pair.ref (h : Pair W w b o r q) : ∃ H, RBox w r q H := by
  obtain ⟨dv, sv, H, h1, h2, _⟩ := h
  exact ⟨H, h2⟩
theorem pair_play (h : Pair W w b o r q) (x : PAct) (hx : x.OK) (hd : x.data.size ≤ 200) (p : Played) (o' : Ob) (hp : o.played x = p) (ho : o.play x = o') :
    Calls Try.prog 12 #[.pointer (some ⟨b, 0, none⟩), x.val] w fun e w' =>
      e = .returned (.tuple #[.int .u64 (p.at_ : Nat), .string ⟨p.s.toArray⟩, .bool p.fin, .bool p.is_, .int .i64 p.e]) ∧ Pair W w' b o' r q := by
  subst hp ho
  obtain ⟨dv, sv, H, h1, h2, h3, h4, h5, h6⟩ := h
  refine (play_any w b o dv sv h1 x hx hd).mono fun e w' ⟨he, hs⟩ => ⟨he, ?_⟩
  obtain ⟨dv', sv', k1, k2, k3⟩ := hs
  have hz := h3.size
  refine ⟨dv', sv', H, k1, h2.mod k2 (fun k hk hk2 => h6 k hk2 hk), h3.trans k2 (fun k hk => .inr (h4 k hk)), fun k hk => ?_, h5, fun k hk hk2 => ?_⟩
  · rcases k3 k hk with e | e
    · exact h4 k e
    · omega
  · rcases k3 k hk with e | e
    · exact h6 k e hk2
    · have := h2.foot_lt k hk2; omega
theorem pair_model (h : Pair W w b o r q) (x : PAct) (hx : x.OK) (hd : x.data.size ≤ 200) (p : Played) (q' : Ob) (hp : q.played x = p) (hq : q.play x = q') :
    Calls Try.prog 26 #[.pointer (some ⟨r, 0, none⟩), x.val] w fun e w' =>
      e = .returned (.tuple #[.int .u64 (p.at_ : Nat), .string ⟨p.s.toArray⟩, .bool p.fin, .bool p.is_, .int .i64 p.e]) ∧ Pair W w' b o r q' := by
  subst hp hq
  obtain ⟨dv, sv, H, h1, h2, h3, h4, h5, h6⟩ := h
  refine (model_any w r q H h2 x hx hd).mono fun e w' ⟨he, hs⟩ => ⟨he, ?_⟩
  obtain ⟨H', k1, k2, k3⟩ := hs
  have hz := h3.size
  refine ⟨dv, sv, H', h1.mod k2 (fun k hk hk2 => h6 k hk hk2), k1, h3.trans k2 (fun k hk => .inr (h5 k hk)), h4, fun k hk => ?_, fun k hk hk2 => ?_⟩
  · rcases k3 k hk with e | e
    · exact h5 k e
    · omega
  · rcases k3 k hk2 with e | e
    · exact h6 k hk e
    · have := Aside.foot_lt h1 k hk; omega
theorem pair_new (h : Mine W w b o) (l : Nat) (hl : l ≤ 18446744073709551615) :
    Calls Try.prog 25 #[.int .u64 l] w fun e w' => ∃ r, e = .returned (.pointer (some ⟨r, 0, none⟩)) ∧ Pair W w' b o r (Ob.fresh l) := by
  obtain ⟨dv, sv, h1, h3, h4⟩ := h
  refine (rnew_any w l hl).mono fun e w' ⟨r, he, k1, k2, k3⟩ => ⟨r, he, dv, sv, _, h1.mod k2 (by simp), k1, h3.trans k2 (by simp), h4, fun k hk => ?_, fun k hk hk2 => ?_⟩
  · have := h3.size
    simp [rfoot, Value.ownBlock] at hk; omega
  · have := Aside.foot_lt h1 k hk
    simp [rfoot, Value.ownBlock] at hk2; omega
end
end Go.Proofs.Ytnkhdipbljfohaa
