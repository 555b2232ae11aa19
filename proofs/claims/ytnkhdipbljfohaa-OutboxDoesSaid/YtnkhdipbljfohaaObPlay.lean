/-
  the statements' own helpers over outbox: large, play.
-/
import Derived.Test.YtnkhdipbljfohaaObNext
import Derived.Test.YtnkhdipbljfohaaObWrite
namespace Go.Proofs.Ytnkhdipbljfohaa
open Go.RowKit

structure PAct where
  kind : Int
  num : Int
  at_ : Nat
  m : Nat
  data : ByteArray
  fin : Bool

structure PAct.OK (x : PAct) : Prop where
  k1 : -9223372036854775808 ≤ x.kind
  k2 : x.kind ≤ 9223372036854775807
  n1 : -9223372036854775808 ≤ x.num
  n2 : x.num ≤ 9223372036854775807
  a : x.at_ ≤ 18446744073709551615
  m : x.m ≤ 18446744073709551615
  d : x.data.size ≤ 9223372036854775807

def PAct.cells (x : PAct) : List Value := [.int .i64 x.kind, .int .i64 x.num, .int .u64 (x.at_ : Nat), .int .u64 (x.m : Nat), .string x.data, .bool x.fin]
def PAct.val (x : PAct) : Value := .agg #[.int .i64 x.kind, .int .i64 x.num, .int .u64 (x.at_ : Nat), .int .u64 (x.m : Nat), .string x.data, .bool x.fin]
def PAct.large (x : PAct) : Bool := decide (200 < x.data.size)

set_option maxHeartbeats 400000 in
theorem large_any (w : World) (x : PAct) :
    Calls Try.prog 11 #[x.val] w fun e w' => e = .returned (.bool x.large) ∧ Mod [] w w' := by
  have hl : Hid (x.large = decide (200 < x.data.size)) := hide rfl
  unfold PAct.val
  go_enter Try.func11, Try.ntmps11
  go_wp2
  go_ret
  refine ⟨ret_bool (by rw [hl.out]; apply decide_eq_decide.2; omega), (Mod.refl _ _).alloc _⟩

structure Played where
  at_ : Nat
  s : List UInt8
  fin : Bool
  is_ : Bool
  e : Int
def Played.val (p : Played) : Value := .tuple #[.int .u64 (p.at_ : Nat), str p.s, .bool p.fin, .bool p.is_, .int .i64 p.e]

/-- an act on an outbox: what is told -/
def Ob.played (o : Ob) (x : PAct) : Played :=
  if x.kind = 0 then ⟨0, [], false, false, o.writeErr x.data.data.toList⟩
  else if x.kind = 1 then let t := o.nextTold x.num; ⟨t.at_, t.s, t.fin, t.is_, 0⟩
  else if x.kind = 5 then ⟨o.resetAt, [], false, false, o.resetErr⟩
  else ⟨0, [], false, false, 0⟩
/-- .. and what becomes of it -/
def Ob.play (o : Ob) (x : PAct) : Ob :=
  if x.kind = 0 then o.write x.data.data.toList x.fin
  else if x.kind = 1 then o.next x.num
  else if x.kind = 2 then o.each ackOf x.at_ x.m x.fin
  else if x.kind = 3 then o.each loseOf x.at_ x.m x.fin
  else if x.kind = 4 then o.raise x.at_
  else if x.kind = 5 then o.resetNow
  else o

theorem OStep.alloc0 {w w' : World} {b : Nat} {dv sv : Value} {o' : Ob} {X : Obj} (h : OStep (w.alloc X) b dv sv o' w') : OStep w b dv sv o' w' := by
  obtain ⟨dv', sv', h1, h2, h3⟩ := h
  refine ⟨dv', sv', h1, ?_, fun k hk => ?_⟩
  · exact ((Mod.refl _ w).alloc X).trans h2 (fun x hx => .inl hx)
  · rcases h3 k hk with h | h
    · exact .inl h
    · exact .inr (by simp at h; omega)

theorem OBox.alloc {w : World} {b : Nat} {o : Ob} {dv sv : Value} (h : OBox w b o dv sv) (X : Obj) : OBox (w.alloc X) b o dv sv :=
  h.mod ((Mod.refl [] w).alloc X) (by simp)

set_option maxHeartbeats 4000000 in
theorem play_any (w : World) (b : Nat) (o : Ob) (dv sv : Value) (h : OBox w b o dv sv) (x : PAct) (hx : x.OK) (hd : x.data.size ≤ 200) :
    Calls Try.prog 12 #[.pointer (some ⟨b, 0, none⟩), x.val] w fun e w' => e = .returned (o.played x).val ∧ OStep w b dv sv (o.play x) w' := by
  obtain ⟨k1, k2, n1, n2, ha, hm, _⟩ := hx
  have h0 := h.alloc (.cells #[.int .i64 x.kind, .int .i64 x.num, .int .u64 (x.at_ : Nat), .int .u64 (x.m : Nat), .string x.data, .bool x.fin] 29)
  unfold PAct.val
  by_cases e0 : x.kind = 0
  · have H : Hid (o.played x = ⟨0, [], false, false, o.writeErr x.data.data.toList⟩ ∧ o.play x = o.write x.data.data.toList x.fin) := hide (by simp [Ob.played, Ob.play, e0])
    have b0 : (x.kind == 0) = true := by simpa using e0
    clear e0 h
    go_enter Try.func12, Try.ntmps12
    go_wp2_with fail
    refine (write_any _ b o dv sv h0 x.data x.fin (by omega)).mono ?_
    rintro e w' ⟨rfl, hs⟩
    have Hs := hide hs.alloc0
    clear hs
    go_wp2
    refine bodyPost_ret (results_tmp5 rfl _ _ _) rfl ?_
    exact ⟨by rw [H.out.1]; rfl, by rw [H.out.2]; exact Hs.out⟩
  by_cases e1 : x.kind = 1
  · have H : Hid (o.played x = ⟨(o.nextTold x.num).at_, (o.nextTold x.num).s, (o.nextTold x.num).fin, (o.nextTold x.num).is_, 0⟩ ∧ o.play x = o.next x.num) := hide (by simp [Ob.played, Ob.play, e1])
    have c0 : (x.kind == 0) = false := by simpa using e0
    have b0 : (x.kind == 1) = true := by simpa using e1
    clear e0 e1 h
    go_enter Try.func12, Try.ntmps12
    go_wp2_with fail
    refine (next_any _ b o dv sv h0 x.num n1 n2).mono ?_
    rintro e w' ⟨rfl, hs⟩
    have Hs := hide hs.alloc0
    clear hs
    unfold Told.val
    go_wp2
    refine bodyPost_ret (results_tmp5 rfl _ _ _) rfl ?_
    exact ⟨by rw [H.out.1]; rfl, by rw [H.out.2]; exact Hs.out⟩
  by_cases e2 : x.kind = 2
  · have H : Hid (o.played x = ⟨0, [], false, false, 0⟩ ∧ o.play x = o.each ackOf x.at_ x.m x.fin) := hide (by simp [Ob.played, Ob.play, e2])
    have c0 : (x.kind == 0) = false := by simpa using e0
    have c1 : (x.kind == 1) = false := by simpa using e1
    have b0 : (x.kind == 2) = true := by simpa using e2
    clear e0 e1 e2 h
    go_enter Try.func12, Try.ntmps12
    go_wp2_with fail
    refine (acked_any _ b o dv sv h0 x.at_ x.m x.fin ha hm).mono ?_
    rintro e w' ⟨rfl, hs⟩
    have Hs := hide hs.alloc0
    clear hs
    go_wp2
    refine bodyPost_ret (results_tmp5 rfl _ _ _) rfl ?_
    exact ⟨by rw [H.out.1]; rfl, by rw [H.out.2]; exact Hs.out⟩
  by_cases e3 : x.kind = 3
  · have H : Hid (o.played x = ⟨0, [], false, false, 0⟩ ∧ o.play x = o.each loseOf x.at_ x.m x.fin) := hide (by simp [Ob.played, Ob.play, e3])
    have c0 : (x.kind == 0) = false := by simpa using e0
    have c1 : (x.kind == 1) = false := by simpa using e1
    have c2 : (x.kind == 2) = false := by simpa using e2
    have b0 : (x.kind == 3) = true := by simpa using e3
    clear e0 e1 e2 e3 h
    go_enter Try.func12, Try.ntmps12
    go_wp2_with fail
    refine (lost_any _ b o dv sv h0 x.at_ x.m x.fin ha hm).mono ?_
    rintro e w' ⟨rfl, hs⟩
    have Hs := hide hs.alloc0
    clear hs
    go_wp2
    refine bodyPost_ret (results_tmp5 rfl _ _ _) rfl ?_
    exact ⟨by rw [H.out.1]; rfl, by rw [H.out.2]; exact Hs.out⟩
  by_cases e4 : x.kind = 4
  · have H : Hid (o.played x = ⟨0, [], false, false, 0⟩ ∧ o.play x = o.raise x.at_) := hide (by simp [Ob.played, Ob.play, e4])
    have c0 : (x.kind == 0) = false := by simpa using e0
    have c1 : (x.kind == 1) = false := by simpa using e1
    have c2 : (x.kind == 2) = false := by simpa using e2
    have c3 : (x.kind == 3) = false := by simpa using e3
    have b0 : (x.kind == 4) = true := by simpa using e4
    clear e0 e1 e2 e3 e4 h
    go_enter Try.func12, Try.ntmps12
    go_wp2_with fail
    refine (raise_any _ b o dv sv h0 x.at_ ha).mono ?_
    rintro e w' ⟨rfl, hs⟩
    have Hs := hide hs.alloc0
    clear hs
    go_wp2
    refine bodyPost_ret (results_tmp5 rfl _ _ _) rfl ?_
    exact ⟨by rw [H.out.1]; rfl, by rw [H.out.2]; exact Hs.out⟩
  by_cases e5 : x.kind = 5
  · have H : Hid (o.played x = ⟨o.resetAt, [], false, false, o.resetErr⟩ ∧ o.play x = o.resetNow) := hide (by simp [Ob.played, Ob.play, e5])
    have c0 : (x.kind == 0) = false := by simpa using e0
    have c1 : (x.kind == 1) = false := by simpa using e1
    have c2 : (x.kind == 2) = false := by simpa using e2
    have c3 : (x.kind == 3) = false := by simpa using e3
    have c4 : (x.kind == 4) = false := by simpa using e4
    have b0 : (x.kind == 5) = true := by simpa using e5
    clear e0 e1 e2 e3 e4 e5 h
    go_enter Try.func12, Try.ntmps12
    go_wp2_with fail
    refine (reset_any _ b o dv sv h0).mono ?_
    rintro e w' ⟨rfl, hs⟩
    have Hs := hide hs.alloc0
    clear hs
    go_wp2
    refine bodyPost_ret (results_tmp5 rfl _ _ _) rfl ?_
    exact ⟨by rw [H.out.1]; rfl, by rw [H.out.2]; exact Hs.out⟩
  have H : Hid (o.played x = ⟨0, [], false, false, 0⟩ ∧ o.play x = o) := hide (by simp [Ob.played, Ob.play, e0, e1, e2, e3, e4, e5])
  have c0 : (x.kind == 0) = false := by simpa using e0
  have c1 : (x.kind == 1) = false := by simpa using e1
  have c2 : (x.kind == 2) = false := by simpa using e2
  have c3 : (x.kind == 3) = false := by simpa using e3
  have c4 : (x.kind == 4) = false := by simpa using e4
  have c5 : (x.kind == 5) = false := by simpa using e5
  have Hs := hide (OStep.of_mod h ((Mod.refl [] w).alloc (.cells #[.int .i64 x.kind, .int .i64 x.num, .int .u64 (x.at_ : Nat), .int .u64 (x.m : Nat), .string x.data, .bool x.fin] 29)))
  clear e0 e1 e2 e3 e4 e5 h
  go_enter Try.func12, Try.ntmps12
  go_wp2
  refine bodyPost_ret (results_tmp5 rfl _ _ _) rfl ?_
  exact ⟨by rw [H.out.1]; rfl, by rw [H.out.2]; exact Hs.out⟩
end Go.Proofs.Ytnkhdipbljfohaa
