/-
  json: the reader: next, fail, take, space.
-/
import Derived.Test.YtkbpndohpkcikabDoorJsIx
import Derived.Test.YtkbpndohpkcikabDoorLex
import Derived.Deep.Cut
namespace Go.Proofs.YtkbpndohpkcikabDoor
open Go.RowKit Js Go.Sort
set_option linter.unusedVariables false

/-- the reader of s, at k -/
structure Rd (w : World) (p : Nat) (s : ByteArray) (k : Nat) : Prop where
  blk : Blk w p 48 #[.string s, .int .i64 (k : Nat)]
  le : k ≤ s.size
  small : s.size ≤ 1000000
def rst (s : ByteArray) (k : Nat) : List UInt8 := s.data.toList.drop k
theorem rst_len (s : ByteArray) {k : Nat} (h : k ≤ s.size) : (rst s k).length = s.size - k := by unfold rst; rw [List.length_drop, bytes_len]
theorem rst_cons {s : ByteArray} {k : Nat} {c : UInt8} {t : List UInt8} (h : rst s k = c :: t) : k < s.size ∧ s.data.toList[k]? = some c ∧ rst s (k + 1) = t := by
  have h1 : k < s.data.toList.length := by
    rcases Nat.lt_or_ge k s.data.toList.length with h1 | h1
    · exact h1
    · unfold rst at h; rw [List.drop_eq_nil_of_le h1] at h; cases h
  unfold rst at h ⊢
  rw [List.drop_eq_getElem_cons h1] at h
  cases h
  exact ⟨by rw [← bytes_len]; exact h1, List.getElem?_eq_getElem h1, rfl⟩
theorem rst_nil {s : ByteArray} {k : Nat} (h : rst s k = []) (hk : k ≤ s.size) : k = s.size := by
  have := rst_len s hk
  rw [h] at this
  simp at this
  omega
theorem getElem_list (x : ByteArray) (i : Nat) (h : i < x.size) (c : UInt8) (hc : x.data.toList[i]? = some c) : x[i] = c := by
  have h2 : i < x.data.toList.length := by rw [bytes_len]; exact h
  rw [List.getElem?_eq_getElem h2] at hc
  have := Option.some.inj hc
  rw [← this]
  simp [ByteArray.getElem_eq_getElem_data]
theorem Rd.mod {w w' : World} {p k : Nat} {s : ByteArray} {F : List Nat} (h : Rd w p s k) (m : Mod F w w') (hF : p ∉ F) : Rd w' p s k := ⟨m.blk h.blk hF, h.le, h.small⟩
def pan (k : Nat) : Ending := .panicked [{ v := .iface 44 (.int .i64 (k : Nat)), recovered := false }]
theorem rst_bytes {s : ByteArray} {i : Nat} {l : List UInt8} (h : s.data.toList.drop i = l) : rst s i = l := h

set_option maxRecDepth 100000 in
set_option maxHeartbeats 4000000 in
/-- the byte that stands next; 0: none does -/
theorem next_any (w : World) (p k : Nat) (s : ByteArray) (h : Rd w p s k) :
    Calls Tryd.prog 28 #[.pointer (some ⟨p, 0, none⟩)] w fun e w' => e = .returned (.int .u8 ((((rst s k).head?.getD 0).toNat : Nat) : Int)) ∧ ∃ n, w' = w.drewN n := by
  have y0 : w.cell? ⟨p, 0, none⟩ = some (.string s) := h.blk.cell 0
  have y1 : w.cell? ⟨p, 1, none⟩ = some (.int .i64 (k : Nat)) := h.blk.cell 1
  have hle := h.le
  have hs := h.small
  cases hr : rst s k with
  | nil =>
    have hk := rst_nil hr hle
    have g1 : decide ((k : Int) < s.size) = false := decide_eq_false (by omega)
    have g2 : decide (k < s.size) = false := decide_eq_false (by omega)
    clear h hk hr
    go_enter Tryd.func28, Tryd.ntmps28
    go_wp2_with fail
    go_quiet (fail)
    go_wp2_with fail
    go_ret
    exact ⟨rfl, nq, rfl⟩
  | cons c t =>
    obtain ⟨h1, h2, h3⟩ := rst_cons hr
    have g1 : decide ((k : Int) < s.size) = true := decide_eq_true (by omega)
    have g2 : decide (k < s.size) = true := decide_eq_true h1
    have hki : (k : Int) < s.size := by omega
    have hxc : s[k]'h1 = c := getElem_list s k _ c h2
    clear h hr h3 h2
    go_enter Tryd.func28, Tryd.ntmps28
    go_wp2_with fail
    go_quiet (fail)
    go_wp2_with fail
    go_quiet (fail)
    go_wp2_with fail
    go_ret
    refine ⟨?_, _, World.drewN_drewN _ _ _⟩
    simp

set_option maxRecDepth 100000 in
set_option maxHeartbeats 4000000 in
theorem fail_any (w : World) (p k : Nat) (s : ByteArray) (h : Rd w p s k) :
    Calls Tryd.prog 17 #[.pointer (some ⟨p, 0, none⟩)] w fun e w' => e = pan k ∧ w' = w := by
  have y1 : w.cell? ⟨p, 1, none⟩ = some (.int .i64 (k : Nat)) := h.blk.cell 1
  clear h
  go_enter Tryd.func17, Tryd.ntmps17
  go_wp2_with fail
  exact ⟨rfl, rfl, rfl⟩

/-- what a part of the reader tells -/
def RP {α : Type} (w : World) (p : Nat) (s : ByteArray) (x : PR α) (Q : α → World → Value → Prop) (e : Ending) (w' : World) : Prop := Mod [p] w w' ∧ match x with
  | .ok v r => ∃ k u, e = .returned u ∧ Q v w' u ∧ Rd w' p s k ∧ rst s k = r
  | .er r => ∃ k, e = pan k ∧ k ≤ s.size ∧ rst s k = r
def inB (S : ByteArray) (c : UInt8) : Bool := S.data.toList.contains c
theorem RP.ok {α : Type} {w w' : World} {p : Nat} {s : ByteArray} {x : PR α} {Q : α → World → Value → Prop} {v : α} {r : List UInt8} {k : Nat} {u : Value} (hx : x = .ok v r) (m : Mod [p] w w') (hq : Q v w' u) (hr : Rd w' p s k) (hk : rst s k = r) : RP w p s x Q (.returned u) w' := by
  subst hx
  exact ⟨m, k, u, rfl, hq, hr, hk⟩
theorem RP.er {α : Type} {w w' : World} {p : Nat} {s : ByteArray} {x : PR α} {Q : α → World → Value → Prop} {r : List UInt8} {k : Nat} (hx : x = .er r) (m : Mod [p] w w') (hl : k ≤ s.size) (hk : rst s k = r) : RP w p s x Q (pan k) w' := by
  subst hx
  exact ⟨m, k, rfl, hl, hk⟩
theorem Rd.step {w : World} {p k : Nat} {s : ByteArray} (h : Rd w p s k) (hk : k < s.size) : Rd (w.setCell ⟨p, 1, none⟩ (.int .i64 ((k : Int) + 1))) p s (k + 1) := by
  refine ⟨?_, hk, h.small⟩
  have := h.blk.set_ 1 (.int .i64 ((k : Int) + 1))
  exact this

theorem next_mod (w : World) (p k : Nat) (s : ByteArray) (h : Rd w p s k) :
    Calls Tryd.prog 28 #[.pointer (some ⟨p, 0, none⟩)] w fun e w' => e = .returned (.int .u8 ((((rst s k).head?.getD 0).toNat : Nat) : Int)) ∧ Mod [] w w' ∧ Rd w' p s k :=
  (next_any w p k s h).mono fun e w' ⟨h1, n, h2⟩ => by
    subst h2
    have m := (Mod.refl [] w).drewN n
    exact ⟨h1, m, h.mod m (by simp)⟩

set_option maxRecDepth 100000 in
set_option maxHeartbeats 4000000 in
theorem take_any (w : World) (p k : Nat) (s S : ByteArray) (h : Rd w p s k) :
    Calls Tryd.prog 38 #[.pointer (some ⟨p, 0, none⟩), .string S] w (RP w p s (jtake (inB S) (rst s k)) fun c _ u => u = .int .u8 (c.toNat : Int)) := by
  have hle := h.le
  have hs := h.small
  cases hr : rst s k with
  | nil =>
    have hk := rst_nil hr hle
    have g1 : decide ((s.size : Int) ≤ k) = true := decide_eq_true (by omega)
    have g2 : decide (s.size ≤ k) = true := decide_eq_true (by omega)
    have HR := hide hr
    have HN := hide (next_mod w p k s h)
    clear h hr hk
    go_enter Tryd.func38, Tryd.ntmps38
    go_wp2_with fail
    refine HN.out.mono ?_
    rintro e w1 ⟨rfl, m1, hr1⟩
    have M1 := hide m1
    have H1 := hide hr1
    have y0 : w1.cell? ⟨p, 0, none⟩ = some (.string s) := hr1.blk.cell 0
    have y1 : w1.cell? ⟨p, 1, none⟩ = some (.int .i64 (k : Nat)) := hr1.blk.cell 1
    clear m1 hr1
    go_wp2_with fail
    go_quiet (fail)
    go_wp2_with fail
    refine (fail_any _ p k s (H1.out.mod ((Mod.refl [] _).drewN _) (by simp))).mono ?_
    rintro e w2 ⟨rfl, rfl⟩
    go_wp2_with fail
    rename_i heq
    cases heq
    exact ⟨rfl, RP.er rfl ((M1.out.drewN nq).mono (by simp)) hle HR.out⟩
  | cons c t =>
    obtain ⟨h1, h2, h3⟩ := rst_cons hr
    have g1 : decide ((s.size : Int) ≤ k) = false := decide_eq_false (by omega)
    have g2 : decide (s.size ≤ k) = false := decide_eq_false (by omega)
    have HIx := hide (fun w => ix_any w S c)
    obtain ⟨ix, hix⟩ : ∃ ix, Lib.indexByte S.data.toList c = ix := ⟨_, rfl⟩
    have hneg := (indexByte_neg c S.data.toList).1
    rw [hix] at HIx hneg
    have HR := hide hr
    have HR3 := hide h3
    have HK := hide h1
    have hnx := next_mod w p k s h
    rw [hr] at hnx
    have HNx := hide hnx
    clear h h2 h3 hix hnx hr h1
    have a3 : IntKind.i64.wrap ((k : Int) + 1) = (k : Int) + 1 := IntWalk.i64_in _ (by omega)
    cases hb : S.data.toList.contains c with
    | true =>
      have g3 : decide (ix < 0) = false := by rw [hneg, hb]; rfl
      have HT : Hid (jtake (inB S) (c :: t) = .ok c t) := hide (by rw [jtake, inB, hb]; rfl)
      clear hneg hb
      go_enter Tryd.func38, Tryd.ntmps38
      go_wp2_with fail
      refine HNx.out.mono ?_
      rintro e w1 ⟨rfl, m1, hr1⟩
      simp only [List.head?_cons, Option.getD_some]
      have M1 := hide m1
      have H1 := hide hr1
      have y0 : w1.cell? ⟨p, 0, none⟩ = some (.string s) := hr1.blk.cell 0
      have y1 : w1.cell? ⟨p, 1, none⟩ = some (.int .i64 (k : Nat)) := hr1.blk.cell 1
      have u1 : w1.frozen? ⟨p, 1, none⟩ = false := hr1.blk.frozen 1
      have lp := hr1.blk.lt
      clear m1 hr1
      go_wp2_with fail
      go_quiet ((go_at_call 37; exact Calls.quiet_of_same (HIx.out _)))
      go_wp2_with fail
      go_ret
      have H2 : Rd (w1.drewN nq) p s k := H1.out.mod ((Mod.refl [] w1).drewN nq) (by simp)
      exact RP.ok HT.out (((M1.out.drewN nq).mono (by simp)).setCell (p := ⟨p, 1, none⟩) (.inl (by simp)) _) rfl (H2.step HK.out) HR3.out
    | false =>
      have g3 : decide (ix < 0) = true := by rw [hneg, hb]; rfl
      have HT : Hid (jtake (inB S) (c :: t) = .er (c :: t)) := hide (by rw [jtake, inB, hb]; rfl)
      clear hneg hb
      go_enter Tryd.func38, Tryd.ntmps38
      go_wp2_with fail
      refine HNx.out.mono ?_
      rintro e w1 ⟨rfl, m1, hr1⟩
      simp only [List.head?_cons, Option.getD_some]
      have M1 := hide m1
      have H1 := hide hr1
      have y0 : w1.cell? ⟨p, 0, none⟩ = some (.string s) := hr1.blk.cell 0
      have y1 : w1.cell? ⟨p, 1, none⟩ = some (.int .i64 (k : Nat)) := hr1.blk.cell 1
      clear m1 hr1
      go_wp2_with fail
      go_quiet ((go_at_call 37; exact Calls.quiet_of_same (HIx.out _)))
      go_wp2_with fail
      refine (fail_any _ p k s (H1.out.mod ((Mod.refl [] _).drewN _) (by simp))).mono ?_
      rintro e w2 ⟨rfl, rfl⟩
      go_wp2_with fail
      rename_i heq
      cases heq
      exact ⟨rfl, RP.er HT.out ((M1.out.drewN nq).mono (by simp)) hle HR.out⟩

/-- spaces are passed over -/
def spS : ByteArray := ⟨#[32, 9, 10, 13]⟩
theorem spS_in (c : UInt8) : spS.data.toList.contains c = isSp c := by
  simp only [spS, isSp, List.contains_cons, List.contains_nil, Bool.or_false, Bool.or_assoc]
def atOf (p : Nat) (w : World) : Nat := match w.cell? ⟨p, 1, none⟩ with
  | some (.int _ n) => n.toNat
  | _ => 0

set_option maxRecDepth 100000 in
set_option maxHeartbeats 4000000 in
theorem space_any (w : World) (p k : Nat) (s : ByteArray) (h : Rd w p s k) :
    Calls Tryd.prog 27 #[.pointer (some ⟨p, 0, none⟩)] w fun e w' => e = .returned (.tuple #[]) ∧ Mod [p] w w' ∧ ∃ k', Rd w' p s k' ∧ rst s k' = jsp (rst s k) := by
  have hle := h.le
  have hs := h.small
  have H := hide h
  clear h
  go_enter Tryd.func27, Tryd.ntmps27
  go_wp2_with fail
  go_loopw [] (fun wr => ∃ j : Nat, j ≤ s.size ∧ Hid (Mod [p] w wr) ∧ Hid (Rd wr p s j) ∧ Hid (jsp (rst s j) = jsp (rst s k))) (fun wr => s.size - atOf p wr)
  case atStart => exact ⟨k, hle, hide (Mod.refl _ _), H, hide rfl⟩
  case round =>
    obtain ⟨j, hj, hm, hr, hsp⟩ := hrel
    have y0 : wr.cell? ⟨p, 0, none⟩ = some (.string s) := hr.out.blk.cell 0
    have y1 : wr.cell? ⟨p, 1, none⟩ = some (.int .i64 (j : Nat)) := hr.out.blk.cell 1
    have HA : Hid (atOf p wr = j) := hide (by unfold atOf; rw [y1]; rfl)
    have u1 : wr.frozen? ⟨p, 1, none⟩ = false := hr.out.blk.frozen 1
    have lp := hr.out.blk.lt
    cases hq : rst s j with
    | nil =>
      have hk := rst_nil hq hj
      have g1 : decide ((j : Int) < s.size) = false := decide_eq_false (by omega)
      have g2 : decide (j < s.size) = false := decide_eq_false (by omega)
      have HE : Hid (rst s j = jsp (rst s k)) := hide (by rw [← hsp.out, hq]; rfl)
      clear hq hk
      go_wp2_with fail
      go_quiet (fail)
      go_wp2_with fail

      refine ⟨rfl, _, results_none rfl _ _ _, ?_⟩
      have m := (Mod.refl [] wr).drewN nq
      exact ⟨rfl, hm.out.drewN nq, j, hr.out.mod m (by simp), HE.out⟩
    | cons c t =>
      obtain ⟨h1, h2, h3⟩ := rst_cons hq
      have g1 : decide ((j : Int) < s.size) = true := decide_eq_true (by omega)
      have g2 : decide (j < s.size) = true := decide_eq_true h1
      have hji : (j : Int) < s.size := by omega
      have hxc : s[j]'h1 = c := getElem_list s j _ c h2
      have HIx := hide (fun w => ix_any w spS c)
      obtain ⟨ix, hix⟩ : ∃ ix, Lib.indexByte spS.data.toList c = ix := ⟨_, rfl⟩
      have hpos := (indexByte_neg c spS.data.toList).2
      rw [hix] at HIx hpos
      rw [spS_in] at hpos
      unfold spS at HIx
      have a3 : IntKind.i64.wrap ((j : Int) + 1) = (j : Int) + 1 := IntWalk.i64_in _ (by omega)
      have HK := hide h1
      cases hc : isSp c with
      | true =>
        have g3 : decide (0 ≤ ix) = true := by rw [hpos, hc]
        have HN : Hid (jsp (rst s (j + 1)) = jsp (rst s k)) := hide (by
          rw [← hsp.out, hq, h3]
          unfold jsp
          rw [List.dropWhile_cons, if_pos hc])
        clear hpos hc hq h2 h3 hix hsp
        go_wp2_with fail
        go_quiet ((go_at_call 37; exact Calls.quiet_of_same (HIx.out _)))
        go_wp2_with fail
        have H2 : Rd (wr.drewN nq) p s j := hr.out.mod ((Mod.refl [] wr).drewN nq) (by simp)
        have H3 := H2.step HK.out
        refine ⟨?rel, ?measure⟩
        case rel => exact ⟨j + 1, by omega, hide ((hm.out.drewN nq).setCell (p := ⟨p, 1, none⟩) (.inl (by simp)) _), hide H3, HN⟩
        case measure =>
          have e : atOf p ((wr.drewN nq).setCell ⟨p, 1, none⟩ (.int .i64 ((j : Int) + 1))) = j + 1 := by
            unfold atOf
            rw [H3.blk.cell 1]
            rfl
          rw [HA.out, e]
          omega
      | false =>
        have g3 : decide (0 ≤ ix) = false := by rw [hpos, hc]
        have HE : Hid (rst s j = jsp (rst s k)) := hide (by
          rw [← hsp.out, hq]
          unfold jsp
          rw [List.dropWhile_cons, if_neg (by rw [hc]; decide)])
        clear hpos hc hq h2 h3 hix hsp
        go_wp2_with fail
        go_quiet ((go_at_call 37; exact Calls.quiet_of_same (HIx.out _)))
        go_wp2_with fail
        refine ⟨rfl, _, results_none rfl _ _ _, ?_⟩
        have m := (Mod.refl [] wr).drewN nq
        exact ⟨rfl, hm.out.drewN nq, j, hr.out.mod m (by simp), HE.out⟩
end Go.Proofs.YtkbpndohpkcikabDoor
