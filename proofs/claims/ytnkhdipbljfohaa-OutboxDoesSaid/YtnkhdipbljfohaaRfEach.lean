/-
  the document's outbox: in, Acked, Lost.
-/
import Derived.Test.YtnkhdipbljfohaaRfFrom
import Derived.Test.YtnkhdipbljfohaaObMarks
namespace Go.Proofs.Ytnkhdipbljfohaa
open Go.RowKit

set_option maxHeartbeats 1000000 in
theorem rin_any (w : World) (i a n : Nat) (hi : i ≤ 65536) (ha : a ≤ 18446744073709551615) (hn : n ≤ 18446744073709551615) :
    Calls Try.prog 50 #[.int .i64 i, .int .u64 a, .int .u64 n] w fun e w' => e = .returned (.bool (decide (a ≤ i ∧ i < a + n))) ∧ ∃ n, w' = w.drewN n := by
  have hI : Hid (∀ v : Bool, (a ≤ i ∧ i < a + n ↔ v = true) → decide (a ≤ i ∧ i < a + n) = v) := hide (fun v hv => by
    cases v
    · exact decide_eq_false (fun h => by simpa using hv.1 h)
    · exact decide_eq_true (hv.2 rfl))
  by_cases h1 : a ≤ i
  · by_cases h2 : i < a + n
    · go_enter Try.func50, Try.ntmps50
      go_wp2
      go_ret
      exact ⟨ret_bool (by rw [hI.out true ⟨fun _ => rfl, fun _ => ⟨h1, h2⟩⟩]; simp; omega), 0, rfl⟩
    · go_enter Try.func50, Try.ntmps50
      go_wp2
      go_ret
      exact ⟨ret_bool (by rw [hI.out false ⟨fun h => absurd h.2 h2, fun h => by cases h⟩]; simp; omega), 0, rfl⟩
  · go_enter Try.func50, Try.ntmps50
    go_wp2
    go_ret
    exact ⟨ret_bool (by rw [hI.out false ⟨fun h => absurd h.1 h1, fun h => by cases h⟩]; first | done | rfl | (simp; omega) | simp), 0, rfl⟩

def midOf (f : UInt8 → UInt8) (L : List UInt8) (a n k : Nat) : List UInt8 := L.mapIdx fun j x => if j < k ∧ a ≤ j ∧ j < a + n then f x else x
theorem midOf_len (f : UInt8 → UInt8) (L : List UInt8) (a n k : Nat) : (midOf f L a n k).length = L.length := by simp [midOf]
theorem midOf_get (f : UInt8 → UInt8) (L : List UInt8) (a n k j : Nat) : (midOf f L a n k)[j]? = L[j]?.map fun x => if j < k ∧ a ≤ j ∧ j < a + n then f x else x := by
  simp [midOf, List.getElem?_mapIdx]
theorem midOf_zero (f : UInt8 → UInt8) (L : List UInt8) (a n : Nat) : midOf f L a n 0 = L := by
  apply List.ext_getElem?
  intro j
  rw [midOf_get]
  cases L[j]? <;> simp
theorem midOf_next (f : UInt8 → UInt8) (L : List UInt8) (a n k : Nat) : (midOf f L a n k)[k]? = L[k]? := by
  rw [midOf_get]
  cases L[k]? <;> simp
theorem midOf_succ (f : UInt8 → UInt8) (L : List UInt8) (a n k : Nat) {x : UInt8} (hx : L[k]? = some x) {y : UInt8} (hy : (if a ≤ k ∧ k < a + n then f x else x) = y) :
    midOf f L a n (k + 1) = (midOf f L a n k).set k y := by
  have hl : k < L.length := (List.getElem?_eq_some_iff.1 hx).1
  apply List.ext_getElem?
  intro j
  rw [midOf_get, List.getElem?_set, midOf_len, midOf_get]
  by_cases hj : k = j
  · subst hj
    rw [if_pos rfl, if_pos hl, hx, ← hy]
    simp only [Option.map_some, Option.some.injEq]
    by_cases h : a ≤ k ∧ k < a + n
    · rw [if_pos ⟨by omega, h⟩, if_pos h]
    · rw [if_neg (fun e => h e.2), if_neg h]
  · rw [if_neg hj]
    congr 1
    funext z
    by_cases h : j < k ∧ a ≤ j ∧ j < a + n
    · rw [if_pos h, if_pos (by omega)]
    · rw [if_neg h, if_neg (by omega)]
theorem midOf_same (f : UInt8 → UInt8) (L : List UInt8) (a n k : Nat) {x : UInt8} (hx : L[k]? = some x) (hy : (if a ≤ k ∧ k < a + n then f x else x) = x) :
    midOf f L a n (k + 1) = midOf f L a n k := by
  rw [midOf_succ f L a n k hx hy]
  apply List.ext_getElem?
  intro j
  rw [List.getElem?_set]
  split
  · rename_i h; subst h
    have hl : k < (midOf f L a n k).length := by rw [midOf_len]; exact (List.getElem?_eq_some_iff.1 hx).1
    rw [if_pos hl, midOf_next, hx]
  · rfl
theorem Ob.Good.each_hows {o : Ob} (h : o.Good) (f : UInt8 → UInt8) (a n : Nat) (fin : Bool) : midOf f o.hows a n o.data.length = (o.each f a n fin).hows := by
  apply List.ext_getElem?
  intro j
  rw [midOf_get]
  by_cases hj : j < o.data.length
  · have h2 : (o.each f a n fin).hows[j]? = (o.each f a n fin).st[j]? := hows_get (o := o.each f a n fin) hj
    rw [h2, each_get hj, hows_get hj]
    congr 1
    funext x
    by_cases h : a ≤ j ∧ j < a + n
    · rw [if_pos ⟨hj, h⟩, if_pos h]
    · rw [if_neg (fun e => h e.2), if_neg h]
  · have e1 : o.hows[j]? = none := List.getElem?_eq_none (by rw [h.hows_len]; omega)
    have e2 : (o.each f a n fin).hows[j]? = none := List.getElem?_eq_none (by
      have : (o.each f a n fin).hows.length ≤ o.data.length := by
        show ((o.each f a n fin).st.take o.data.length).length ≤ _
        simp; omega
      omega)
    rw [e1, e2]; rfl
theorem Ob.Good.each_end {o : Ob} (h : o.Good) (f : UInt8 → UInt8) (a n : Nat) (fin : Bool) :
    (o.each f a n fin).endv = if o.ended then (if fin then ((f (o.st.getD o.data.length 0)).toNat : Int) else o.endv) else 4 := by
  have hst := h.wf.stl
  unfold Ob.endv
  show (if o.ended then (((o.each f a n fin).st.getD o.data.length 0).toNat : Int) else 4) = _
  cases he : o.ended
  · rfl
  · rw [he] at hst
    simp only [Bool.toNat_true] at hst
    simp only [if_true]
    have hx : o.st[o.data.length]? = some (o.st.getD o.data.length 0) := by simp [List.getD, List.getElem?_eq_getElem (show o.data.length < o.st.length by omega)]
    have h1 : (mapAt f o.st (min a o.data.length) (min n (o.data.length - min a o.data.length)))[o.data.length]? = o.st[o.data.length]? := by
      rw [mapAt_get, hx]
      simp only [Option.map_some]
      rw [if_neg (by omega)]
    cases fin
    · simp only [Ob.each, he, Bool.false_and, Bool.false_eq_true, if_false]
      congr 2
      simp only [List.getD_eq_getElem?_getD]
      rw [h1]
    · simp only [Ob.each, he, Bool.true_and, if_true]
      congr 2
      simp only [List.getD_eq_getElem?_getD]
      rw [mapAt_get, h1]
      rw [List.getElem?_eq_getElem (show o.data.length < o.st.length by omega)]
      simp
theorem Ob.Good.each_endc {o : Ob} (h : o.Good) (f : UInt8 → UInt8) (h4 : f 4 = 4) (a n : Nat) (fin : Bool) :
    ∃ c : UInt8, o.endv = (c.toNat : Int) ∧ (o.each f a n fin).endv = ((if fin then f c else c).toNat : Int) := by
  rw [h.each_end]
  unfold Ob.endv
  cases o.ended
  · refine ⟨4, rfl, ?_⟩
    cases fin
    · rfl
    · simp only [Bool.false_eq_true, if_false, if_true, h4]; rfl
  · refine ⟨o.st.getD o.data.length 0, rfl, ?_⟩
    cases fin <;> rfl
theorem rown_slice {w : World} {n : Nat} {H : Value} {L : List UInt8} (hown : w.ownsRow 0 3 1 H n (L.map iv)) : ∃ A cap, H = .slice A n cap ∧ n ≤ cap ∧ cap ≤ 9223372036854775807 := by
  rcases rown_form hown with ⟨h1, h2⟩ | ⟨g, cap, h1, h2, h3, _⟩
  · exact ⟨none, 0, by rw [h1, h2], by omega, by omega⟩
  · exact ⟨_, cap, h1, h2, h3⟩

set_option maxHeartbeats 4000000 in
theorem racked_any (w : World) (r : Nat) (o : Ob) (H : Value) (h : RBox w r o H) (a n : Nat) (fin : Bool) (ha : a ≤ 18446744073709551615) (hn : n ≤ 18446744073709551615) :
    Calls Try.prog 41 #[.pointer (some ⟨r, 0, none⟩), .int .u64 a, .int .u64 n, .bool fin] w fun e w' =>
      e = .returned (.tuple #[]) ∧ RStep w r H (o.each ackOf a n fin) w' := by
  have hsz := h.size
  have hg' := h.good.each ack_low ack_zero a n fin
  have Hg := hide h.good
  have hhl := h.good.hows_len
  have HE := hide (h.good.each_hows ackOf a n fin)
  have HF := hide (h.good.each_end ackOf a n fin)
  have hst := h.good.wf.stl
  go_enter Try.func41, Try.ntmps41
  go_wp2
  go_loopw [8] (fun i wr => ∃ k : Nat, k ≤ o.data.length ∧ i = .int .i64 (k : Int) ∧ Blk wr r 50 #[.int .u64 (o.limit : Int), str o.data, H, .int .i64 o.endv, .bool o.reset] ∧
      wr.ownsRow 0 3 1 H o.data.length ((midOf ackOf o.hows a n k).map iv) ∧ Mod (rfoot r H) w wr) (fun i _ => 70000 - (intOf i).toNat)
  case atStart => exact ⟨0, by omega, rfl, h.blk, by rw [midOf_zero]; exact h.how, Mod.refl _ _⟩
  case round =>
    clear h
    obtain ⟨k, hk, rfl, hb, hown, hmod⟩ := hrel
    have hc2 : wr.cell? ⟨r, 2, none⟩ = some H := hb.cell 2
    have hc3 : wr.cell? ⟨r, 3, none⟩ = some (.int .i64 o.endv) := hb.cell 3
    have hf3 := hb.frozen 3
    by_cases hlt : k < o.data.length
    · obtain ⟨x, hx⟩ : ∃ x, o.hows[k]? = some x := ⟨_, List.getElem?_eq_getElem (by omega)⟩
      rcases rown_form hown with ⟨_, h0⟩ | ⟨g, cap, rfl, h2, h3, h4, h5⟩
      · omega
      obtain ⟨hcell, hfz⟩ := h5 k x (by rw [midOf_next]; exact hx)
      clear h5 hhl hst
      by_cases hin : a ≤ k ∧ k < a + n
      · have hcall : ∀ w' : World, Calls Try.prog 50 #[.int .i64 k, .int .u64 a, .int .u64 n] w' fun e w'' => e = .returned (.bool true) ∧ ∃ n, w'' = w'.drewN n := fun w' => by
          have := rin_any w' k a n (by omega) ha hn
          rw [decide_eq_true hin] at this
          exact this
        have Hcall := hide hcall
        have Hb := hide hb
        have Hown := hide hown
        have Hmod := hide hmod
        clear hcall hb hown hmod
        by_cases hx1 : x = 1
        · subst hx1
          have Hsucc := hide (midOf_succ ackOf o.hows a n k hx (y := 3) (by rw [if_pos hin]; rfl))
          clear hx hin
          go_wp2_with fail
          refine (Hcall.out _).mono ?_
          rintro e w5 ⟨rfl, nq, rfl⟩
          replace hc2 : (wr.drewN nq).cell? ⟨r, 2, none⟩ = some (.slice (some ⟨g, 0, none⟩) o.data.length cap) := hc2
          replace hcell : (wr.drewN nq).cell? ⟨g, k, none⟩ = _ := hcell
          replace hfz : (wr.drewN nq).frozen? ⟨g, k, none⟩ = false := hfz
          have hne : r ≠ g := fun e => own_blk_ne Hown.out Hb.out (by decide) g rfl e.symm
          go_wp2
          go_roundw
          case rel =>
            refine ⟨k + 1, by omega, by go_num, (Hb.out.far (p := ⟨g, k, none⟩) hne _), ?_, ((Hmod.out).drewN nq).setCell (.inl (by simp [rfoot, Value.ownBlock])) _⟩
            rw [Hsucc.out, List.map_set]
            exact ((((Mod.refl [] wr).drewN nq).own Hown.out (by simp)).stored k (iv 3)).1
          case measure => simp [intOf]; omega
        by_cases hx2 : x = 2
        · subst hx2
          have Hsucc := hide (midOf_succ ackOf o.hows a n k hx (y := 3) (by rw [if_pos hin]; rfl))
          clear hx hin
          go_wp2_with fail
          refine (Hcall.out _).mono ?_
          rintro e w5 ⟨rfl, nq, rfl⟩
          replace hc2 : (wr.drewN nq).cell? ⟨r, 2, none⟩ = some (.slice (some ⟨g, 0, none⟩) o.data.length cap) := hc2
          replace hcell : (wr.drewN nq).cell? ⟨g, k, none⟩ = _ := hcell
          replace hfz : (wr.drewN nq).frozen? ⟨g, k, none⟩ = false := hfz
          have hne : r ≠ g := fun e => own_blk_ne Hown.out Hb.out (by decide) g rfl e.symm
          go_wp2
          go_roundw
          case rel =>
            refine ⟨k + 1, by omega, by go_num, (Hb.out.far (p := ⟨g, k, none⟩) hne _), ?_, ((Hmod.out).drewN nq).setCell (.inl (by simp [rfoot, Value.ownBlock])) _⟩
            rw [Hsucc.out, List.map_set]
            exact ((((Mod.refl [] wr).drewN nq).own Hown.out (by simp)).stored k (iv 3)).1
          case measure => simp [intOf]; omega
        have Hsame := hide (midOf_same ackOf o.hows a n k hx (by rw [if_pos hin]; unfold ackOf; simp [hx1, hx2]))
        have q1 : ((x.toNat : Int) == 1) = false := by rw [beq_u8z x 1 1 rfl]; simpa using hx1
        have q2 : ((x.toNat : Int) == 2) = false := by rw [beq_u8z x 2 2 rfl]; simpa using hx2
        clear hx hin hx1 hx2
        go_wp2_with fail
        refine (Hcall.out _).mono ?_
        rintro e w5 ⟨rfl, nq, rfl⟩
        replace hc2 : (wr.drewN nq).cell? ⟨r, 2, none⟩ = some (.slice (some ⟨g, 0, none⟩) o.data.length cap) := hc2
        replace hcell : (wr.drewN nq).cell? ⟨g, k, none⟩ = _ := hcell
        replace hfz : (wr.drewN nq).frozen? ⟨g, k, none⟩ = false := hfz
        go_wp2
        go_roundw
        case rel => exact ⟨k + 1, by omega, by go_num, Hb.out, by rw [Hsame.out]; exact (((Mod.refl [] wr).drewN nq).own Hown.out (by simp)), (Hmod.out).drewN nq⟩
        case measure => simp [intOf]; omega
      · have hcall : ∀ w' : World, Calls Try.prog 50 #[.int .i64 k, .int .u64 a, .int .u64 n] w' fun e w'' => e = .returned (.bool false) ∧ ∃ n, w'' = w'.drewN n := fun w' => by
          have := rin_any w' k a n (by omega) ha hn
          rw [decide_eq_false hin] at this
          exact this
        have Hsame := hide (midOf_same ackOf o.hows a n k hx (by rw [if_neg hin]))
        have Hcall := hide hcall
        have Hb := hide hb
        have Hown := hide hown
        have Hmod := hide hmod
        clear hcall hb hown hmod hx hin
        go_wp2_with fail
        refine (Hcall.out _).mono ?_
        rintro e w5 ⟨rfl, nq, rfl⟩
        replace hc2 : (wr.drewN nq).cell? ⟨r, 2, none⟩ = some (.slice (some ⟨g, 0, none⟩) o.data.length cap) := hc2
        replace hcell : (wr.drewN nq).cell? ⟨g, k, none⟩ = _ := hcell
        replace hfz : (wr.drewN nq).frozen? ⟨g, k, none⟩ = false := hfz
        go_wp2
        go_roundw
        case rel => exact ⟨k + 1, by omega, by go_num, Hb.out, by rw [Hsame.out]; exact (((Mod.refl [] wr).drewN nq).own Hown.out (by simp)), (Hmod.out).drewN nq⟩
        case measure => simp [intOf]; omega
    · obtain rfl : o.data.length = k := by omega
      obtain ⟨A, cap, rfl, h2, h3⟩ := rown_slice hown
      rw [HE.out] at hown
      obtain ⟨c, hc, hc'⟩ := Hg.out.each_endc ackOf rfl a n fin
      have Hend := hide hc'
      have Hown := hide hown
      have Hmod := hide hmod
      have Hb := hide hb
      have Hg' := hide hg'
      rw [hc] at hc3 Hb
      clear hown hmod hb hg' hc' hc HE HF Hg hhl hst
      cases fin
      · go_wp2
        go_end0
        exact ⟨rfl, _, ⟨by rw [Hend.out]; exact Hb.out, Hown.out, Hg'.out⟩, Hmod.out, fun _ hk => .inl hk⟩
      by_cases hx1 : c = 1
      · subst hx1
        go_wp2
        go_end0
        exact ⟨rfl, _, ⟨by rw [Hend.out]; exact Hb.out.set_ 3 _, own_far Hown.out (own_blk_ne Hown.out Hb.out (by decide)) _, Hg'.out⟩, (Hmod.out).setCell (.inl (by simp [rfoot])) _, fun _ hk => .inl hk⟩
      by_cases hx2 : c = 2
      · subst hx2
        go_wp2
        go_end0
        exact ⟨rfl, _, ⟨by rw [Hend.out]; exact Hb.out.set_ 3 _, own_far Hown.out (own_blk_ne Hown.out Hb.out (by decide)) _, Hg'.out⟩, (Hmod.out).setCell (.inl (by simp [rfoot])) _, fun _ hk => .inl hk⟩
      have hsame : ackOf c = c := by unfold ackOf; simp [hx1, hx2]
      have q1 : ((c.toNat : Int) == 1) = false := by rw [beq_u8z c 1 1 rfl]; simpa using hx1
      have q2 : ((c.toNat : Int) == 2) = false := by rw [beq_u8z c 2 2 rfl]; simpa using hx2
      have Hsame := hide hsame
      clear hsame hx1 hx2
      go_wp2
      go_end0
      exact ⟨rfl, _, ⟨by rw [Hend.out]; simp only [if_true]; rw [Hsame.out]; exact Hb.out, Hown.out, Hg'.out⟩, Hmod.out, fun _ hk => .inl hk⟩

set_option maxHeartbeats 4000000 in
theorem rlost_any (w : World) (r : Nat) (o : Ob) (H : Value) (h : RBox w r o H) (a n : Nat) (fin : Bool) (ha : a ≤ 18446744073709551615) (hn : n ≤ 18446744073709551615) :
    Calls Try.prog 42 #[.pointer (some ⟨r, 0, none⟩), .int .u64 a, .int .u64 n, .bool fin] w fun e w' =>
      e = .returned (.tuple #[]) ∧ RStep w r H (o.each loseOf a n fin) w' := by
  have hsz := h.size
  have hg' := h.good.each lose_low lose_zero a n fin
  have Hg := hide h.good
  have hhl := h.good.hows_len
  have HE := hide (h.good.each_hows loseOf a n fin)
  have HF := hide (h.good.each_end loseOf a n fin)
  have hst := h.good.wf.stl
  go_enter Try.func42, Try.ntmps42
  go_wp2
  go_loopw [8] (fun i wr => ∃ k : Nat, k ≤ o.data.length ∧ i = .int .i64 (k : Int) ∧ Blk wr r 50 #[.int .u64 (o.limit : Int), str o.data, H, .int .i64 o.endv, .bool o.reset] ∧
      wr.ownsRow 0 3 1 H o.data.length ((midOf loseOf o.hows a n k).map iv) ∧ Mod (rfoot r H) w wr) (fun i _ => 70000 - (intOf i).toNat)
  case atStart => exact ⟨0, by omega, rfl, h.blk, by rw [midOf_zero]; exact h.how, Mod.refl _ _⟩
  case round =>
    clear h
    obtain ⟨k, hk, rfl, hb, hown, hmod⟩ := hrel
    have hc2 : wr.cell? ⟨r, 2, none⟩ = some H := hb.cell 2
    have hc3 : wr.cell? ⟨r, 3, none⟩ = some (.int .i64 o.endv) := hb.cell 3
    have hf3 := hb.frozen 3
    by_cases hlt : k < o.data.length
    · obtain ⟨x, hx⟩ : ∃ x, o.hows[k]? = some x := ⟨_, List.getElem?_eq_getElem (by omega)⟩
      rcases rown_form hown with ⟨_, h0⟩ | ⟨g, cap, rfl, h2, h3, h4, h5⟩
      · omega
      obtain ⟨hcell, hfz⟩ := h5 k x (by rw [midOf_next]; exact hx)
      clear h5 hhl hst
      by_cases hin : a ≤ k ∧ k < a + n
      · have hcall : ∀ w' : World, Calls Try.prog 50 #[.int .i64 k, .int .u64 a, .int .u64 n] w' fun e w'' => e = .returned (.bool true) ∧ ∃ n, w'' = w'.drewN n := fun w' => by
          have := rin_any w' k a n (by omega) ha hn
          rw [decide_eq_true hin] at this
          exact this
        have Hcall := hide hcall
        have Hb := hide hb
        have Hown := hide hown
        have Hmod := hide hmod
        clear hcall hb hown hmod
        by_cases hx1 : x = 1
        · subst hx1
          have Hsucc := hide (midOf_succ loseOf o.hows a n k hx (y := 2) (by rw [if_pos hin]; rfl))
          clear hx hin
          go_wp2_with fail
          refine (Hcall.out _).mono ?_
          rintro e w5 ⟨rfl, nq, rfl⟩
          replace hc2 : (wr.drewN nq).cell? ⟨r, 2, none⟩ = some (.slice (some ⟨g, 0, none⟩) o.data.length cap) := hc2
          replace hcell : (wr.drewN nq).cell? ⟨g, k, none⟩ = _ := hcell
          replace hfz : (wr.drewN nq).frozen? ⟨g, k, none⟩ = false := hfz
          have hne : r ≠ g := fun e => own_blk_ne Hown.out Hb.out (by decide) g rfl e.symm
          go_wp2
          go_roundw
          case rel =>
            refine ⟨k + 1, by omega, by go_num, (Hb.out.far (p := ⟨g, k, none⟩) hne _), ?_, ((Hmod.out).drewN nq).setCell (.inl (by simp [rfoot, Value.ownBlock])) _⟩
            rw [Hsucc.out, List.map_set]
            exact ((((Mod.refl [] wr).drewN nq).own Hown.out (by simp)).stored k (iv 2)).1
          case measure => simp [intOf]; omega
        have Hsame := hide (midOf_same loseOf o.hows a n k hx (by rw [if_pos hin]; unfold loseOf; simp [hx1]))
        have q1 : ((x.toNat : Int) == 1) = false := by rw [beq_u8z x 1 1 rfl]; simpa using hx1
        clear hx hin hx1
        go_wp2_with fail
        refine (Hcall.out _).mono ?_
        rintro e w5 ⟨rfl, nq, rfl⟩
        replace hc2 : (wr.drewN nq).cell? ⟨r, 2, none⟩ = some (.slice (some ⟨g, 0, none⟩) o.data.length cap) := hc2
        replace hcell : (wr.drewN nq).cell? ⟨g, k, none⟩ = _ := hcell
        replace hfz : (wr.drewN nq).frozen? ⟨g, k, none⟩ = false := hfz
        go_wp2
        go_roundw
        case rel => exact ⟨k + 1, by omega, by go_num, Hb.out, by rw [Hsame.out]; exact (((Mod.refl [] wr).drewN nq).own Hown.out (by simp)), (Hmod.out).drewN nq⟩
        case measure => simp [intOf]; omega
      · have hcall : ∀ w' : World, Calls Try.prog 50 #[.int .i64 k, .int .u64 a, .int .u64 n] w' fun e w'' => e = .returned (.bool false) ∧ ∃ n, w'' = w'.drewN n := fun w' => by
          have := rin_any w' k a n (by omega) ha hn
          rw [decide_eq_false hin] at this
          exact this
        have Hsame := hide (midOf_same loseOf o.hows a n k hx (by rw [if_neg hin]))
        have Hcall := hide hcall
        have Hb := hide hb
        have Hown := hide hown
        have Hmod := hide hmod
        clear hcall hb hown hmod hx hin
        go_wp2_with fail
        refine (Hcall.out _).mono ?_
        rintro e w5 ⟨rfl, nq, rfl⟩
        replace hc2 : (wr.drewN nq).cell? ⟨r, 2, none⟩ = some (.slice (some ⟨g, 0, none⟩) o.data.length cap) := hc2
        replace hcell : (wr.drewN nq).cell? ⟨g, k, none⟩ = _ := hcell
        replace hfz : (wr.drewN nq).frozen? ⟨g, k, none⟩ = false := hfz
        go_wp2
        go_roundw
        case rel => exact ⟨k + 1, by omega, by go_num, Hb.out, by rw [Hsame.out]; exact (((Mod.refl [] wr).drewN nq).own Hown.out (by simp)), (Hmod.out).drewN nq⟩
        case measure => simp [intOf]; omega
    · obtain rfl : o.data.length = k := by omega
      obtain ⟨A, cap, rfl, h2, h3⟩ := rown_slice hown
      rw [HE.out] at hown
      obtain ⟨c, hc, hc'⟩ := Hg.out.each_endc loseOf rfl a n fin
      have Hend := hide hc'
      have Hown := hide hown
      have Hmod := hide hmod
      have Hb := hide hb
      have Hg' := hide hg'
      rw [hc] at hc3 Hb
      clear hown hmod hb hg' hc' hc HE HF Hg hhl hst
      cases fin
      · go_wp2
        go_end0
        exact ⟨rfl, _, ⟨by rw [Hend.out]; exact Hb.out, Hown.out, Hg'.out⟩, Hmod.out, fun _ hk => .inl hk⟩
      by_cases hx1 : c = 1
      · subst hx1
        go_wp2
        go_end0
        exact ⟨rfl, _, ⟨by rw [Hend.out]; exact Hb.out.set_ 3 _, own_far Hown.out (own_blk_ne Hown.out Hb.out (by decide)) _, Hg'.out⟩, (Hmod.out).setCell (.inl (by simp [rfoot])) _, fun _ hk => .inl hk⟩
      have hsame : loseOf c = c := by unfold loseOf; simp [hx1]
      have q1 : ((c.toNat : Int) == 1) = false := by rw [beq_u8z c 1 1 rfl]; simpa using hx1
      have Hsame := hide hsame
      clear hsame hx1
      go_wp2
      go_end0
      exact ⟨rfl, _, ⟨by rw [Hend.out]; simp only [if_true]; rw [Hsame.out]; exact Hb.out, Hown.out, Hg'.out⟩, Hmod.out, fun _ hk => .inl hk⟩
end Go.Proofs.Ytnkhdipbljfohaa
