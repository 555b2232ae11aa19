/-
  outbox: each, Acked, Lost.
-/
import Derived.Test.YtnkhdipbljfohaaObDone
namespace Go.Proofs.Ytnkhdipbljfohaa
open Go.RowKit

theorem setCell_same {w : World} {g j : Nat} {u : Value} {t : TypeId} {cs : Array Value} (h : Blk w g t cs) (hu : cs[j]? = some u) : w.setCell ⟨g, j, none⟩ u = w := by
  have h1 : cs.setIfInBounds j u = cs := by
    apply Array.ext_getElem?
    intro i
    rw [Array.getElem?_setIfInBounds]
    split
    · rename_i hij
      subst hij
      rw [hu]
      simp [(Array.getElem?_eq_some_iff.1 hu).1]
    · rfl
  have h2 := h.set_ j u
  rw [h1] at h2
  have e : (w.setCell ⟨g, j, none⟩ u).heap = w.heap := by
    apply Array.ext_getElem?
    intro i
    by_cases hi : i = g
    · subst hi; exact h2.trans h.symm
    · exact Below.heap_setCell w ⟨g, j, none⟩ u i hi
  show { w with heap := (w.setCell ⟨g, j, none⟩ u).heap } = w
  rw [e]

/-- A byte's state is written. -/
theorem OBox.setSt {w : World} {b : Nat} {o : Ob} {dv : Value} {g L cap : Nat} (h : OBox w b o dv (.slice (some ⟨g, 0, none⟩) L cap)) (hL : L = o.st.length) (j : Nat) (c : UInt8) (hc : c < 4) :
    OBox (w.setCell ⟨g, j, none⟩ (cv c)) b { o with st := o.st.set j c } dv (.slice (some ⟨g, 0, none⟩) L cap) := by
  subst hL
  have hne : b ≠ g := fun e => own_blk_ne h.sta h.blk (by decide) g rfl e.symm
  have h2 := (h.sta.stored j (cv c)).1
  refine ⟨h.blk.far (p := ⟨g, j, none⟩) hne _, own_far h.dat (fun k hk e => h.dis k hk (by rw [e]; rfl)) _, ?_, h.dis, ⟨h.wf.lim, h.wf.size, by simpa using h.wf.stl, h.wf.sent, ?_⟩⟩
  · simpa [List.map_set] using h2
  · intro x hx
    rcases List.mem_or_eq_of_mem_set hx with h3 | h3
    · exact h.wf.low x h3
    · rw [h3]; exact hc

theorem mapAt_out (f : UInt8 → UInt8) (st : List UInt8) (i n : Nat) (h : st.length ≤ i) : mapAt f st i n = st := by
  apply List.ext_getElem?
  intro j
  rw [mapAt_get]
  cases hx : st[j]? with
  | none => rfl
  | some x =>
    have := (List.getElem?_eq_some_iff.1 hx).1
    simp; intro _ _; omega

set_option maxHeartbeats 1000000 in
theorem lose_call (w : World) (g j : Nat) (c : UInt8) (t : TypeId) (cs : Array Value) (hb : Blk w g t cs) (hc : cs[j]? = some (cv c)) :
    Calls Try.prog 33 #[.pointer (some ⟨g, j, none⟩)] w fun e w' => e = .returned (.tuple #[]) ∧ w' = w.setCell ⟨g, j, none⟩ (cv (loseOf c)) := by
  have hcell : w.cell? ⟨g, j, none⟩ = some (.int .u8 c.toNat) := (hb.cell j).trans hc
  have hf := hb.frozen j
  by_cases h1 : c = 1
  · subst h1
    go_enter Try.func33, Try.ntmps33
    go_wp2
    go_end0
    exact ⟨rfl, rfl⟩
  · have hs : Hid (w = w.setCell ⟨g, j, none⟩ (cv (loseOf c))) := hide (by rw [show loseOf c = c from if_neg h1, setCell_same hb hc])
    have e1 : ((c.toNat : Int) == 1) = false := (beq_u8 c 1).trans (by simpa using h1)
    go_enter Try.func33, Try.ntmps33
    go_wp2
    go_end0
    exact ⟨rfl, hs.out⟩

set_option maxHeartbeats 1000000 in
theorem ack_call (w : World) (g j : Nat) (c : UInt8) (t : TypeId) (cs : Array Value) (hb : Blk w g t cs) (hc : cs[j]? = some (cv c)) :
    Calls Try.prog 36 #[.pointer (some ⟨g, j, none⟩)] w fun e w' => e = .returned (.tuple #[]) ∧ w' = w.setCell ⟨g, j, none⟩ (cv (ackOf c)) := by
  have hcell : w.cell? ⟨g, j, none⟩ = some (.int .u8 c.toNat) := (hb.cell j).trans hc
  have hf := hb.frozen j
  by_cases h1 : c = 1
  · subst h1
    go_enter Try.func36, Try.ntmps36
    go_wp2
    go_end0
    exact ⟨rfl, rfl⟩
  · by_cases h2 : c = 2
    · subst h2
      go_enter Try.func36, Try.ntmps36
      go_wp2
      go_end0
      exact ⟨rfl, rfl⟩
    · have hs : Hid (w = w.setCell ⟨g, j, none⟩ (cv (ackOf c))) := hide (by rw [show ackOf c = c from if_neg (by simp [h1, h2]), setCell_same hb hc])
      have e1 : ((c.toNat : Int) == 1) = false := (beq_u8 c 1).trans (by simpa using h1)
      have e2 : ((c.toNat : Int) == 2) = false := (beq_u8 c 2).trans (by simpa using h2)
      go_enter Try.func36, Try.ntmps36
      go_wp2
      go_end0
      exact ⟨rfl, hs.out⟩

set_option maxHeartbeats 2000000 in
theorem each_lose (w : World) (b : Nat) (o : Ob) (dv sv : Value) (h : OBox w b o dv sv) (a n : Nat) (fin : Bool) (_ha : a ≤ 18446744073709551615) (hn : n ≤ 18446744073709551615) :
    Calls Try.prog 32 #[.pointer (some ⟨b, 0, none⟩), .int .u64 a, .int .u64 n, .bool fin, .func (.func 33) #[] #[]] w fun e w' =>
      e = .returned (.tuple #[]) ∧ OStep w b dv sv (o.each loseOf a n fin) w' := by
  have hc1 := h.c1
  have hc4 := h.c4
  have hs := h.wf.size
  have hst := h.wf.stl
  have hst2 : o.data.length ≤ o.st.length := by omega
  obtain ⟨A, c, rfl, hcl, hcm⟩ := h.dv_form
  obtain ⟨lo, hlo⟩ : ∃ lo, lo = min a o.data.length := ⟨_, rfl⟩
  obtain ⟨m, hm⟩ : ∃ m, m = min n (o.data.length - lo) := ⟨_, rfl⟩
  have hE : Hid (o.each loseOf a n fin = { o with st := if fin && o.ended then mapAt loseOf (mapAt loseOf o.st lo m) o.data.length 1 else mapAt loseOf o.st lo m }) := hide (by rw [hm, hlo]; rfl)
  have i1 : min (a : Int) o.data.length = lo := by omega
  have i2 : min (n : Int) ((o.data.length : Int) - lo) = m := by omega
  have i3 : lo ≤ o.data.length := by omega
  have i4 : lo + m ≤ o.data.length := by omega
  clear hlo hm
  have Hst := hide hst
  clear hst
  go_enter Try.func32, Try.ntmps32
  go_wp2
  clear i1 i2
  go_loopw [13] (fun k wr => ∃ j : Nat, j ≤ m ∧ k = .int .u64 ((lo + j : Nat) : Int) ∧ OBox wr b { o with st := mapAt loseOf o.st lo j } (.slice A o.data.length c) sv ∧ Mod (ofoot b (.slice A o.data.length c) sv) w wr)
    (fun k _ => 70000 - (intOf k).toNat)
  case atStart => exact ⟨0, by omega, rfl, by rw [mapAt_zero]; exact h, Mod.refl _ _⟩
  case round =>
    obtain ⟨j, hj, rfl, hbox, hmod⟩ := hrel
    clear hc1 hc4
    have hc2 := hbox.c2
    have hc4 := hbox.c4
    simp only at hc4
    by_cases hlt : j < m
    · have hsl : (mapAt loseOf o.st lo j).length = o.st.length := mapAt_length _ _ _ _
      obtain ⟨g, cap, rfl, h1, h2, h3, hcell⟩ := own_at hbox.sta (by simp only [hsl]; omega)
      simp only [hsl] at hc2 h1 hcell hbox
      obtain ⟨x, hx⟩ : ∃ x, o.st[lo + j]? = some x := ⟨_, List.getElem?_eq_getElem (by omega)⟩
      have hx' : (mapAt loseOf o.st lo j)[lo + j]? = some x := (mapAt_next _ _ _ _).trans hx
      have hx4 : x < 4 := h.wf.low x (List.mem_iff_getElem?.2 ⟨_, hx⟩)
      have hcl2 : wr.cell? ⟨g, lo + j, none⟩ = some (cv x) := (hcell _ _ hx').1
      have hB : ∃ t cs, Blk wr g t cs ∧ cs[lo + j]? = some (cv x) := by
        obtain ⟨cur, hg, _⟩ := own_block hbox.sta
        exact ⟨_, _, hg, by rw [← Blk.cell hg]; exact hcl2⟩
      obtain ⟨t, cs, hblk, hcs⟩ := hB
      have Hnext := hide (hbox.setSt (o := { o with st := mapAt loseOf o.st lo j }) (cap := cap) hsl.symm (lo + j) (loseOf x) (lose_low x hx4))
      clear hcell hbox hx' hcl2
      have Hx := hide hx
      clear hx
      have Hmod := hide hmod
      clear hmod h
      clear hsl
      go_wp2_with (go_at_call 33; refine (lose_call _ g (lo + j) x t cs hblk hcs).mono ?_; rintro e w' ⟨rfl, rfl⟩)
      go_roundw
      case rel =>
        refine ⟨j + 1, by omega, by go_num, ?_, ?_⟩
        · have := Hnext.out
          rw [mapAt_succ _ _ _ _ Hx.out]
          rw [mapAt_length]
          exact this
        · exact (Hmod.out).setCell (.inl (by simp [ofoot, Value.ownBlock])) _
      case measure => simp [intOf]; omega
    · obtain rfl : j = m := by omega
      cases hf : (fin && o.ended)
      · have hE2 : Hid (o.each loseOf a n fin = { o with st := mapAt loseOf o.st lo j }) := hide (by rw [hE.out, hf]; rfl)
        have Hmod := hide hmod
        have Hbox := hide hbox
        clear hmod hbox h
        rcases Bool.and_eq_false_iff.1 hf with rfl | hf2
        · clear hf
          go_wp2
          go_end0
          exact ⟨rfl, _, _, by rw [hE2.out]; exact Hbox.out, Hmod.out, fun _ hk => .inl hk⟩
        · rw [hf2] at hc4
          clear hf hf2
          cases fin
          all_goals
            go_wp2
            go_end0
            exact ⟨rfl, _, _, by rw [hE2.out]; exact Hbox.out, Hmod.out, fun _ hk => .inl hk⟩
      · obtain ⟨rfl, hen⟩ := Bool.and_eq_true_iff.1 hf
        rw [hen] at hc4
        have hst3 := Hst.out
        rw [hen] at hst3
        simp only [Bool.toNat_true] at hst3
        have hsl : (mapAt loseOf o.st lo j).length = o.st.length := mapAt_length _ _ _ _
        obtain ⟨g, cap, rfl, h1, h2, h3, hcell⟩ := own_at hbox.sta (by simp only [hsl]; omega)
        simp only [hsl] at hc2 h1 hcell hbox
        obtain ⟨x, hx⟩ : ∃ x, (mapAt loseOf o.st lo j)[o.data.length]? = some x := ⟨_, List.getElem?_eq_getElem (by omega)⟩
        have hx4 : x < 4 := hbox.wf.low x (List.mem_iff_getElem?.2 ⟨_, hx⟩)
        have hcl2 : wr.cell? ⟨g, o.data.length, none⟩ = some (cv x) := (hcell _ _ hx).1
        have hB : ∃ t cs, Blk wr g t cs ∧ cs[o.data.length]? = some (cv x) := by
          obtain ⟨cur, hg, _⟩ := own_block hbox.sta
          exact ⟨_, _, hg, by rw [← Blk.cell hg]; exact hcl2⟩
        obtain ⟨t, cs, hblk, hcs⟩ := hB
        have hE2 : Hid (o.each loseOf a n true = { o with st := (mapAt loseOf o.st lo j).set o.data.length (loseOf x) }) := hide (by
          rw [hE.out, hf, if_pos rfl]
          congr 1
          have := mapAt_succ loseOf (mapAt loseOf o.st lo j) o.data.length 0 hx
          rw [this, mapAt_zero]; rfl)
        have Hnext := hide (hbox.setSt (o := { o with st := mapAt loseOf o.st lo j }) (cap := cap) hsl.symm o.data.length (loseOf x) (lose_low x hx4))
        have Hmod := hide hmod
        have hb1 : o.data.length < o.st.length := by omega
        clear hcell hbox hcl2 hmod h hx hsl hst3 hen hf hE
        go_wp2_with (go_at_call 33; refine (lose_call _ g o.data.length x t cs hblk hcs).mono ?_; rintro e w' ⟨rfl, rfl⟩)
        go_end0
        refine ⟨rfl, _, _, ?_, (Hmod.out).setCell (.inl (by simp [ofoot, Value.ownBlock])) _, fun _ hk => .inl hk⟩
        rw [hE2.out]
        rw [mapAt_length]
        exact Hnext.out

set_option maxHeartbeats 1000000 in
theorem lost_any (w : World) (b : Nat) (o : Ob) (dv sv : Value) (h : OBox w b o dv sv) (a n : Nat) (fin : Bool) (ha : a ≤ 18446744073709551615) (hn : n ≤ 18446744073709551615) :
    Calls Try.prog 18 #[.pointer (some ⟨b, 0, none⟩), .int .u64 a, .int .u64 n, .bool fin] w fun e w' =>
      e = .returned (.tuple #[]) ∧ OStep w b dv sv (o.each loseOf a n fin) w' := by
  go_enter Try.func18, Try.ntmps18
  go_wp2_with (go_at_call 32; refine (each_lose w b o dv sv h a n fin ha hn).mono ?_; rintro e w' ⟨rfl, hstep⟩)
  go_end0
  exact ⟨rfl, hstep⟩

set_option maxHeartbeats 2000000 in
theorem each_ack (w : World) (b : Nat) (o : Ob) (dv sv : Value) (h : OBox w b o dv sv) (a n : Nat) (fin : Bool) (_ha : a ≤ 18446744073709551615) (hn : n ≤ 18446744073709551615) :
    Calls Try.prog 32 #[.pointer (some ⟨b, 0, none⟩), .int .u64 a, .int .u64 n, .bool fin, .func (.func 36) #[] #[]] w fun e w' =>
      e = .returned (.tuple #[]) ∧ OStep w b dv sv (o.each ackOf a n fin) w' := by
  have hc1 := h.c1
  have hc4 := h.c4
  have hs := h.wf.size
  have hst := h.wf.stl
  have hst2 : o.data.length ≤ o.st.length := by omega
  obtain ⟨A, c, rfl, hcl, hcm⟩ := h.dv_form
  obtain ⟨lo, hlo⟩ : ∃ lo, lo = min a o.data.length := ⟨_, rfl⟩
  obtain ⟨m, hm⟩ : ∃ m, m = min n (o.data.length - lo) := ⟨_, rfl⟩
  have hE : Hid (o.each ackOf a n fin = { o with st := if fin && o.ended then mapAt ackOf (mapAt ackOf o.st lo m) o.data.length 1 else mapAt ackOf o.st lo m }) := hide (by rw [hm, hlo]; rfl)
  have i1 : min (a : Int) o.data.length = lo := by omega
  have i2 : min (n : Int) ((o.data.length : Int) - lo) = m := by omega
  have i3 : lo ≤ o.data.length := by omega
  have i4 : lo + m ≤ o.data.length := by omega
  clear hlo hm
  have Hst := hide hst
  clear hst
  go_enter Try.func32, Try.ntmps32
  go_wp2
  clear i1 i2
  go_loopw [13] (fun k wr => ∃ j : Nat, j ≤ m ∧ k = .int .u64 ((lo + j : Nat) : Int) ∧ OBox wr b { o with st := mapAt ackOf o.st lo j } (.slice A o.data.length c) sv ∧ Mod (ofoot b (.slice A o.data.length c) sv) w wr)
    (fun k _ => 70000 - (intOf k).toNat)
  case atStart => exact ⟨0, by omega, rfl, by rw [mapAt_zero]; exact h, Mod.refl _ _⟩
  case round =>
    obtain ⟨j, hj, rfl, hbox, hmod⟩ := hrel
    clear hc1 hc4
    have hc2 := hbox.c2
    have hc4 := hbox.c4
    simp only at hc4
    by_cases hlt : j < m
    · have hsl : (mapAt ackOf o.st lo j).length = o.st.length := mapAt_length _ _ _ _
      obtain ⟨g, cap, rfl, h1, h2, h3, hcell⟩ := own_at hbox.sta (by simp only [hsl]; omega)
      simp only [hsl] at hc2 h1 hcell hbox
      obtain ⟨x, hx⟩ : ∃ x, o.st[lo + j]? = some x := ⟨_, List.getElem?_eq_getElem (by omega)⟩
      have hx' : (mapAt ackOf o.st lo j)[lo + j]? = some x := (mapAt_next _ _ _ _).trans hx
      have hx4 : x < 4 := h.wf.low x (List.mem_iff_getElem?.2 ⟨_, hx⟩)
      have hcl2 : wr.cell? ⟨g, lo + j, none⟩ = some (cv x) := (hcell _ _ hx').1
      have hB : ∃ t cs, Blk wr g t cs ∧ cs[lo + j]? = some (cv x) := by
        obtain ⟨cur, hg, _⟩ := own_block hbox.sta
        exact ⟨_, _, hg, by rw [← Blk.cell hg]; exact hcl2⟩
      obtain ⟨t, cs, hblk, hcs⟩ := hB
      have Hnext := hide (hbox.setSt (o := { o with st := mapAt ackOf o.st lo j }) (cap := cap) hsl.symm (lo + j) (ackOf x) (ack_low x hx4))
      clear hcell hbox hx' hcl2
      have Hx := hide hx
      clear hx
      have Hmod := hide hmod
      clear hmod h
      clear hsl
      go_wp2_with (go_at_call 36; refine (ack_call _ g (lo + j) x t cs hblk hcs).mono ?_; rintro e w' ⟨rfl, rfl⟩)
      go_roundw
      case rel =>
        refine ⟨j + 1, by omega, by go_num, ?_, ?_⟩
        · have := Hnext.out
          rw [mapAt_succ _ _ _ _ Hx.out]
          rw [mapAt_length]
          exact this
        · exact (Hmod.out).setCell (.inl (by simp [ofoot, Value.ownBlock])) _
      case measure => simp [intOf]; omega
    · obtain rfl : j = m := by omega
      cases hf : (fin && o.ended)
      · have hE2 : Hid (o.each ackOf a n fin = { o with st := mapAt ackOf o.st lo j }) := hide (by rw [hE.out, hf]; rfl)
        have Hmod := hide hmod
        have Hbox := hide hbox
        clear hmod hbox h
        rcases Bool.and_eq_false_iff.1 hf with rfl | hf2
        · clear hf
          go_wp2
          go_end0
          exact ⟨rfl, _, _, by rw [hE2.out]; exact Hbox.out, Hmod.out, fun _ hk => .inl hk⟩
        · rw [hf2] at hc4
          clear hf hf2
          cases fin
          all_goals
            go_wp2
            go_end0
            exact ⟨rfl, _, _, by rw [hE2.out]; exact Hbox.out, Hmod.out, fun _ hk => .inl hk⟩
      · obtain ⟨rfl, hen⟩ := Bool.and_eq_true_iff.1 hf
        rw [hen] at hc4
        have hst3 := Hst.out
        rw [hen] at hst3
        simp only [Bool.toNat_true] at hst3
        have hsl : (mapAt ackOf o.st lo j).length = o.st.length := mapAt_length _ _ _ _
        obtain ⟨g, cap, rfl, h1, h2, h3, hcell⟩ := own_at hbox.sta (by simp only [hsl]; omega)
        simp only [hsl] at hc2 h1 hcell hbox
        obtain ⟨x, hx⟩ : ∃ x, (mapAt ackOf o.st lo j)[o.data.length]? = some x := ⟨_, List.getElem?_eq_getElem (by omega)⟩
        have hx4 : x < 4 := hbox.wf.low x (List.mem_iff_getElem?.2 ⟨_, hx⟩)
        have hcl2 : wr.cell? ⟨g, o.data.length, none⟩ = some (cv x) := (hcell _ _ hx).1
        have hB : ∃ t cs, Blk wr g t cs ∧ cs[o.data.length]? = some (cv x) := by
          obtain ⟨cur, hg, _⟩ := own_block hbox.sta
          exact ⟨_, _, hg, by rw [← Blk.cell hg]; exact hcl2⟩
        obtain ⟨t, cs, hblk, hcs⟩ := hB
        have hE2 : Hid (o.each ackOf a n true = { o with st := (mapAt ackOf o.st lo j).set o.data.length (ackOf x) }) := hide (by
          rw [hE.out, hf, if_pos rfl]
          congr 1
          have := mapAt_succ ackOf (mapAt ackOf o.st lo j) o.data.length 0 hx
          rw [this, mapAt_zero]; rfl)
        have Hnext := hide (hbox.setSt (o := { o with st := mapAt ackOf o.st lo j }) (cap := cap) hsl.symm o.data.length (ackOf x) (ack_low x hx4))
        have Hmod := hide hmod
        have hb1 : o.data.length < o.st.length := by omega
        clear hcell hbox hcl2 hmod h hx hsl hst3 hen hf hE
        go_wp2_with (go_at_call 36; refine (ack_call _ g o.data.length x t cs hblk hcs).mono ?_; rintro e w' ⟨rfl, rfl⟩)
        go_end0
        refine ⟨rfl, _, _, ?_, (Hmod.out).setCell (.inl (by simp [ofoot, Value.ownBlock])) _, fun _ hk => .inl hk⟩
        rw [hE2.out]
        rw [mapAt_length]
        exact Hnext.out

set_option maxHeartbeats 1000000 in
theorem acked_any (w : World) (b : Nat) (o : Ob) (dv sv : Value) (h : OBox w b o dv sv) (a n : Nat) (fin : Bool) (ha : a ≤ 18446744073709551615) (hn : n ≤ 18446744073709551615) :
    Calls Try.prog 21 #[.pointer (some ⟨b, 0, none⟩), .int .u64 a, .int .u64 n, .bool fin] w fun e w' =>
      e = .returned (.tuple #[]) ∧ OStep w b dv sv (o.each ackOf a n fin) w' := by
  go_enter Try.func21, Try.ntmps21
  go_wp2_with (go_at_call 32; refine (each_ack w b o dv sv h a n fin ha hn).mono ?_; rintro e w' ⟨rfl, hstep⟩)
  go_end0
  exact ⟨rfl, hstep⟩
end Go.Proofs.Ytnkhdipbljfohaa
