/-
  outbox: Next.
-/
import Derived.Test.YtnkhdipbljfohaaObEach
namespace Go.Proofs.Ytnkhdipbljfohaa
open Go.RowKit

def str (l : List UInt8) : Value := .string ⟨l.toArray⟩

theorem waits_is (w : World) (b : Nat) (o : Ob) (dv sv : Value) (h : OBox w b o dv sv) (v : Bool) (hv : o.waits = v) :
    Calls Try.prog 35 #[.pointer (some ⟨b, 0, none⟩)] w fun e w' => e = .returned (.bool v) ∧ ∃ n, w' = w.drewN n := by
  rw [← hv]; exact waits_any w b o dv sv h

theorem conv_at (w : World) (g : Nat) (xs : List UInt8) (hc : ∀ j x, xs[j]? = some x → w.cell? ⟨g, j, none⟩ = some (cv x)) (i n c : Nat) (h : i + n ≤ xs.length) :
    (convert 52 9 (.slice (some ⟨g, i, none⟩) n c)).run Try.prog w = .ok (str ((xs.drop i).take n)) w := by
  have hl : ((xs.drop i).take n).length = n := by simp; omega
  have := run_convert_bytes_arg (P := Try.prog) w 52 5 Try.underlying52 Try.underlying5 g i n c (((xs.drop i).take n).map fun x => (x.toNat : Int)) (by simpa using hl) (fun j hj => by
    obtain ⟨x, hx⟩ : ∃ x, xs[i + j]? = some x := ⟨_, List.getElem?_eq_getElem (by omega)⟩
    rw [hc _ x hx]
    have h2 : ((xs.drop i).take n)[j]? = some x := by rw [List.getElem?_take, if_pos hj, List.getElem?_drop]; exact hx
    have h3 : (((xs.drop i).take n).map fun x => (x.toNat : Int))[j]? = some (x.toNat : Int) := by rw [List.getElem?_map, h2]; rfl
    rw [List.getD_eq_getElem?_getD, h3]; rfl) 9 Try.underlying9
  rw [this]
  congr 2
  simp [strOfNums, Function.comp_def]

theorem conv_none (w : World) (a : Option Addr) (c : Nat) : (convert 52 9 (.slice a 0 c)).run Try.prog w = .ok (str []) w := by
  rcases a with _ | a
  · exact run_convert_bytes_nil (P := Try.prog) w 52 5 Try.underlying52 Try.underlying5 0 c 9 Try.underlying9
  · rw [run_convert_bytes_string (P := Try.prog) w 52 9 5 _ 0 c Try.underlying52 Try.underlying5 Try.underlying9]
    have := run_bytesToString (P := Try.prog) w a 0 c [] (by simp [loadCells, loadCellsFrom])
    exact this

theorem slice_piece (A : Option Addr) (len c i n : Nat) (s : Int) (hs : s = ((i + n : Nat) : Int)) (h : i + n ≤ c) (X : Value) (hX : X = .slice (if c = i then A else A.map (·.add i)) n (c - i)) :
    ∀ W : World, (Instr.slice 52 (.slice A len c) (some (.int .i64 (i : Int))) (some (.int .i64 s)) none).run Try.prog W = .ok X W := by
  intro W
  subst hX hs
  have := run_slice_lh (P := Try.prog) W 52 A len c Try.underlying52 .i64 .i64 (i : Int) ((i + n : Nat) : Int) (by omega) (by omega) (by omega)
  rw [this]
  obtain ⟨i0, hi, hz0, hz1, hz2⟩ := info_parts (show (Try.prog.info? (Try.prog.elem 52)).map (fun i => (i.zero, i.size, i.bytes)) = some (some (.int .u8 0), 1, 1) by kernel_rfl)
  simp [sizeOf, typeInfo, hi, hz1, sliced]
  omega

def Told.val (t : Told) : Value := .tuple #[.int .u64 (t.at_ : Nat), str t.s, .bool t.fin, .bool t.is_]

set_option maxHeartbeats 2000000 in
theorem next_any (w : World) (b : Nat) (o : Ob) (dv sv : Value) (h : OBox w b o dv sv) (most : Int) (hm1 : -9223372036854775808 ≤ most) (hm2 : most ≤ 9223372036854775807) :
    Calls Try.prog 20 #[.pointer (some ⟨b, 0, none⟩), .int .i64 most] w fun e w' =>
      e = .returned (o.nextTold most).val ∧ OStep w b dv sv (o.next most) w' := by
  have hc5 := h.c5
  cases hr : o.reset
  · rw [hr] at hc5
    have hf := h.wf.first
    have hs := h.wf.size
    obtain ⟨i, hi⟩ : ∃ i, i = o.first.1 := ⟨_, rfl⟩
    obtain ⟨m, hm⟩ : ∃ m, m = o.first.2 := ⟨_, rfl⟩
    obtain ⟨n, hn⟩ : ∃ n, n = o.much most := ⟨_, rfl⟩
    rw [← hi, ← hm] at hf
    have hn0 : (n : Int) = min (m : Int) (max most 0) := by rw [hn]; unfold Ob.much; rw [← hm]; omega
    have hfirst := first_any w b o dv sv h
    rw [← hi, ← hm] at hfirst
    have Hfirst := hide hfirst
    clear hfirst
    have hcase : (0 < m ∧ n = 0) ∨ (m = 0 ∧ o.waits = false) ∨ (m = 0 ∧ o.waits = true ∧ o.sent < o.data.length) ∨ (0 < m ∧ 0 < n) ∨ (m = 0 ∧ o.waits = true ∧ ¬ o.sent < o.data.length) := by
      rcases Nat.eq_zero_or_pos m with h0 | h0
      · cases o.waits
        · exact .inr (.inl ⟨h0, rfl⟩)
        · by_cases h1 : o.sent < o.data.length
          · exact .inr (.inr (.inl ⟨h0, rfl, h1⟩))
          · exact .inr (.inr (.inr (.inr ⟨h0, rfl, h1⟩)))
      · rcases Nat.eq_zero_or_pos n with h1 | h1
        · exact .inl ⟨h0, h1⟩
        · exact .inr (.inr (.inr (.inl ⟨h0, h1⟩)))
    have hgoes : o.goes n = !(decide (0 < m) && n == 0 || m == 0 && (!o.waits || decide (o.sent < o.data.length))) := by rw [hm]; rfl
    have hn1 : min (m : Int) (max most 0) = (n : Int) := hn0.symm
    clear hn0
    have hc3 := h.c3
    have hc1 := h.c1
    have hsent := h.wf.sent
    obtain ⟨A, c, rfl, hdc, hcm⟩ := h.dv_form
    rcases hcase with ⟨h1, h2⟩ | ⟨h1, h2⟩ | ⟨h1, h2, h3⟩ | hgo
    · have H : Hid ((o.nextTold most) = ⟨0, [], false, false⟩ ∧ o.next most = o) := hide (by
        have hg : o.goes n = false := by rw [hgoes]; simp [h1, h2]
        unfold Ob.nextTold Ob.next
        rw [← hn, hr, hg]; simp)
      clear hn hgoes hi hm
      subst h2
      go_enter Try.func20, Try.ntmps20
      go_wp2_with (go_at_call 34; refine Hfirst.out.mono ?_; rintro e w' ⟨rfl, nq, rfl⟩)
      go_quiet (fail)
      go_wp2
      refine bodyPost_ret (results_tmp4 rfl _ _ _) rfl ?_
      exact ⟨by rw [H.out.1]; rfl, by rw [H.out.2]; exact OStep.of_mod h (((Mod.refl [] w).drewN _).drewN _)⟩
    · have H : Hid ((o.nextTold most) = ⟨0, [], false, false⟩ ∧ o.next most = o) := hide (by
        have hg : o.goes n = false := by rw [hgoes]; simp [h1, h2]
        unfold Ob.nextTold Ob.next
        rw [← hn, hr, hg]; simp)
      have hn2 : n = 0 := by omega
      clear hn hgoes hi hm
      subst hn2 h1
      have H2 := hide h2
      clear h2
      go_enter Try.func20, Try.ntmps20
      go_wp2_with (go_at_call 34; refine Hfirst.out.mono ?_; rintro e w' ⟨rfl, nq, rfl⟩)
      go_quiet ((go_at_call 35; exact quiet_add (waits_is _ b o _ _ (h.drewN _) _ H2.out)))
      go_wp2
      refine bodyPost_ret (results_tmp4 rfl _ _ _) rfl ?_
      exact ⟨by rw [H.out.1]; rfl, by rw [H.out.2]; exact OStep.of_mod h (((Mod.refl [] w).drewN _).drewN _)⟩
    · have H : Hid ((o.nextTold most) = ⟨0, [], false, false⟩ ∧ o.next most = o) := hide (by
        have hg : o.goes n = false := by rw [hgoes]; simp [h1, h3]
        unfold Ob.nextTold Ob.next
        rw [← hn, hr, hg]; simp)
      have hn2 : n = 0 := by omega
      clear hn hgoes hi hm
      subst hn2 h1
      have H2 := hide h2
      clear h2
      go_enter Try.func20, Try.ntmps20
      go_wp2_with (go_at_call 34; refine Hfirst.out.mono ?_; rintro e w' ⟨rfl, nq, rfl⟩)
      go_quiet ((go_at_call 35; exact quiet_add (waits_is _ b o _ _ (h.drewN _) _ H2.out)))
      go_wp2
      refine bodyPost_ret (results_tmp4 rfl _ _ _) rfl ?_
      exact ⟨by rw [H.out.1]; rfl, by rw [H.out.2]; exact OStep.of_mod h (((Mod.refl [] w).drewN _).drewN _)⟩
    · have H : Hid ((o.nextTold most) = ⟨i, (o.data.drop i).take n, o.takeFin i n, true⟩ ∧ o.next most = o.takeEnd i n) := hide (by
        have hg : o.goes n = true := by
          rw [hgoes]
          rcases hgo with ⟨h1, h2⟩ | ⟨h1, h2, h3⟩
          · have e1 : (n == 0) = false := by simpa using (by omega : ¬ n = 0)
            have e2 : (m == 0) = false := by simpa using (by omega : ¬ m = 0)
            simp [e1, e2]
          · simp [h1, h2, h3]
        unfold Ob.nextTold Ob.next
        rw [← hn, hr, hg, ← hi]; simp)
      have hin : i + n ≤ o.data.length := by omega
      -- the bytes that go, as the walk spells them
      have hconv : ∀ W : World, W.ownsRow 0 5 1 (.slice A o.data.length c) o.data.length (o.data.map cv) →
          Hid (∀ k, (convert 52 9 (.slice (if c = i then A else A.map (·.add i)) n (c - i))).run Try.prog (W.drewN k) = .ok (str ((o.data.drop i).take n)) (W.drewN k)) := fun W hW => hide (fun k => by
        rcases Nat.eq_zero_or_pos n with h0 | h0
        · rw [h0]
          exact conv_none _ _ _
        · obtain ⟨g, cap, hv, h1, h2, h3, hcell⟩ := own_at hW (by omega)
          cases hv
          rw [if_neg (by omega)]
          have := conv_at (W.drewN k) g o.data (fun j x hx => (hcell j x hx).1) i n (c - i) hin
          simpa [Addr.add_lit] using this)
      clear hn hgoes hi hm
      rcases hgo with ⟨h1, h2⟩ | ⟨h1, h2, h3⟩
      · have e0 : ((n : Int) == 0) = false := by simpa using (by omega : ¬ n = 0)
        have hst2 := h.wf.stl
        have hst : o.data.length ≤ o.st.length := by omega
        have Hst := hide hst2
        clear hst2
        go_enter Try.func20, Try.ntmps20
        go_wp2_with fail
        refine Hfirst.out.mono ?_
        rintro e w' ⟨rfl, nq, rfl⟩
        go_wp2_with fail
        go_quiet (fail)
        go_wp2_with fail
        go_loopw [11] (fun k wr => ∃ j : Nat, j ≤ n ∧ k = .int .i64 ((i + j : Nat) : Int) ∧ OBox wr b { o with st := mapAt (fun _ => 1) o.st i j } (.slice A o.data.length c) sv ∧ Mod (ofoot b (.slice A o.data.length c) sv) w wr)
          (fun k _ => 70000 - (intOf k).toNat)
        case atStart => exact ⟨0, by omega, rfl, by rw [mapAt_zero]; exact (h.drewN _).drewN _, ((Mod.refl _ _).drewN _).drewN _⟩
        case round =>
          obtain ⟨j, hj, rfl, hbox, hmod⟩ := hrel
          clear hc1 hc3 hc5
          have hc2 := hbox.c2
          by_cases hlt : j < n
          · have hsl : (mapAt (fun _ => 1) o.st i j).length = o.st.length := mapAt_length _ _ _ _
            obtain ⟨g, cap, rfl, h1, h2, h3, hcell⟩ := own_at hbox.sta (by simp only [hsl]; omega)
            simp only [hsl] at hc2 h1 hcell hbox
            obtain ⟨x, hx⟩ : ∃ x, o.st[i + j]? = some x := ⟨_, List.getElem?_eq_getElem (by omega)⟩
            have hx' : (mapAt (fun _ => 1) o.st i j)[i + j]? = some x := (mapAt_next _ _ _ _).trans hx
            have hcl2 : wr.cell? ⟨g, i + j, none⟩ = some (cv x) := (hcell _ _ hx').1
            have hfz2 : wr.frozen? ⟨g, i + j, none⟩ = false := (hcell _ _ hx').2
            have Hnext := hide (hbox.setSt (o := { o with st := mapAt (fun _ => 1) o.st i j }) (cap := cap) hsl.symm (i + j) 1 (by decide))
            clear hcell hbox hx'
            have Hx := hide hx
            clear hx
            have Hmod := hide hmod
            clear hmod h
            clear hsl
            unfold cv at hcl2
            go_wp2
            go_roundw
            case rel =>
              refine ⟨j + 1, by omega, by go_num, ?_, ?_⟩
              · have := Hnext.out
                rw [mapAt_succ _ _ _ _ Hx.out]
                rw [mapAt_length]
                exact this
              · exact (Hmod.out).setCell (.inl (by simp [ofoot, Value.ownBlock])) _
            case measure => simp [intOf]; omega
          · obtain rfl : n = j := by omega
            have gc3 := hbox.c3
            have gc1 := hbox.c1
            have gf3 := hbox.blk.frozen 3
            simp only at gc1 gc3
            have Hbox := hide hbox
            have Hmod := hide hmod
            have Htk : Hid (OBox (wr.setCell ⟨b, 3, none⟩ (.int .i64 (max (o.sent : Int) ((i : Int) + (n : Int))))) b (o.take i n) (.slice A o.data.length c) sv) := hide (hbox.set 3 _ (by
              have : ((max o.sent (i + n) : Nat) : Int) = max (o.sent : Int) ((i : Int) + (n : Int)) := by omega
              simp only [Ob.take, this]; rfl) rfl rfl (h.wf.take hin))
            clear hbox hmod
            by_cases hend : i + n = o.data.length
            · have e5 : (((i : Int) + (n : Int)) == (o.data.length : Int)) = true := by simpa using (by omega : ((i : Int) + (n : Int)) = (o.data.length : Int))
              have Hmod2 := hide ((Hmod.out).setCell (p := ⟨b, 3, none⟩) (.inl (by simp [ofoot])) (.int .i64 (max (o.sent : Int) ((i : Int) + (n : Int)))))
              cases hwt : (o.take i n).waits
              · have Hwt := hide hwt
                have hF : Hid (o.takeFin i n = false ∧ o.takeEnd i n = o.take i n) := hide (by
                  have : o.takeFin i n = false := by unfold Ob.takeFin; rw [hwt, Bool.and_false]
                  exact ⟨this, by unfold Ob.takeEnd; rw [this]; rfl⟩)
                have Hend := hide hend
                clear h hwt hend
                go_wp2_with fail
                refine (waits_is _ b (o.take i n) _ _ Htk.out _ Hwt.out).mono ?_
                rintro e w' ⟨rfl, nq2, rfl⟩
                generalize hW3 : (wr.setCell ⟨b, 3, none⟩ (.int .i64 (max (o.sent : Int) ((i : Int) + (n : Int))))).drewN nq2 = w3
                have h3 := Htk.out.drewN nq2
                have m3 := Hmod2.out.drewN nq2
                rw [hW3] at h3 m3
                have hcv := (hconv _ h3.dat).out
                have g1 := h3.c1
                have H3 := hide h3
                have M3 := hide m3
                clear hW3 h3 m3 gc1 gc3 gf3
                obtain ⟨X, hX⟩ : ∃ X, X = Value.slice (if c = i then A else A.map (·.add i)) n (c - i) := ⟨_, rfl⟩
                have hsl := slice_piece A o.data.length c i n ((i : Int) + (n : Int)) (by omega) (by omega) X hX
                rw [← hX] at hcv
                clear hX
                go_wp2_with fail
                go_quiet (fail)
                go_wp2
                refine bodyPost_ret (results_tmp4 rfl _ _ _) rfl ?_
                exact ⟨by rw [H.out.1, hF.out.1]; rfl, by rw [H.out.2, hF.out.2]; exact ⟨_, _, H3.out.drewN _, M3.out.drewN _, fun _ hk => .inl hk⟩⟩
              · have Hwt := hide hwt
                have hF : Hid (o.takeFin i n = true ∧ o.takeEnd i n = { o.take i n with st := (o.take i n).st.set o.data.length 1 }) := hide (by
                  have hb : (i + n == o.data.length) = true := by simpa using hend
                  have : o.takeFin i n = true := by unfold Ob.takeFin; rw [hwt, hb]; rfl
                  exact ⟨this, by unfold Ob.takeEnd; rw [this]; rfl⟩)
                have hsln : Hid ((o.take i n).st.length = o.data.length + 1) := hide (by
                  have he : o.ended = true := by
                    unfold Ob.waits at hwt
                    exact (Bool.and_eq_true_iff.1 hwt).1
                  have := Hst.out
                  rw [he] at this
                  simpa [Ob.take, mapAt_length] using this)
                have Hend := hide hend
                clear h hwt hend
                go_wp2_with fail
                refine (waits_is _ b (o.take i n) _ _ Htk.out _ Hwt.out).mono ?_
                rintro e w' ⟨rfl, nq2, rfl⟩
                generalize hW3 : (wr.setCell ⟨b, 3, none⟩ (.int .i64 (max (o.sent : Int) ((i : Int) + (n : Int))))).drewN nq2 = w3
                have h3 := Htk.out.drewN nq2
                have m3 := Hmod2.out.drewN nq2
                rw [hW3] at h3 m3
                have g1 := h3.c1
                have g2 := h3.c2
                obtain ⟨g, cap, rfl, u1, u2, u3, hcell⟩ := own_at h3.sta (by rw [hsln.out]; omega)
                rw [hsln.out] at g2 u1 h3
                obtain ⟨x, hx⟩ : ∃ x, (o.take i n).st[o.data.length]? = some x := ⟨_, List.getElem?_eq_getElem (by rw [hsln.out]; omega)⟩
                have g4 : w3.cell? ⟨g, o.data.length, none⟩ = some (cv x) := (hcell _ _ hx).1
                have g5 : w3.frozen? ⟨g, o.data.length, none⟩ = false := (hcell _ _ hx).2
                have hgb : b ≠ g := fun e => own_blk_ne h3.sta h3.blk (by decide) g rfl e.symm
                have h4 := h3.setSt (o := o.take i n) (cap := cap) hsln.out.symm o.data.length 1 (by decide)
                have m4 := m3.setCell (p := ⟨g, o.data.length, none⟩) (.inl (by simp [ofoot, Value.ownBlock])) (cv 1)
                have H4 := hide h4
                have M4 := hide m4
                clear hW3 h3 m3 h4 m4 gc1 gc3 gf3 hx hcell
                unfold cv at g4
                go_wp2_with fail
                go_region
                generalize hW4 : (w3.setCell ⟨g, o.data.length, none⟩ (.int .u8 1)).drew = w4
                have h4 : OBox w4 b { o.take i n with st := (o.take i n).st.set o.data.length 1 } (.slice A o.data.length c) (.slice (some ⟨g, 0, none⟩) (o.data.length + 1) cap) := by rw [← hW4]; exact H4.out.drewN 1
                have m4 : Mod (ofoot b (.slice A o.data.length c) (.slice (some ⟨g, 0, none⟩) (o.data.length + 1) cap)) w w4 := by rw [← hW4]; exact M4.out.drew
                have hcv := (hconv _ h4.dat).out
                have g1 := h4.c1
                have H5 := hide h4
                have M5 := hide m4
                clear hW4 h4 m4 g2 g4 g5 hgb u1 u2 u3 H4 M4
                obtain ⟨X, hX⟩ : ∃ X, X = Value.slice (if c = i then A else A.map (·.add i)) n (c - i) := ⟨_, rfl⟩
                have hsl := slice_piece A o.data.length c i n ((i : Int) + (n : Int)) (by omega) (by omega) X hX
                rw [← hX] at hcv
                clear hX
                go_wp2_with fail
                go_quiet (fail)
                go_wp2
                refine bodyPost_ret (results_tmp4 rfl _ _ _) rfl ?_
                exact ⟨by rw [H.out.1, hF.out.1]; rfl, by rw [H.out.2, hF.out.2]; exact ⟨_, _, H5.out.drewN _, M5.out.drewN _, fun _ hk => .inl (by simpa [ofoot, Value.ownBlock] using hk)⟩⟩
            · have e5 : (((i : Int) + (n : Int)) == (o.data.length : Int)) = false := by simpa using (by omega : ¬ ((i : Int) + (n : Int)) = (o.data.length : Int))
              have hF : Hid (o.takeFin i n = false ∧ o.takeEnd i n = o.take i n) := hide (by
                have hb : (i + n == o.data.length) = false := by simpa using hend
                have : o.takeFin i n = false := by unfold Ob.takeFin; rw [hb]; rfl
                exact ⟨this, by unfold Ob.takeEnd; rw [this]; rfl⟩)
              have hcv := (hconv _ Htk.out.dat).out
              clear h
              go_wp2_with fail
              obtain ⟨X, hX⟩ : ∃ X, X = Value.slice (if c = i then A else A.map (·.add i)) n (c - i) := ⟨_, rfl⟩
              have hsl := slice_piece A o.data.length c i n ((i : Int) + (n : Int)) (by omega) (by omega) X hX
              rw [← hX] at hcv
              clear hX
              go_quiet (fail)
              go_wp2
              refine bodyPost_ret (results_tmp4 rfl _ _ _) rfl ?_
              exact ⟨by rw [H.out.1, hF.out.1]; rfl, by rw [H.out.2, hF.out.2]; exact ⟨_, _, Htk.out.drewN _, ((Hmod.out).setCell (.inl (by simp [ofoot])) _).drewN _, fun _ hk => .inl hk⟩⟩
      · obtain rfl : n = 0 := by omega
        subst h1
        clear hn1
        have hn1 : min (0 : Int) (max most 0) = 0 := by omega
        have H2 := hide h2
        clear h2
        have e2 : decide (o.sent < o.data.length) = false := by simpa using h3
        have hst2 := h.wf.stl
        have hst : o.data.length ≤ o.st.length := by omega
        have Hst := hide hst2
        clear hst2
        go_enter Try.func20, Try.ntmps20
        go_wp2_with fail
        refine Hfirst.out.mono ?_
        rintro e w' ⟨rfl, nq, rfl⟩
        go_wp2_with fail
        go_quiet ((go_at_call 35; exact quiet_add (waits_is _ b o _ _ (h.drewN _) _ H2.out)))
        go_wp2_with fail
        go_loopw [11] (fun k wr => ∃ j : Nat, j ≤ (0 : Nat) ∧ k = .int .i64 ((i + j : Nat) : Int) ∧ OBox wr b { o with st := mapAt (fun _ => 1) o.st i j } (.slice A o.data.length c) sv ∧ Mod (ofoot b (.slice A o.data.length c) sv) w wr)
          (fun k _ => 70000 - (intOf k).toNat)
        case atStart => exact ⟨0, by omega, rfl, by rw [mapAt_zero]; exact (h.drewN _).drewN _, ((Mod.refl _ _).drewN _).drewN _⟩
        case round =>
          obtain ⟨j, hj, rfl, hbox, hmod⟩ := hrel
          clear hc1 hc3 hc5
          have hc2 := hbox.c2
          by_cases hlt : j < (0 : Nat)
          · omega
          · obtain rfl : j = 0 := by omega
            have gc3 := hbox.c3
            have gc1 := hbox.c1
            have gf3 := hbox.blk.frozen 3
            simp only at gc1 gc3
            have Hbox := hide hbox
            have Hmod := hide hmod
            have Htk : Hid (OBox (wr.setCell ⟨b, 3, none⟩ (.int .i64 (max (o.sent : Int) (i : Int)))) b (o.take i (0 : Nat)) (.slice A o.data.length c) sv) := hide (hbox.set 3 _ (by
              have : ((max o.sent (i + (0 : Nat)) : Nat) : Int) = max (o.sent : Int) (i : Int) := by omega
              simp only [Ob.take, this]; rfl) rfl rfl (h.wf.take hin))
            clear hbox hmod
            by_cases hend : i + (0 : Nat) = o.data.length
            · have e5 : ((i : Int) == (o.data.length : Int)) = true := by simpa using (by omega : (i : Int) = (o.data.length : Int))
              have Hmod2 := hide ((Hmod.out).setCell (p := ⟨b, 3, none⟩) (.inl (by simp [ofoot])) (.int .i64 (max (o.sent : Int) (i : Int))))
              cases hwt : (o.take i (0 : Nat)).waits
              · have Hwt := hide hwt
                have hF : Hid (o.takeFin i (0 : Nat) = false ∧ o.takeEnd i (0 : Nat) = o.take i (0 : Nat)) := hide (by
                  have : o.takeFin i (0 : Nat) = false := by unfold Ob.takeFin; rw [hwt, Bool.and_false]
                  exact ⟨this, by unfold Ob.takeEnd; rw [this]; rfl⟩)
                have Hend := hide hend
                clear h hwt hend
                go_wp2_with fail
                refine (waits_is _ b (o.take i (0 : Nat)) _ _ Htk.out _ Hwt.out).mono ?_
                rintro e w' ⟨rfl, nq2, rfl⟩
                generalize hW3 : (wr.setCell ⟨b, 3, none⟩ (.int .i64 (max (o.sent : Int) (i : Int)))).drewN nq2 = w3
                have h3 := Htk.out.drewN nq2
                have m3 := Hmod2.out.drewN nq2
                rw [hW3] at h3 m3
                have hcv := (hconv _ h3.dat).out
                have g1 := h3.c1
                have H3 := hide h3
                have M3 := hide m3
                clear hW3 h3 m3 gc1 gc3 gf3
                obtain ⟨X, hX⟩ : ∃ X, X = Value.slice (if c = i then A else A.map (·.add i)) (0 : Nat) (c - i) := ⟨_, rfl⟩
                have hsl := slice_piece A o.data.length c i (0 : Nat) (i : Int) (by omega) (by omega) X hX
                rw [← hX] at hcv
                clear hX
                go_wp2_with fail
                go_quiet (fail)
                go_wp2
                refine bodyPost_ret (results_tmp4 rfl _ _ _) rfl ?_
                exact ⟨by rw [H.out.1, hF.out.1]; rfl, by rw [H.out.2, hF.out.2]; exact ⟨_, _, H3.out.drewN _, M3.out.drewN _, fun _ hk => .inl hk⟩⟩
              · have Hwt := hide hwt
                have hF : Hid (o.takeFin i (0 : Nat) = true ∧ o.takeEnd i (0 : Nat) = { o.take i (0 : Nat) with st := (o.take i (0 : Nat)).st.set o.data.length 1 }) := hide (by
                  have hb : (i + (0 : Nat) == o.data.length) = true := by simpa using hend
                  have : o.takeFin i (0 : Nat) = true := by unfold Ob.takeFin; rw [hwt, hb]; rfl
                  exact ⟨this, by unfold Ob.takeEnd; rw [this]; rfl⟩)
                have hsln : Hid ((o.take i (0 : Nat)).st.length = o.data.length + 1) := hide (by
                  have he : o.ended = true := by
                    unfold Ob.waits at hwt
                    exact (Bool.and_eq_true_iff.1 hwt).1
                  have := Hst.out
                  rw [he] at this
                  simpa [Ob.take, mapAt_length] using this)
                have Hend := hide hend
                clear h hwt hend
                go_wp2_with fail
                refine (waits_is _ b (o.take i (0 : Nat)) _ _ Htk.out _ Hwt.out).mono ?_
                rintro e w' ⟨rfl, nq2, rfl⟩
                generalize hW3 : (wr.setCell ⟨b, 3, none⟩ (.int .i64 (max (o.sent : Int) (i : Int)))).drewN nq2 = w3
                have h3 := Htk.out.drewN nq2
                have m3 := Hmod2.out.drewN nq2
                rw [hW3] at h3 m3
                have g1 := h3.c1
                have g2 := h3.c2
                obtain ⟨g, cap, rfl, u1, u2, u3, hcell⟩ := own_at h3.sta (by rw [hsln.out]; omega)
                rw [hsln.out] at g2 u1 h3
                obtain ⟨x, hx⟩ : ∃ x, (o.take i (0 : Nat)).st[o.data.length]? = some x := ⟨_, List.getElem?_eq_getElem (by rw [hsln.out]; omega)⟩
                have g4 : w3.cell? ⟨g, o.data.length, none⟩ = some (cv x) := (hcell _ _ hx).1
                have g5 : w3.frozen? ⟨g, o.data.length, none⟩ = false := (hcell _ _ hx).2
                have hgb : b ≠ g := fun e => own_blk_ne h3.sta h3.blk (by decide) g rfl e.symm
                have h4 := h3.setSt (o := o.take i (0 : Nat)) (cap := cap) hsln.out.symm o.data.length 1 (by decide)
                have m4 := m3.setCell (p := ⟨g, o.data.length, none⟩) (.inl (by simp [ofoot, Value.ownBlock])) (cv 1)
                have H4 := hide h4
                have M4 := hide m4
                clear hW3 h3 m3 h4 m4 gc1 gc3 gf3 hx hcell
                unfold cv at g4
                go_wp2_with fail
                go_region
                generalize hW4 : (w3.setCell ⟨g, o.data.length, none⟩ (.int .u8 1)).drew = w4
                have h4 : OBox w4 b { o.take i (0 : Nat) with st := (o.take i (0 : Nat)).st.set o.data.length 1 } (.slice A o.data.length c) (.slice (some ⟨g, 0, none⟩) (o.data.length + 1) cap) := by rw [← hW4]; exact H4.out.drewN 1
                have m4 : Mod (ofoot b (.slice A o.data.length c) (.slice (some ⟨g, 0, none⟩) (o.data.length + 1) cap)) w w4 := by rw [← hW4]; exact M4.out.drew
                have hcv := (hconv _ h4.dat).out
                have g1 := h4.c1
                have H5 := hide h4
                have M5 := hide m4
                clear hW4 h4 m4 g2 g4 g5 hgb u1 u2 u3 H4 M4
                obtain ⟨X, hX⟩ : ∃ X, X = Value.slice (if c = i then A else A.map (·.add i)) (0 : Nat) (c - i) := ⟨_, rfl⟩
                have hsl := slice_piece A o.data.length c i (0 : Nat) (i : Int) (by omega) (by omega) X hX
                rw [← hX] at hcv
                clear hX
                go_wp2_with fail
                go_quiet (fail)
                go_wp2
                refine bodyPost_ret (results_tmp4 rfl _ _ _) rfl ?_
                exact ⟨by rw [H.out.1, hF.out.1]; rfl, by rw [H.out.2, hF.out.2]; exact ⟨_, _, H5.out.drewN _, M5.out.drewN _, fun _ hk => .inl (by simpa [ofoot, Value.ownBlock] using hk)⟩⟩
            · have e5 : ((i : Int) == (o.data.length : Int)) = false := by simpa using (by omega : ¬ (i : Int) = (o.data.length : Int))
              have hF : Hid (o.takeFin i (0 : Nat) = false ∧ o.takeEnd i (0 : Nat) = o.take i (0 : Nat)) := hide (by
                have hb : (i + (0 : Nat) == o.data.length) = false := by simpa using hend
                have : o.takeFin i (0 : Nat) = false := by unfold Ob.takeFin; rw [hb]; rfl
                exact ⟨this, by unfold Ob.takeEnd; rw [this]; rfl⟩)
              have hcv := (hconv _ Htk.out.dat).out
              clear h
              go_wp2_with fail
              obtain ⟨X, hX⟩ : ∃ X, X = Value.slice (if c = i then A else A.map (·.add i)) (0 : Nat) (c - i) := ⟨_, rfl⟩
              have hsl := slice_piece A o.data.length c i (0 : Nat) (i : Int) (by omega) (by omega) X hX
              rw [← hX] at hcv
              clear hX
              go_quiet (fail)
              go_wp2
              refine bodyPost_ret (results_tmp4 rfl _ _ _) rfl ?_
              exact ⟨by rw [H.out.1, hF.out.1]; rfl, by rw [H.out.2, hF.out.2]; exact ⟨_, _, Htk.out.drewN _, ((Hmod.out).setCell (.inl (by simp [ofoot])) _).drewN _, fun _ hk => .inl hk⟩⟩
  · rw [hr] at hc5
    have H : Hid ((o.nextTold most) = ⟨0, [], false, false⟩ ∧ o.next most = o) := hide (by simp [Ob.nextTold, Ob.next, hr])
    have Hf := hide (OStep.of_mod h (Mod.refl [] w))
    clear h hr
    go_enter Try.func20, Try.ntmps20
    go_wp2
    refine bodyPost_ret (results_tmp4 rfl _ _ _) rfl ?_
    exact ⟨by rw [H.out.1]; rfl, by rw [H.out.2]; exact Hf.out⟩
end Go.Proofs.Ytnkhdipbljfohaa
