/-
  Contracts and plain laws that the proofs of this seat share, part 2 of 11: ObNext, ObWrite, SoRow, SoPartEq, SoPart.
-/
import Derived.Test.YtjdfemfobcjecaaGreatG1
import Derived.Test.YtjdfemfobcjecaaGreatProg
import Derived.Laws.Externs
import Derived.Sort.AssemblyPlain
import Derived.Deep.CutBlock
import Derived.Deep.DeepCutAuto

/-
  outbox: Next.
-/
namespace Go.Proofs.YtjdfemfobcjecaaGreat
open Go.RowKit


set_option maxRecDepth 100000 in
theorem waits_is (w : World) (b : Nat) (o : Ob) (dv sv : Value) (h : OBox w b o dv sv) (v : Bool) (hv : o.waits = v) :
    Calls Tryz.prog 86 #[.pointer (some ⟨b, 0, none⟩)] w fun e w' => e = .returned (.bool v) ∧ ∃ n, w' = w.drewN n := by
  rw [← hv]; exact waits_any w b o dv sv h

set_option maxRecDepth 100000 in
theorem conv_at (w : World) (g : Nat) (xs : List UInt8) (hc : ∀ j x, xs[j]? = some x → w.cell? ⟨g, j, none⟩ = some (cv x)) (i n c : Nat) (h : i + n ≤ xs.length) :
    (convert 105 9 (.slice (some ⟨g, i, none⟩) n c)).run Tryz.prog w = .ok (str ((xs.drop i).take n)) w := by
  have hl : ((xs.drop i).take n).length = n := by simp; omega
  have := run_convert_bytes_arg (P := Tryz.prog) w 105 5 Tryz.underlying105 Tryz.underlying5 g i n c (((xs.drop i).take n).map fun x => (x.toNat : Int)) (by simpa using hl) (fun j hj => by
    obtain ⟨x, hx⟩ : ∃ x, xs[i + j]? = some x := ⟨_, List.getElem?_eq_getElem (by omega)⟩
    rw [hc _ x hx]
    have h2 : ((xs.drop i).take n)[j]? = some x := by rw [List.getElem?_take, if_pos hj, List.getElem?_drop]; exact hx
    have h3 : (((xs.drop i).take n).map fun x => (x.toNat : Int))[j]? = some (x.toNat : Int) := by rw [List.getElem?_map, h2]; rfl
    rw [List.getD_eq_getElem?_getD, h3]; rfl) 9 Tryz.underlying9
  rw [this]
  congr 2
  simp [strOfNums, Function.comp_def]

set_option maxRecDepth 100000 in
theorem conv_none (w : World) (a : Option Addr) (c : Nat) : (convert 105 9 (.slice a 0 c)).run Tryz.prog w = .ok (str []) w := by
  rcases a with _ | a
  · exact run_convert_bytes_nil (P := Tryz.prog) w 105 5 Tryz.underlying105 Tryz.underlying5 0 c 9 Tryz.underlying9
  · rw [run_convert_bytes_string (P := Tryz.prog) w 105 9 5 _ 0 c Tryz.underlying105 Tryz.underlying5 Tryz.underlying9]
    have := run_bytesToString (P := Tryz.prog) w a 0 c [] (by simp [loadCells, loadCellsFrom])
    exact this

set_option maxRecDepth 100000 in
theorem slice_piece (A : Option Addr) (len c i n : Nat) (s : Int) (hs : s = ((i + n : Nat) : Int)) (h : i + n ≤ c) (X : Value) (hX : X = .slice (if c = i then A else A.map (·.add i)) n (c - i)) :
    ∀ W : World, (Instr.slice 105 (.slice A len c) (some (.int .i64 (i : Int))) (some (.int .i64 s)) none).run Tryz.prog W = .ok X W := by
  intro W
  subst hX hs
  have := run_slice_lh (P := Tryz.prog) W 105 A len c Tryz.underlying105 .i64 .i64 (i : Int) ((i + n : Nat) : Int) (by omega) (by omega) (by omega)
  rw [this]
  obtain ⟨i0, hi, hz0, hz1, hz2⟩ := info_parts (show (Tryz.prog.info? (Tryz.prog.elem 105)).map (fun i => (i.zero, i.size, i.bytes)) = some (some (.int .u8 0), 1, 1) by kernel_rfl)
  simp [sizeOf, typeInfo, hi, hz1, sliced]
  omega

def Told.val (t : Told) : Value := .tuple #[.int .u64 (t.at_ : Nat), str t.s, .bool t.fin, .bool t.is_]

set_option maxRecDepth 100000 in
set_option maxHeartbeats 2000000 in
theorem next_any (w : World) (b : Nat) (o : Ob) (dv sv : Value) (h : OBox w b o dv sv) (most : Int) (hm1 : -9223372036854775808 ≤ most) (hm2 : most ≤ 9223372036854775807) :
    Calls Tryz.prog 69 #[.pointer (some ⟨b, 0, none⟩), .int .i64 most] w fun e w' =>
      e = .returned (o.nextTold most).val ∧ OStep w b dv sv (o.next most) w' := by
  have hc5 := h.c5
  cases hr : o.reset
  · rw [hr] at hc5
    have hf := h.wf.first
    have hs := h.wf.size
    obtain ⟨i, hi⟩ : ∃ i, i = o.first.1 := ⟨_, rfl⟩
    obtain ⟨m, hm⟩ : ∃ m, m = o.first.2 := ⟨_, rfl⟩
    obtain ⟨n, hn⟩ : ∃ n, n = o.much most := ⟨_, rfl⟩
    rw [← hi, ← hm] at hf
    have hn0 : (n : Int) = min (m : Int) (max most 0) := by rw [hn]; unfold Ob.much; rw [← hm]; omega
    have hfirst := first_any w b o dv sv h
    rw [← hi, ← hm] at hfirst
    have Hfirst := hide hfirst
    clear hfirst
    have hcase : (0 < m ∧ n = 0) ∨ (m = 0 ∧ o.waits = false) ∨ (m = 0 ∧ o.waits = true ∧ o.sent < o.data.length) ∨ (0 < m ∧ 0 < n) ∨ (m = 0 ∧ o.waits = true ∧ ¬ o.sent < o.data.length) := by
      rcases Nat.eq_zero_or_pos m with h0 | h0
      · cases o.waits
        · exact .inr (.inl ⟨h0, rfl⟩)
        · by_cases h1 : o.sent < o.data.length
          · exact .inr (.inr (.inl ⟨h0, rfl, h1⟩))
          · exact .inr (.inr (.inr (.inr ⟨h0, rfl, h1⟩)))
      · rcases Nat.eq_zero_or_pos n with h1 | h1
        · exact .inl ⟨h0, h1⟩
        · exact .inr (.inr (.inr (.inl ⟨h0, h1⟩)))
    have hgoes : o.goes n = !(decide (0 < m) && n == 0 || m == 0 && (!o.waits || decide (o.sent < o.data.length))) := by rw [hm]; rfl
    have hn1 : min (m : Int) (max most 0) = (n : Int) := hn0.symm
    clear hn0
    have hc3 := h.c3
    have hc1 := h.c1
    have hsent := h.wf.sent
    obtain ⟨A, c, rfl, hdc, hcm⟩ := h.dv_form
    rcases hcase with ⟨h1, h2⟩ | ⟨h1, h2⟩ | ⟨h1, h2, h3⟩ | hgo
    · have H : Hid ((o.nextTold most) = ⟨0, [], false, false⟩ ∧ o.next most = o) := hide (by
        have hg : o.goes n = false := by rw [hgoes]; simp [h1, h2]
        unfold Ob.nextTold Ob.next
        rw [← hn, hr, hg]; simp)
      clear hn hgoes hi hm
      subst h2
      go_enter Tryz.func69, Tryz.ntmps69
      go_wp2_with (go_at_call 85; refine Hfirst.out.mono ?_; rintro e w' ⟨rfl, nq, rfl⟩)
      go_quiet (fail)
      go_wp2
      refine bodyPost_ret (results_tmp4 rfl _ _ _) rfl ?_
      exact ⟨by rw [H.out.1]; rfl, by rw [H.out.2]; exact OStep.of_mod h (((Mod.refl [] w).drewN _).drewN _)⟩
    · have H : Hid ((o.nextTold most) = ⟨0, [], false, false⟩ ∧ o.next most = o) := hide (by
        have hg : o.goes n = false := by rw [hgoes]; simp [h1, h2]
        unfold Ob.nextTold Ob.next
        rw [← hn, hr, hg]; simp)
      have hn2 : n = 0 := by omega
      clear hn hgoes hi hm
      subst hn2 h1
      have H2 := hide h2
      clear h2
      go_enter Tryz.func69, Tryz.ntmps69
      go_wp2_with (go_at_call 85; refine Hfirst.out.mono ?_; rintro e w' ⟨rfl, nq, rfl⟩)
      go_quiet ((go_at_call 86; exact quiet_add (waits_is _ b o _ _ (h.drewN _) _ H2.out)))
      go_wp2
      refine bodyPost_ret (results_tmp4 rfl _ _ _) rfl ?_
      exact ⟨by rw [H.out.1]; rfl, by rw [H.out.2]; exact OStep.of_mod h (((Mod.refl [] w).drewN _).drewN _)⟩
    · have H : Hid ((o.nextTold most) = ⟨0, [], false, false⟩ ∧ o.next most = o) := hide (by
        have hg : o.goes n = false := by rw [hgoes]; simp [h1, h3]
        unfold Ob.nextTold Ob.next
        rw [← hn, hr, hg]; simp)
      have hn2 : n = 0 := by omega
      clear hn hgoes hi hm
      subst hn2 h1
      have H2 := hide h2
      clear h2
      go_enter Tryz.func69, Tryz.ntmps69
      go_wp2_with (go_at_call 85; refine Hfirst.out.mono ?_; rintro e w' ⟨rfl, nq, rfl⟩)
      go_quiet ((go_at_call 86; exact quiet_add (waits_is _ b o _ _ (h.drewN _) _ H2.out)))
      go_wp2
      refine bodyPost_ret (results_tmp4 rfl _ _ _) rfl ?_
      exact ⟨by rw [H.out.1]; rfl, by rw [H.out.2]; exact OStep.of_mod h (((Mod.refl [] w).drewN _).drewN _)⟩
    · have H : Hid ((o.nextTold most) = ⟨i, (o.data.drop i).take n, o.takeFin i n, true⟩ ∧ o.next most = o.takeEnd i n) := hide (by
        have hg : o.goes n = true := by
          rw [hgoes]
          rcases hgo with ⟨h1, h2⟩ | ⟨h1, h2, h3⟩
          · have e1 : (n == 0) = false := by simpa using (by omega : ¬ n = 0)
            have e2 : (m == 0) = false := by simpa using (by omega : ¬ m = 0)
            simp [e1, e2]
          · simp [h1, h2, h3]
        unfold Ob.nextTold Ob.next
        rw [← hn, hr, hg, ← hi]; simp)
      have hin : i + n ≤ o.data.length := by omega
      -- the bytes that go, as the walk spells them
      have hconv : ∀ W : World, W.ownsRow 0 5 1 (.slice A o.data.length c) o.data.length (o.data.map cv) →
          Hid (∀ k, (convert 105 9 (.slice (if c = i then A else A.map (·.add i)) n (c - i))).run Tryz.prog (W.drewN k) = .ok (str ((o.data.drop i).take n)) (W.drewN k)) := fun W hW => hide (fun k => by
        rcases Nat.eq_zero_or_pos n with h0 | h0
        · rw [h0]
          exact conv_none _ _ _
        · obtain ⟨g, cap, hv, h1, h2, h3, hcell⟩ := own_at hW (by omega)
          cases hv
          rw [if_neg (by omega)]
          have := conv_at (W.drewN k) g o.data (fun j x hx => (hcell j x hx).1) i n (c - i) hin
          simpa [Addr.add_lit] using this)
      clear hn hgoes hi hm
      rcases hgo with ⟨h1, h2⟩ | ⟨h1, h2, h3⟩
      · have e0 : ((n : Int) == 0) = false := by simpa using (by omega : ¬ n = 0)
        have hst2 := h.wf.stl
        have hst : o.data.length ≤ o.st.length := by omega
        have Hst := hide hst2
        clear hst2
        go_enter Tryz.func69, Tryz.ntmps69
        go_wp2_with fail
        refine Hfirst.out.mono ?_
        rintro e w' ⟨rfl, nq, rfl⟩
        go_wp2_with fail
        go_quiet (fail)
        go_wp2_with fail
        go_loopw [11] (fun k wr => ∃ j : Nat, j ≤ n ∧ k = .int .i64 ((i + j : Nat) : Int) ∧ OBox wr b { o with st := mapAt (fun _ => 1) o.st i j } (.slice A o.data.length c) sv ∧ Mod (ofoot b (.slice A o.data.length c) sv) w wr)
          (fun k _ => 70000 - (intOf k).toNat)
        case atStart => exact ⟨0, by omega, rfl, by rw [mapAt_zero]; exact (h.drewN _).drewN _, ((Mod.refl _ _).drewN _).drewN _⟩
        case round =>
          obtain ⟨j, hj, rfl, hbox, hmod⟩ := hrel
          clear hc1 hc3 hc5
          have hc2 := hbox.c2
          by_cases hlt : j < n
          · have hsl : (mapAt (fun _ => 1) o.st i j).length = o.st.length := mapAt_length _ _ _ _
            obtain ⟨g, cap, rfl, h1, h2, h3, hcell⟩ := own_at hbox.sta (by simp only [hsl]; omega)
            simp only [hsl] at hc2 h1 hcell hbox
            obtain ⟨x, hx⟩ : ∃ x, o.st[i + j]? = some x := ⟨_, List.getElem?_eq_getElem (by omega)⟩
            have hx' : (mapAt (fun _ => 1) o.st i j)[i + j]? = some x := (mapAt_next _ _ _ _).trans hx
            have hcl2 : wr.cell? ⟨g, i + j, none⟩ = some (cv x) := (hcell _ _ hx').1
            have hfz2 : wr.frozen? ⟨g, i + j, none⟩ = false := (hcell _ _ hx').2
            have Hnext := hide (hbox.setSt (o := { o with st := mapAt (fun _ => 1) o.st i j }) (cap := cap) hsl.symm (i + j) 1 (by decide))
            clear hcell hbox hx'
            have Hx := hide hx
            clear hx
            have Hmod := hide hmod
            clear hmod h
            clear hsl
            unfold cv at hcl2
            go_wp2
            go_roundw
            case rel =>
              refine ⟨j + 1, by omega, by go_num, ?_, ?_⟩
              · have := Hnext.out
                rw [mapAt_succ _ _ _ _ Hx.out]
                rw [mapAt_length]
                exact this
              · exact (Hmod.out).setCell (.inl (by simp [ofoot, Value.ownBlock])) _
            case measure => simp [intOf]; omega
          · obtain rfl : n = j := by omega
            have gc3 := hbox.c3
            have gc1 := hbox.c1
            have gf3 := hbox.blk.frozen 3
            simp only at gc1 gc3
            have Hbox := hide hbox
            have Hmod := hide hmod
            have Htk : Hid (OBox (wr.setCell ⟨b, 3, none⟩ (.int .i64 (max (o.sent : Int) ((i : Int) + (n : Int))))) b (o.take i n) (.slice A o.data.length c) sv) := hide (hbox.set 3 _ (by
              have : ((max o.sent (i + n) : Nat) : Int) = max (o.sent : Int) ((i : Int) + (n : Int)) := by omega
              simp only [Ob.take, this]; rfl) rfl rfl (h.wf.take hin))
            clear hbox hmod
            by_cases hend : i + n = o.data.length
            · have e5 : (((i : Int) + (n : Int)) == (o.data.length : Int)) = true := by simpa using (by omega : ((i : Int) + (n : Int)) = (o.data.length : Int))
              have Hmod2 := hide ((Hmod.out).setCell (p := ⟨b, 3, none⟩) (.inl (by simp [ofoot])) (.int .i64 (max (o.sent : Int) ((i : Int) + (n : Int)))))
              cases hwt : (o.take i n).waits
              · have Hwt := hide hwt
                have hF : Hid (o.takeFin i n = false ∧ o.takeEnd i n = o.take i n) := hide (by
                  have : o.takeFin i n = false := by unfold Ob.takeFin; rw [hwt, Bool.and_false]
                  exact ⟨this, by unfold Ob.takeEnd; rw [this]; rfl⟩)
                have Hend := hide hend
                clear h hwt hend
                go_wp2_with fail
                refine (waits_is _ b (o.take i n) _ _ Htk.out _ Hwt.out).mono ?_
                rintro e w' ⟨rfl, nq2, rfl⟩
                generalize hW3 : (wr.setCell ⟨b, 3, none⟩ (.int .i64 (max (o.sent : Int) ((i : Int) + (n : Int))))).drewN nq2 = w3
                have h3 := Htk.out.drewN nq2
                have m3 := Hmod2.out.drewN nq2
                rw [hW3] at h3 m3
                have hcv := (hconv _ h3.dat).out
                have g1 := h3.c1
                have H3 := hide h3
                have M3 := hide m3
                clear hW3 h3 m3 gc1 gc3 gf3
                obtain ⟨X, hX⟩ : ∃ X, X = Value.slice (if c = i then A else A.map (·.add i)) n (c - i) := ⟨_, rfl⟩
                have hsl := slice_piece A o.data.length c i n ((i : Int) + (n : Int)) (by omega) (by omega) X hX
                rw [← hX] at hcv
                clear hX
                go_wp2_with fail
                go_quiet (fail)
                go_wp2
                refine bodyPost_ret (results_tmp4 rfl _ _ _) rfl ?_
                exact ⟨by rw [H.out.1, hF.out.1]; rfl, by rw [H.out.2, hF.out.2]; exact ⟨_, _, H3.out.drewN _, M3.out.drewN _, fun _ hk => .inl hk⟩⟩
              · have Hwt := hide hwt
                have hF : Hid (o.takeFin i n = true ∧ o.takeEnd i n = { o.take i n with st := (o.take i n).st.set o.data.length 1 }) := hide (by
                  have hb : (i + n == o.data.length) = true := by simpa using hend
                  have : o.takeFin i n = true := by unfold Ob.takeFin; rw [hwt, hb]; rfl
                  exact ⟨this, by unfold Ob.takeEnd; rw [this]; rfl⟩)
                have hsln : Hid ((o.take i n).st.length = o.data.length + 1) := hide (by
                  have he : o.ended = true := by
                    unfold Ob.waits at hwt
                    exact (Bool.and_eq_true_iff.1 hwt).1
                  have := Hst.out
                  rw [he] at this
                  simpa [Ob.take, mapAt_length] using this)
                have Hend := hide hend
                clear h hwt hend
                go_wp2_with fail
                refine (waits_is _ b (o.take i n) _ _ Htk.out _ Hwt.out).mono ?_
                rintro e w' ⟨rfl, nq2, rfl⟩
                generalize hW3 : (wr.setCell ⟨b, 3, none⟩ (.int .i64 (max (o.sent : Int) ((i : Int) + (n : Int))))).drewN nq2 = w3
                have h3 := Htk.out.drewN nq2
                have m3 := Hmod2.out.drewN nq2
                rw [hW3] at h3 m3
                have g1 := h3.c1
                have g2 := h3.c2
                obtain ⟨g, cap, rfl, u1, u2, u3, hcell⟩ := own_at h3.sta (by rw [hsln.out]; omega)
                rw [hsln.out] at g2 u1 h3
                obtain ⟨x, hx⟩ : ∃ x, (o.take i n).st[o.data.length]? = some x := ⟨_, List.getElem?_eq_getElem (by rw [hsln.out]; omega)⟩
                have g4 : w3.cell? ⟨g, o.data.length, none⟩ = some (cv x) := (hcell _ _ hx).1
                have g5 : w3.frozen? ⟨g, o.data.length, none⟩ = false := (hcell _ _ hx).2
                have hgb : b ≠ g := fun e => own_blk_ne h3.sta h3.blk (by decide) g rfl e.symm
                have h4 := h3.setSt (o := o.take i n) (cap := cap) hsln.out.symm o.data.length 1 (by decide)
                have m4 := m3.setCell (p := ⟨g, o.data.length, none⟩) (.inl (by simp [ofoot, Value.ownBlock])) (cv 1)
                have H4 := hide h4
                have M4 := hide m4
                clear hW3 h3 m3 h4 m4 gc1 gc3 gf3 hx hcell
                unfold cv at g4
                go_wp2_with fail
                go_region
                generalize hW4 : (w3.setCell ⟨g, o.data.length, none⟩ (.int .u8 1)).drew = w4
                have h4 : OBox w4 b { o.take i n with st := (o.take i n).st.set o.data.length 1 } (.slice A o.data.length c) (.slice (some ⟨g, 0, none⟩) (o.data.length + 1) cap) := by rw [← hW4]; exact H4.out.drewN 1
                have m4 : Mod (ofoot b (.slice A o.data.length c) (.slice (some ⟨g, 0, none⟩) (o.data.length + 1) cap)) w w4 := by rw [← hW4]; exact M4.out.drew
                have hcv := (hconv _ h4.dat).out
                have g1 := h4.c1
                have H5 := hide h4
                have M5 := hide m4
                clear hW4 h4 m4 g2 g4 g5 hgb u1 u2 u3 H4 M4
                obtain ⟨X, hX⟩ : ∃ X, X = Value.slice (if c = i then A else A.map (·.add i)) n (c - i) := ⟨_, rfl⟩
                have hsl := slice_piece A o.data.length c i n ((i : Int) + (n : Int)) (by omega) (by omega) X hX
                rw [← hX] at hcv
                clear hX
                go_wp2_with fail
                go_quiet (fail)
                go_wp2
                refine bodyPost_ret (results_tmp4 rfl _ _ _) rfl ?_
                exact ⟨by rw [H.out.1, hF.out.1]; rfl, by rw [H.out.2, hF.out.2]; exact ⟨_, _, H5.out.drewN _, M5.out.drewN _, fun _ hk => .inl (by simpa [ofoot, Value.ownBlock] using hk)⟩⟩
            · have e5 : (((i : Int) + (n : Int)) == (o.data.length : Int)) = false := by simpa using (by omega : ¬ ((i : Int) + (n : Int)) = (o.data.length : Int))
              have hF : Hid (o.takeFin i n = false ∧ o.takeEnd i n = o.take i n) := hide (by
                have hb : (i + n == o.data.length) = false := by simpa using hend
                have : o.takeFin i n = false := by unfold Ob.takeFin; rw [hb]; rfl
                exact ⟨this, by unfold Ob.takeEnd; rw [this]; rfl⟩)
              have hcv := (hconv _ Htk.out.dat).out
              clear h
              go_wp2_with fail
              obtain ⟨X, hX⟩ : ∃ X, X = Value.slice (if c = i then A else A.map (·.add i)) n (c - i) := ⟨_, rfl⟩
              have hsl := slice_piece A o.data.length c i n ((i : Int) + (n : Int)) (by omega) (by omega) X hX
              rw [← hX] at hcv
              clear hX
              go_quiet (fail)
              go_wp2
              refine bodyPost_ret (results_tmp4 rfl _ _ _) rfl ?_
              exact ⟨by rw [H.out.1, hF.out.1]; rfl, by rw [H.out.2, hF.out.2]; exact ⟨_, _, Htk.out.drewN _, ((Hmod.out).setCell (.inl (by simp [ofoot])) _).drewN _, fun _ hk => .inl hk⟩⟩
      · obtain rfl : n = 0 := by omega
        subst h1
        clear hn1
        have hn1 : min (0 : Int) (max most 0) = 0 := by omega
        have H2 := hide h2
        clear h2
        have e2 : decide (o.sent < o.data.length) = false := by simpa using h3
        have hst2 := h.wf.stl
        have hst : o.data.length ≤ o.st.length := by omega
        have Hst := hide hst2
        clear hst2
        go_enter Tryz.func69, Tryz.ntmps69
        go_wp2_with fail
        refine Hfirst.out.mono ?_
        rintro e w' ⟨rfl, nq, rfl⟩
        go_wp2_with fail
        go_quiet ((go_at_call 86; exact quiet_add (waits_is _ b o _ _ (h.drewN _) _ H2.out)))
        go_wp2_with fail
        go_loopw [11] (fun k wr => ∃ j : Nat, j ≤ (0 : Nat) ∧ k = .int .i64 ((i + j : Nat) : Int) ∧ OBox wr b { o with st := mapAt (fun _ => 1) o.st i j } (.slice A o.data.length c) sv ∧ Mod (ofoot b (.slice A o.data.length c) sv) w wr)
          (fun k _ => 70000 - (intOf k).toNat)
        case atStart => exact ⟨0, by omega, rfl, by rw [mapAt_zero]; exact (h.drewN _).drewN _, ((Mod.refl _ _).drewN _).drewN _⟩
        case round =>
          obtain ⟨j, hj, rfl, hbox, hmod⟩ := hrel
          clear hc1 hc3 hc5
          have hc2 := hbox.c2
          by_cases hlt : j < (0 : Nat)
          · omega
          · obtain rfl : j = 0 := by omega
            have gc3 := hbox.c3
            have gc1 := hbox.c1
            have gf3 := hbox.blk.frozen 3
            simp only at gc1 gc3
            have Hbox := hide hbox
            have Hmod := hide hmod
            have Htk : Hid (OBox (wr.setCell ⟨b, 3, none⟩ (.int .i64 (max (o.sent : Int) (i : Int)))) b (o.take i (0 : Nat)) (.slice A o.data.length c) sv) := hide (hbox.set 3 _ (by
              have : ((max o.sent (i + (0 : Nat)) : Nat) : Int) = max (o.sent : Int) (i : Int) := by omega
              simp only [Ob.take, this]; rfl) rfl rfl (h.wf.take hin))
            clear hbox hmod
            by_cases hend : i + (0 : Nat) = o.data.length
            · have e5 : ((i : Int) == (o.data.length : Int)) = true := by simpa using (by omega : (i : Int) = (o.data.length : Int))
              have Hmod2 := hide ((Hmod.out).setCell (p := ⟨b, 3, none⟩) (.inl (by simp [ofoot])) (.int .i64 (max (o.sent : Int) (i : Int))))
              cases hwt : (o.take i (0 : Nat)).waits
              · have Hwt := hide hwt
                have hF : Hid (o.takeFin i (0 : Nat) = false ∧ o.takeEnd i (0 : Nat) = o.take i (0 : Nat)) := hide (by
                  have : o.takeFin i (0 : Nat) = false := by unfold Ob.takeFin; rw [hwt, Bool.and_false]
                  exact ⟨this, by unfold Ob.takeEnd; rw [this]; rfl⟩)
                have Hend := hide hend
                clear h hwt hend
                go_wp2_with fail
                refine (waits_is _ b (o.take i (0 : Nat)) _ _ Htk.out _ Hwt.out).mono ?_
                rintro e w' ⟨rfl, nq2, rfl⟩
                generalize hW3 : (wr.setCell ⟨b, 3, none⟩ (.int .i64 (max (o.sent : Int) (i : Int)))).drewN nq2 = w3
                have h3 := Htk.out.drewN nq2
                have m3 := Hmod2.out.drewN nq2
                rw [hW3] at h3 m3
                have hcv := (hconv _ h3.dat).out
                have g1 := h3.c1
                have H3 := hide h3
                have M3 := hide m3
                clear hW3 h3 m3 gc1 gc3 gf3
                obtain ⟨X, hX⟩ : ∃ X, X = Value.slice (if c = i then A else A.map (·.add i)) (0 : Nat) (c - i) := ⟨_, rfl⟩
                have hsl := slice_piece A o.data.length c i (0 : Nat) (i : Int) (by omega) (by omega) X hX
                rw [← hX] at hcv
                clear hX
                go_wp2_with fail
                go_quiet (fail)
                go_wp2
                refine bodyPost_ret (results_tmp4 rfl _ _ _) rfl ?_
                exact ⟨by rw [H.out.1, hF.out.1]; rfl, by rw [H.out.2, hF.out.2]; exact ⟨_, _, H3.out.drewN _, M3.out.drewN _, fun _ hk => .inl hk⟩⟩
              · have Hwt := hide hwt
                have hF : Hid (o.takeFin i (0 : Nat) = true ∧ o.takeEnd i (0 : Nat) = { o.take i (0 : Nat) with st := (o.take i (0 : Nat)).st.set o.data.length 1 }) := hide (by
                  have hb : (i + (0 : Nat) == o.data.length) = true := by simpa using hend
                  have : o.takeFin i (0 : Nat) = true := by unfold Ob.takeFin; rw [hwt, hb]; rfl
                  exact ⟨this, by unfold Ob.takeEnd; rw [this]; rfl⟩)
                have hsln : Hid ((o.take i (0 : Nat)).st.length = o.data.length + 1) := hide (by
                  have he : o.ended = true := by
                    unfold Ob.waits at hwt
                    exact (Bool.and_eq_true_iff.1 hwt).1
                  have := Hst.out
                  rw [he] at this
                  simpa [Ob.take, mapAt_length] using this)
                have Hend := hide hend
                clear h hwt hend
                go_wp2_with fail
                refine (waits_is _ b (o.take i (0 : Nat)) _ _ Htk.out _ Hwt.out).mono ?_
                rintro e w' ⟨rfl, nq2, rfl⟩
                generalize hW3 : (wr.setCell ⟨b, 3, none⟩ (.int .i64 (max (o.sent : Int) (i : Int)))).drewN nq2 = w3
                have h3 := Htk.out.drewN nq2
                have m3 := Hmod2.out.drewN nq2
                rw [hW3] at h3 m3
                have g1 := h3.c1
                have g2 := h3.c2
                obtain ⟨g, cap, rfl, u1, u2, u3, hcell⟩ := own_at h3.sta (by rw [hsln.out]; omega)
                rw [hsln.out] at g2 u1 h3
                obtain ⟨x, hx⟩ : ∃ x, (o.take i (0 : Nat)).st[o.data.length]? = some x := ⟨_, List.getElem?_eq_getElem (by rw [hsln.out]; omega)⟩
                have g4 : w3.cell? ⟨g, o.data.length, none⟩ = some (cv x) := (hcell _ _ hx).1
                have g5 : w3.frozen? ⟨g, o.data.length, none⟩ = false := (hcell _ _ hx).2
                have hgb : b ≠ g := fun e => own_blk_ne h3.sta h3.blk (by decide) g rfl e.symm
                have h4 := h3.setSt (o := o.take i (0 : Nat)) (cap := cap) hsln.out.symm o.data.length 1 (by decide)
                have m4 := m3.setCell (p := ⟨g, o.data.length, none⟩) (.inl (by simp [ofoot, Value.ownBlock])) (cv 1)
                have H4 := hide h4
                have M4 := hide m4
                clear hW3 h3 m3 h4 m4 gc1 gc3 gf3 hx hcell
                unfold cv at g4
                go_wp2_with fail
                go_region
                generalize hW4 : (w3.setCell ⟨g, o.data.length, none⟩ (.int .u8 1)).drew = w4
                have h4 : OBox w4 b { o.take i (0 : Nat) with st := (o.take i (0 : Nat)).st.set o.data.length 1 } (.slice A o.data.length c) (.slice (some ⟨g, 0, none⟩) (o.data.length + 1) cap) := by rw [← hW4]; exact H4.out.drewN 1
                have m4 : Mod (ofoot b (.slice A o.data.length c) (.slice (some ⟨g, 0, none⟩) (o.data.length + 1) cap)) w w4 := by rw [← hW4]; exact M4.out.drew
                have hcv := (hconv _ h4.dat).out
                have g1 := h4.c1
                have H5 := hide h4
                have M5 := hide m4
                clear hW4 h4 m4 g2 g4 g5 hgb u1 u2 u3 H4 M4
                obtain ⟨X, hX⟩ : ∃ X, X = Value.slice (if c = i then A else A.map (·.add i)) (0 : Nat) (c - i) := ⟨_, rfl⟩
                have hsl := slice_piece A o.data.length c i (0 : Nat) (i : Int) (by omega) (by omega) X hX
                rw [← hX] at hcv
                clear hX
                go_wp2_with fail
                go_quiet (fail)
                go_wp2
                refine bodyPost_ret (results_tmp4 rfl _ _ _) rfl ?_
                exact ⟨by rw [H.out.1, hF.out.1]; rfl, by rw [H.out.2, hF.out.2]; exact ⟨_, _, H5.out.drewN _, M5.out.drewN _, fun _ hk => .inl (by simpa [ofoot, Value.ownBlock] using hk)⟩⟩
            · have e5 : ((i : Int) == (o.data.length : Int)) = false := by simpa using (by omega : ¬ (i : Int) = (o.data.length : Int))
              have hF : Hid (o.takeFin i (0 : Nat) = false ∧ o.takeEnd i (0 : Nat) = o.take i (0 : Nat)) := hide (by
                have hb : (i + (0 : Nat) == o.data.length) = false := by simpa using hend
                have : o.takeFin i (0 : Nat) = false := by unfold Ob.takeFin; rw [hb]; rfl
                exact ⟨this, by unfold Ob.takeEnd; rw [this]; rfl⟩)
              have hcv := (hconv _ Htk.out.dat).out
              clear h
              go_wp2_with fail
              obtain ⟨X, hX⟩ : ∃ X, X = Value.slice (if c = i then A else A.map (·.add i)) (0 : Nat) (c - i) := ⟨_, rfl⟩
              have hsl := slice_piece A o.data.length c i (0 : Nat) (i : Int) (by omega) (by omega) X hX
              rw [← hX] at hcv
              clear hX
              go_quiet (fail)
              go_wp2
              refine bodyPost_ret (results_tmp4 rfl _ _ _) rfl ?_
              exact ⟨by rw [H.out.1, hF.out.1]; rfl, by rw [H.out.2, hF.out.2]; exact ⟨_, _, Htk.out.drewN _, ((Hmod.out).setCell (.inl (by simp [ofoot])) _).drewN _, fun _ hk => .inl hk⟩⟩
  · rw [hr] at hc5
    have H : Hid ((o.nextTold most) = ⟨0, [], false, false⟩ ∧ o.next most = o) := hide (by simp [Ob.nextTold, Ob.next, hr])
    have Hf := hide (OStep.of_mod h (Mod.refl [] w))
    clear h hr
    go_enter Tryz.func69, Tryz.ntmps69
    go_wp2
    refine bodyPost_ret (results_tmp4 rfl _ _ _) rfl ?_
    exact ⟨by rw [H.out.1]; rfl, by rw [H.out.2]; exact Hf.out⟩
end Go.Proofs.YtjdfemfobcjecaaGreat

/-
  outbox: Write.
-/
namespace Go.Proofs.YtjdfemfobcjecaaGreat
open Go.RowKit

theorem infoU8 : (Tryz.prog.info? 5).map (fun i => (i.zero, i.size, i.bytes)) = some (some (.int .u8 0), 1, 1) := by kernel_rfl

theorem own_slice {w : World} {base : Nat} {e : TypeId} {size n : Nat} {v : Value} {xs : List Value} (h : w.ownsRow base e size v n xs) : ∃ A c, v = .slice A n c := by
  rcases h.2 with ⟨rfl, rfl⟩ | ⟨g, cap, cur, rfl, _⟩
  · exact ⟨_, _, rfl⟩
  · exact ⟨_, _, rfl⟩

/-- append(xs, s...) of a string onto bytes -/
theorem app_string (w : World) (ty : TypeId) (v : Value) (xs : List UInt8) (s : ByteArray) (h : w.ownsRow 0 5 1 v xs.length (xs.map cv)) (hl : xs.length + s.size ≤ 140737488355328) (N : Nat) (hN : N = (xs ++ s.data.toList).length) :
    ∃ A c w', (Builtin.append_ #[105, 9] ty #[v, .string s]).run Tryz.prog w = .ok (.slice A N c) w' ∧
      w'.ownsRow 0 5 1 (.slice A N c) N ((xs ++ s.data.toList).map cv) ∧ w.grownBy w' v.ownBlock ∧
      ((Value.slice A N c).ownBlock = v.ownBlock ∨ (Value.slice A N c).ownBlock = some w.heap.size) := by
  obtain ⟨i0, hi, hz0, hz1, hz2⟩ := info_parts infoU8
  have hsz : s.data.toList.length = s.size := by rw [Array.length_toList]; rfl
  obtain ⟨v', w', h1, h2, h3, h4⟩ := run_app (P := Tryz.prog) ty 0 hi hz1 rfl v xs.length _ h (AppSrc.of_src Tryz.underlying105 hi hz0 hz1 (Src.ofString w Tryz.underlying9 s)) (by simp only [maxLen]; omega) (by rw [hz2]; omega) (Nat.zero_le _)
  have hn : xs.length + s.size = (xs ++ s.data.toList).length := by rw [List.length_append, hsz]
  rw [hn] at h2
  obtain ⟨A, c, rfl⟩ := own_slice h2
  subst hN
  refine ⟨A, c, w', h1, ?_, h3, h4⟩
  rw [List.map_append]
  exact h2

/-- append(xs, make([]byte, n)...) -/
theorem app_zeros (w : World) (ty : TypeId) (v : Value) (xs : List UInt8) (n : Nat) (h : w.ownsRow 0 5 1 v xs.length (xs.map cv)) (hl : xs.length + n ≤ 140737488355328) (N : Nat) (hN : N = (xs ++ List.replicate n 0).length) :
    ∃ A c w', (Builtin.append_ #[105, 3] ty #[v, .int .i64 n]).run Tryz.prog w = .ok (.slice A N c) w' ∧
      w'.ownsRow 0 5 1 (.slice A N c) N ((xs ++ List.replicate n 0).map cv) ∧ w.grownBy w' v.ownBlock ∧
      ((Value.slice A N c).ownBlock = v.ownBlock ∨ (Value.slice A N c).ownBlock = some w.heap.size) := by
  obtain ⟨i0, hi, hz0, hz1, hz2⟩ := info_parts infoU8
  obtain ⟨v', w', h1, h2, h3, h4⟩ := run_app (P := Tryz.prog) ty 0 hi hz1 rfl v xs.length _ h (AppSrc.zeros (kq := .i64) Tryz.underlying105 Tryz.underlying3 hi hz0 hz1 rfl rfl n (by simp only [maxLen]; omega) (by rw [hz2]; omega)) (by simp only [maxLen]; omega) (by rw [hz2]; omega) (Nat.zero_le _)
  have hn : xs.length + n = (xs ++ List.replicate n 0).length := by simp
  rw [hn] at h2
  obtain ⟨A, c, rfl⟩ := own_slice h2
  subst hN
  refine ⟨A, c, w', h1, ?_, h3, h4⟩
  rw [List.map_append, List.map_replicate]
  exact h2

/-- append(xs, x): x lies in a new block -/
theorem oapp_one (w : World) (ty : TypeId) (v : Value) (xs : List UInt8) (x : UInt8) (h : w.ownsRow 0 5 1 v xs.length (xs.map cv)) (hl : xs.length + 1 ≤ 140737488355328) (g : Nat) (hc : w.cell? ⟨g, 0, none⟩ = some (cv x)) (N : Nat) (hN : N = (xs ++ [x]).length) :
    ∃ A c w', (Builtin.append_ #[105, 105] ty #[v, .slice (some ⟨g, 0, none⟩) 1 1]).run Tryz.prog w = .ok (.slice A N c) w' ∧
      w'.ownsRow 0 5 1 (.slice A N c) N ((xs ++ [x]).map cv) ∧ w.grownBy w' v.ownBlock ∧
      ((Value.slice A N c).ownBlock = v.ownBlock ∨ (Value.slice A N c).ownBlock = some w.heap.size) := by
  obtain ⟨i0, hi, hz0, hz1, hz2⟩ := info_parts infoU8
  have hsrc : Src Tryz.prog 1 105 (.slice (some ⟨g, 0, none⟩) 1 1) 1 [cv x] w := Src.ofSlice w Tryz.underlying105 _ 1 1 _ rfl (fun j u hu => by
    match j, hu with
    | 0, hu => simp at hu; subst hu; simpa [Addr.add] using hc) (fun u hu => by simp at hu; subst hu; rfl)
  obtain ⟨v', w', h1, h2, h3, h4⟩ := run_app (P := Tryz.prog) ty 0 hi hz1 rfl v xs.length _ h (AppSrc.of_src Tryz.underlying105 hi hz0 hz1 hsrc) (by simp only [maxLen]; omega) (by rw [hz2]; omega) (Nat.zero_le _)
  have hn : xs.length + 1 = (xs ++ [x]).length := by simp
  rw [hn] at h2
  obtain ⟨A, c, rfl⟩ := own_slice h2
  subst hN
  refine ⟨A, c, w', h1, ?_, h3, h4⟩
  rw [List.map_append]
  exact h2

theorem mem_ofoot {b k : Nat} {dv sv : Value} : k ∈ ofoot b dv sv ↔ k = b ∨ dv.ownBlock = some k ∨ sv.ownBlock = some k := by
  simp [ofoot, Option.mem_toList]

set_option maxRecDepth 100000 in
set_option maxHeartbeats 2000000 in
theorem write_any (w : World) (b : Nat) (o : Ob) (dv sv : Value) (h : OBox w b o dv sv) (s : ByteArray) (fin : Bool) (hs : s.size ≤ 9223372036854700000) :
    Calls Tryz.prog 37 #[.pointer (some ⟨b, 0, none⟩), .string s, .bool fin] w fun e w' =>
      e = .returned (.int .i64 (o.writeErr s.data.toList)) ∧ OStep w b dv sv (o.write s.data.toList fin) w' := by
  have hc1 := h.c1
  have hc2 := h.c2
  have hc4 := h.c4
  have hc5 := h.c5
  have hsz := h.wf.size
  have hsl : s.data.toList.length = s.size := by rw [Array.length_toList]; rfl
  by_cases h0 : o.writeErr s.data.toList = 0
  · obtain ⟨he, hr, hl⟩ := Ob.writeErr_zero h0
    rw [he] at hc4
    rw [hr] at hc5
    rw [hsl] at hl
    have hst := h.wf.stl
    rw [he] at hst
    simp only [Bool.toNat_false, Nat.add_zero] at hst
    obtain ⟨A, c, rfl, _, _⟩ := h.dv_form
    have hE : ∀ v : Bool, Hid (o.writeErr s.data.toList = 0 ∧ o.write s.data.toList v = { o with data := o.data ++ s.data.toList, st := o.st ++ List.replicate s.size 0 ++ (if v then [0] else []), ended := v }) := fun v => hide (by
      refine ⟨h0, ?_⟩
      unfold Ob.write
      rw [if_pos h0, hsl])
    have hE := hE fin
    have hW := h.wf.write s.data.toList fin
    rw [hE.out.2] at hW
    -- the first append, and its store
    obtain ⟨n1, hn1⟩ : ∃ n1, n1 = (o.data ++ s.data.toList).length := ⟨_, rfl⟩
    obtain ⟨A1, c1, w1, hr1, ho1, hg1, hb1⟩ := app_string w 105 (.slice A o.data.length c) o.data s h.dat (by omega) n1 hn1
    have m1 : Mod (Value.slice A o.data.length c).ownBlock.toList w w1 := Mod.of_grown hg1
    have hbd : b ∉ (Value.slice A o.data.length c).ownBlock.toList := fun hm => own_blk_ne h.dat h.blk (by decide) b (by simpa [Option.mem_toList] using hm) rfl
    have hbs : ∀ k, sv.ownBlock = some k → k ≠ b := own_blk_ne h.sta h.blk (by decide)
    have hblt := h.blk.lt
    have k1 := m1.blk h.blk hbd
    have s1 := m1.own h.sta (fun k hk hm => h.dis k (by simpa [Option.mem_toList] using hm) hk)
    obtain ⟨V1, hV1⟩ : ∃ V1, V1 = Value.slice A1 n1 c1 := ⟨_, rfl⟩
    rw [← hV1] at ho1 hb1
    have hv1b : ∀ k, V1.ownBlock = some k → k ≠ b := fun k hk => by
      rcases hb1 with e | e
      · exact own_blk_ne h.dat h.blk (by decide) k (by rw [← e, hk])
      · rw [e] at hk; cases hk; omega
    have hv1s : ∀ k, V1.ownBlock = some k → sv.ownBlock ≠ some k := fun k hk hk2 => by
      rcases hb1 with e | e
      · exact h.dis k (by rw [← e, hk]) hk2
      · rw [e] at hk; cases hk; exact absurd (own_lt h.sta _ hk2) (by omega)
    have k2 := k1.set_ 1 V1
    have d2 := own_far (p := ⟨b, 1, none⟩) ho1 hv1b V1
    have s2 := own_far (p := ⟨b, 1, none⟩) s1 hbs V1
    have m2 : Mod (ofoot b (.slice A o.data.length c) sv) w (w1.setCell ⟨b, 1, none⟩ V1) := (m1.mono (fun x hx => .inl (mem_ofoot.2 (.inr (.inl (by simpa [Option.mem_toList] using hx)))))).setCell (.inl (by simp [ofoot])) V1
    -- the second
    obtain ⟨n2, hn2⟩ : ∃ n2, n2 = (o.st ++ List.replicate s.size 0).length := ⟨_, rfl⟩
    obtain ⟨A2, c2, w3, hr2, ho2, hg2, hb2⟩ := app_zeros (w1.setCell ⟨b, 1, none⟩ V1) 105 sv o.st s.size s2 (by omega) n2 hn2
    have m3 : Mod sv.ownBlock.toList (w1.setCell ⟨b, 1, none⟩ V1) w3 := Mod.of_grown hg2
    have k3 := m3.blk k2 (fun hm => hbs b (by simpa [Option.mem_toList] using hm) rfl)
    have d3 := m3.own d2 (fun k hk hm => hv1s k hk (by simpa [Option.mem_toList] using hm))
    obtain ⟨V2, hV2⟩ : ∃ V2, V2 = Value.slice A2 n2 c2 := ⟨_, rfl⟩
    rw [← hV2] at ho2 hb2
    have hsz2 : w.heap.size ≤ (w1.setCell ⟨b, 1, none⟩ V1).heap.size := m2.size
    have hv2b : ∀ k, V2.ownBlock = some k → k ≠ b := fun k hk => by
      rcases hb2 with e | e
      · exact hbs k (by rw [← e, hk])
      · rw [e] at hk; cases hk; omega
    have hv12 : ∀ k, V1.ownBlock = some k → V2.ownBlock ≠ some k := fun k hk hk2 => by
      rcases hb2 with e | e
      · exact hv1s k hk (by rw [← e, hk2])
      · rw [e] at hk2; cases hk2; exact absurd (own_lt d2 _ hk) (by omega)
    have k4 := k3.set_ 2 V2
    have d4 := own_far (p := ⟨b, 2, none⟩) d3 hv1b V2
    have s4 := own_far (p := ⟨b, 2, none⟩) ho2 hv2b V2
    have m4 : Mod (ofoot b (.slice A o.data.length c) sv) w (w3.setCell ⟨b, 2, none⟩ V2) := (m2.trans m3 (fun x hx => .inl (mem_ofoot.2 (.inr (.inr (by simpa [Option.mem_toList] using hx)))))).setCell (.inl (by simp [ofoot])) V2
    have f1 := k1.frozen 1
    have g1 : w1.cell? ⟨b, 1, none⟩ = some (.slice A o.data.length c) := k1.cell 1
    have g2 : w1.cell? ⟨b, 2, none⟩ = some sv := k1.cell 2
    have f3 := k3.frozen 2
    have g3 : w3.cell? ⟨b, 2, none⟩ = some sv := k3.cell 2
    have hf1 : ∀ k, V1.ownBlock = some k → k ∈ ofoot b (.slice A o.data.length c) sv ∨ w.heap.size ≤ k := fun k hk => by
      rcases hb1 with e | e
      · exact .inl (mem_ofoot.2 (.inr (.inl (by rw [← e, hk]))))
      · rw [e] at hk; cases hk; exact .inr (Nat.le_refl _)
    have hf2 : ∀ k, V2.ownBlock = some k → k ∈ ofoot b (.slice A o.data.length c) sv ∨ w.heap.size ≤ k := fun k hk => by
      rcases hb2 with e | e
      · exact .inl (mem_ofoot.2 (.inr (.inr (by rw [← e, hk]))))
      · rw [e] at hk; cases hk; exact .inr hsz2
    clear hbd m1 m2 m3 s1 s2 d2 d3 k1 k2 ho1 ho2 hg1 hg2 hb1 hb2 hv1s
    have Hr1 := hide hr1
    have Hr2 := hide hr2
    clear hr1 hr2
    have Hs := hide hsl
    have Ho := hide h0
    have Hst := hide hst
    clear hsl h0 hst
    have Hn1 := hide hn1
    have Hn2 := hide hn2
    cases fin
    · have hfin : OStep w b (.slice A o.data.length c) sv (o.write s.data.toList false) (w3.setCell ⟨b, 2, none⟩ V2) := by
        rw [hE.out.2]
        rw [if_neg (by simp), List.append_nil] at hW ⊢
        refine ⟨V1, V2, ⟨?_, by rw [hn1] at d4; exact d4, by rw [hn2] at s4; exact s4, hv12, hW⟩, m4, fun k hk => ?_⟩
        · rw [he] at k4
          exact k4
        · rcases mem_ofoot.1 hk with e | e | e
          · exact .inl (mem_ofoot.2 (.inl e))
          · exact hf1 k e
          · exact hf2 k e
      have Hf := hide hfin
      clear hfin h d4 s4 k4 m4 hv12 hv2b hv1b hf1 hf2 k3 hW hn1 hn2
      subst hV1 hV2
      go_enter Tryz.func37, Tryz.ntmps37
      go_wp2_with (first
        | (at_builtin; refine Lib.wpList_append_run _ rfl (.tmp 32) (.tmp 33) 105 9 rfl (.slice A o.data.length c) (.string s) rfl rfl _ w1 Hr1.out ?_)
        | (at_builtin; refine Lib.wpList_append_run _ rfl (.tmp 41) (.tmp 43) 105 3 rfl sv (.int .i64 s.size) rfl rfl _ w3 Hr2.out ?_))
      go_ret
      exact ⟨by rw [hE.out.1]; rfl, Hf.out⟩
    · have f4 := k3.frozen 4
      have g4 : w3.cell? ⟨b, 4, none⟩ = some (.bool false) := (k3.cell 4).trans (by rw [he]; rfl)
      -- the end is set; its byte lies in a new block; the third append
      have k5 := k4.set_ 4 (.bool true)
      have d5 := own_far (p := ⟨b, 4, none⟩) d4 hv1b (.bool true)
      have s5 := own_far (p := ⟨b, 4, none⟩) s4 hv2b (.bool true)
      obtain ⟨w5, hw5⟩ : ∃ w5, w5 = (w3.setCell ⟨b, 2, none⟩ V2).setCell ⟨b, 4, none⟩ (.bool true) := ⟨_, rfl⟩
      rw [← hw5] at k5 d5 s5
      have hz5 : w5.heap.size = w3.heap.size := by rw [hw5]; simp [World.setCell]
      have m5 : Mod (ofoot b (.slice A o.data.length c) sv) w w5 := by rw [hw5]; exact m4.setCell (.inl (by simp [ofoot])) _
      have m6 := m5.alloc (.cells #[.int .u8 0] 5)
      have k6 := k5.alloc (.cells #[.int .u8 0] 5)
      have d6 := d5.alloc (.cells #[.int .u8 0] 5)
      have s6 := s5.alloc (.cells #[.int .u8 0] 5)
      obtain ⟨n3, hn3⟩ : ∃ n3, n3 = (o.st ++ List.replicate s.size 0 ++ [0]).length := ⟨_, rfl⟩
      obtain ⟨A3, c3, w7, hr3, ho3, hg3, hb3⟩ := oapp_one (w5.alloc (.cells #[.int .u8 0] 5)) 105 V2 (o.st ++ List.replicate s.size 0) 0 (by rw [← hn2]; exact s6) (by simp only [List.length_append, List.length_replicate]; rw [Hst.out]; omega) w3.heap.size (by rw [← hz5]; exact World.cell?_alloc_new _ _ _ _) n3 hn3
      have m7 : Mod V2.ownBlock.toList (w5.alloc (.cells #[.int .u8 0] 5)) w7 := Mod.of_grown hg3
      have k7 := m7.blk k6 (fun hm => hv2b b (by simpa [Option.mem_toList] using hm) rfl)
      have d7 := m7.own d6 (fun k hk hm => hv12 k hk (by simpa [Option.mem_toList] using hm))
      obtain ⟨V3, hV3⟩ : ∃ V3, V3 = Value.slice A3 n3 c3 := ⟨_, rfl⟩
      rw [← hV3] at ho3 hb3
      have hsz6 : w.heap.size ≤ (w5.alloc (.cells #[.int .u8 0] 5)).heap.size := m6.size
      have hv3b : ∀ k, V3.ownBlock = some k → k ≠ b := fun k hk => by
        rcases hb3 with e | e
        · exact hv2b k (by rw [← e, hk])
        · rw [e] at hk; cases hk; omega
      have hv13 : ∀ k, V1.ownBlock = some k → V3.ownBlock ≠ some k := fun k hk hk2 => by
        rcases hb3 with e | e
        · exact hv12 k hk (by rw [← e, hk2])
        · rw [e] at hk2; cases hk2; exact absurd (own_lt d6 _ hk) (by omega)
      have hf3 : ∀ k, V3.ownBlock = some k → k ∈ ofoot b (.slice A o.data.length c) sv ∨ w.heap.size ≤ k := fun k hk => by
        rcases hb3 with e | e
        · exact hf2 k (by rw [← e, hk])
        · rw [e] at hk; cases hk; exact .inr hsz6
      have k8 := k7.set_ 2 V3
      have d8 := own_far (p := ⟨b, 2, none⟩) d7 hv1b V3
      have s8 := own_far (p := ⟨b, 2, none⟩) ho3 hv3b V3
      have m8 : Mod (ofoot b (.slice A o.data.length c) sv) w (w7.setCell ⟨b, 2, none⟩ V3) := (m6.trans m7 (fun x hx => hf2 x (by simpa [Option.mem_toList] using hx))).setCell (.inl (by simp [ofoot])) V3
      have f7 := k7.frozen 2
      have g7 : w7.cell? ⟨b, 2, none⟩ = some V2 := k7.cell 2
      have hfin : OStep w b (.slice A o.data.length c) sv (o.write s.data.toList true) (w7.setCell ⟨b, 2, none⟩ V3) := by
        rw [hE.out.2]
        rw [if_pos rfl] at hW ⊢
        refine ⟨V1, V3, ⟨k8, by rw [hn1] at d8; exact d8, by rw [hn3] at s8; exact s8, hv13, hW⟩, m8, fun k hk => ?_⟩
        rcases mem_ofoot.1 hk with e | e | e
        · exact .inl (mem_ofoot.2 (.inl e))
        · exact hf1 k e
        · exact hf3 k e
      have Hf := hide hfin
      have Hr3 := hide hr3
      clear hfin h d4 s4 k4 m4 hv12 hv2b hv1b hf1 hf2 k3 hW hn1 hn2 k5 d5 s5 m5 m6 k6 d6 s6 hn3 ho3 hg3 hb3 m7 k7 d7 hz5 hsz6 hv3b hv13 hf3 k8 d8 s8 m8 hr3
      subst hV1 hV2 hV3 hw5
      go_enter Tryz.func37, Tryz.ntmps37
      go_wp2_with (first
        | (at_builtin; refine Lib.wpList_append_run _ rfl (.tmp 32) (.tmp 33) 105 9 rfl (.slice A o.data.length c) (.string s) rfl rfl _ w1 Hr1.out ?_)
        | (at_builtin; refine Lib.wpList_append_run _ rfl (.tmp 41) (.tmp 43) 105 3 rfl sv (.int .i64 s.size) rfl rfl _ w3 Hr2.out ?_)
        | (at_builtin; refine Lib.wpList_append_run _ rfl (.tmp 55) (.tmp 56) 105 105 rfl (.slice A2 n2 c2) (.slice (some ⟨w3.heap.size, 0, none⟩) 1 1) rfl rfl _ w7 Hr3.out ?_))
      go_ret
      exact ⟨by rw [hE.out.1]; rfl, Hf.out⟩
  · have hE : Hid (o.writeErr s.data.toList = (if o.ended || o.reset then 22 else 4) ∧ o.write s.data.toList fin = o) := hide (by
      constructor
      · unfold Ob.writeErr at h0 ⊢
        split
        · rfl
        · rename_i h1
          rw [if_neg h1] at h0
          split
          · rfl
          · rename_i h2; rw [if_neg h2] at h0; exact absurd rfl h0
      · unfold Ob.write; rw [if_neg h0])
    have Hf := hide (OStep.of_mod h (Mod.refl [] w))
    obtain ⟨A, c, rfl, _, _⟩ := h.dv_form
    have hlong : Hid (o.ended = false → o.reset = false → 65536 < o.data.length + s.size) := hide (fun he hr => by
      unfold Ob.writeErr at h0
      rw [he, hr, hsl] at h0
      simp at h0
      omega)
    clear h0 h hsl
    cases he : o.ended <;> cases hr : o.reset <;> rw [he] at hc4 <;> rw [hr] at hc5
    · have hlong2 := hlong.out he hr
      simp only [he, hr] at hE
      clear he hr
      go_enter Tryz.func37, Tryz.ntmps37
      go_wp2_with fail
      go_ret
      exact ⟨by rw [hE.out.1]; rfl, by rw [hE.out.2]; exact Hf.out⟩
    all_goals
      simp only [he, hr] at hE
      clear he hr
      go_enter Tryz.func37, Tryz.ntmps37
      go_wp2_with fail
      go_ret
      exact ⟨by rw [hE.out.1]; rfl, by rw [hE.out.2]; exact Hf.out⟩
end Go.Proofs.YtjdfemfobcjecaaGreat

/-
  a row of numbers (uint64) in a block of their own: reads, swaps; cmp.Less.
-/
namespace Go.Proofs.YtjdfemfobcjecaaGreat
open Go.RowKit Go.Sort

/-- a number as it lies in a cell -/
def U (z : Int) : Value := .int .u64 z
/-- Block g is just the numbers d, and R behind them. -/
def Row (w : World) (g : Nat) (d : Array Int) (R : List Value) : Prop := Blk w g 22 (d.toList.map U ++ R).toArray

section
variable {w w' : World} {g : Nat} {d : Array Int} {R : List Value}
theorem Row.cell (h : Row w g d R) {j : Nat} (hj : j < d.size) : w.cell? ⟨g, j, none⟩ = some (.int .u64 d[j]!) := by
  rw [Blk.cell h j]
  have h1 : j < (d.toList.map U).length := by simpa using hj
  rw [List.getElem?_toArray, List.getElem?_append_left h1]
  simp [hj, U]
theorem Row.frozen (h : Row w g d R) (j : Nat) : w.frozen? ⟨g, j, none⟩ = false := Blk.frozen h j
theorem Row.mod {F : List Nat} (h : Row w g d R) (hm : Mod F w w') (hg : g ∉ F) : Row w' g d R := hm.blk h hg
theorem Row.drewN (h : Row w g d R) (n : Nat) : Row (w.drewN n) g d R := h
theorem Row.lt (h : Row w g d R) : g < w.heap.size := Blk.lt h
theorem Row.put (h : Row w g d R) (j : Nat) (z : Int) (hj : j < d.size) : Row (w.setCell ⟨g, j, none⟩ (.int .u64 z)) g (d.setIfInBounds j z) R := by
  have := Blk.set_ h j (.int .u64 z)
  have e : ((d.toList.map U ++ R).toArray).setIfInBounds j (.int .u64 z) = ((d.setIfInBounds j z).toList.map U ++ R).toArray := by
    rw [List.setIfInBounds_toArray, List.set_append_left _ _ (by simpa using hj)]
    simp [List.map_set, U]
  rw [e] at this
  exact this
/-- the two stores of a swap -/
theorem Row.swap (h : Row w g d R) {i j : Nat} (hi : i < d.size) (hj : j < d.size) :
    Row ((w.setCell ⟨g, i, none⟩ (.int .u64 d[j]!)).setCell ⟨g, j, none⟩ (.int .u64 d[i]!)) g (swp d i j) R :=
  (h.put i d[j]! hi).put j d[i]! (by simpa using hj)
theorem Row.swapN (h : Row w g d R) {i j : Nat} {x y : Int} (hi : i < d.size) (hj : j < d.size) (hx : d[j]! = x) (hy : d[i]! = y) (q : Nat) :
    Row (((w.drewN q).setCell ⟨g, i, none⟩ (.int .u64 x)).setCell ⟨g, j, none⟩ (.int .u64 y)) g (swp d i j) R := by
  subst hx hy
  exact Row.swap (w := w.drewN q) h hi hj
theorem Mod.swapN {w0 : World} (hm : Mod [g] w0 w) (q : Nat) (i j : Nat) (x y : Value) : Mod [g] w0 (((w.drewN q).setCell ⟨g, i, none⟩ x).setCell ⟨g, j, none⟩ y) :=
  ((hm.drewN q).setCell (p := ⟨g, i, none⟩) (.inl (by simp)) x).setCell (p := ⟨g, j, none⟩) (.inl (by simp)) y
theorem swap_mod (x y : Value) {i j : Nat} : Mod [g] w ((w.setCell ⟨g, i, none⟩ x).setCell ⟨g, j, none⟩ y) :=
  ((Mod.refl _ w).setCell (p := ⟨g, i, none⟩) (.inl (by simp)) x).setCell (p := ⟨g, j, none⟩) (.inl (by simp)) y
end

set_option maxHeartbeats 400000 in
theorem isNaN_u64 (x : Int) (w : World) : Calls Tryz.prog 116 #[.int .u64 x] w fun e w' => e = .returned (.bool false) ∧ w' = w := by
  go_enter Tryz.func116, Tryz.ntmps116
  go_wp2
  go_ret
  exact ⟨by simp, rfl⟩
set_option maxHeartbeats 400000 in
theorem less_u64 (x y : Int) (w : World) : Calls Tryz.prog 97 #[.int .u64 x, .int .u64 y] w fun e w' => e = .returned (.bool (ltInt x y)) ∧ w' = w := by
  go_enter Tryz.func97, Tryz.ntmps97
  go_wp2_with (go_at_call 116; refine (isNaN_u64 _ _).mono ?_; rintro e w' ⟨rfl, rfl⟩)
  go_ret
  exact ⟨rfl, rfl⟩
theorem lessQ (x y : Int) (w : World) : Calls Tryz.prog 97 #[.int .u64 x, .int .u64 y] w fun e w' => e = .returned (.bool (ltInt x y)) ∧ ∃ n, w' = w.drewN n :=
  (less_u64 x y w).mono fun _ _ ⟨h1, h2⟩ => ⟨h1, 0, h2⟩
end Go.Proofs.YtjdfemfobcjecaaGreat

/-
  slices.partitionEqualOrdered at uint64.
-/
namespace Go.Proofs.YtjdfemfobcjecaaGreat
open Go.RowKit Go.Sort

theorem up_yes {p : Int → Bool} {d : Array Int} {j i : Nat} (h : i ≤ j) (hp : p d[i]! = true) : scanUp p d j i = scanUp p d j (i + 1) := by
  rw [scanUp.eq_def]; simp [h, hp]
theorem up_stop {p : Int → Bool} {d : Array Int} {j i : Nat} (h : j < i ∨ p d[i]! = false) : scanUp p d j i = i := by
  rw [scanUp.eq_def]
  rcases h with h | h
  · simp [show ¬ i ≤ j by omega]
  · simp [h]
theorem down_yes {p : Int → Bool} {d : Array Int} {i j : Nat} (h : i ≤ j + 1) (hp : p d[j + 1]! = true) : scanDown p d i (j + 1) = scanDown p d i j := by
  rw [scanDown]; simp [h, hp]
theorem down_stop {p : Int → Bool} {d : Array Int} {i j : Nat} (h : j < i ∨ p d[j]! = false) : scanDown p d i j = j := by
  cases j with
  | zero => rw [scanDown]
  | succ k =>
    rw [scanDown]
    rcases h with h | h
    · simp [show ¬ i ≤ k + 1 by omega]
    · simp [h]

set_option maxHeartbeats 8000000 in
theorem partEq_u64 (w : World) (g cap a b pv : Nat) (d : Array Int) (R : List Value) (hr : Row w g d R) (hb : b ≤ d.size) (ha : a ≤ pv) (hp : pv < b) (hsz : d.size ≤ 1099511627776) (len : Nat) (hlen : d.size = len) :
    Calls Tryz.prog 98 #[.slice (some ⟨g, 0, none⟩) len cap, .int .i64 a, .int .i64 b, .int .i64 pv] w fun e w' =>
      e = .returned (.int .i64 ((partitionEqual ltInt d a b pv).1 : Nat)) ∧ Row w' g (partitionEqual ltInt d a b pv).2 R ∧ Mod [g] w w' := by
  subst hlen
  have hm := Mod.refl [g] w
  go_enter Tryz.func98, Tryz.ntmps98
  go_wp2_with fail
  obtain ⟨x, hx⟩ : ∃ x, d[a]! = x := ⟨_, rfl⟩
  obtain ⟨y, hy⟩ : ∃ x, d[pv]! = x := ⟨_, rfl⟩
  have c1 := hr.cell (j := a) (by omega)
  have c2 := hr.cell (j := pv) (by omega)
  have f1 := hr.frozen a
  have f2 := hr.frozen pv
  rw [hx] at c1
  rw [hy] at c2
  have hsi : a < d.size := by omega
  have hsj : pv < d.size := by omega
  have Hr := hide (hr.swapN (i := a) (j := pv) (by omega) (by omega) hy hx 1)
  have Hm := hide (hm.swapN 1 a pv (.int .u64 y) (.int .u64 x))
  go_upto_region 1 with fail
  go_cut [] (fun wx => Row wx g (swp d a pv) R ∧ Mod [g] w wx)
  case first =>
    by_cases hpa : a = pv
    · subst hpa
      obtain rfl : x = y := hx.symm.trans hy
      go_region
      all_goals (go_wp2_with fail; go_meet)
      all_goals exact ⟨Hr.out, Hm.out⟩
    · have hap : ¬ pv = a := fun e => hpa e.symm
      go_region
      all_goals (go_wp2_with fail; go_meet)
      all_goals exact ⟨Hr.out, Hm.out⟩
  case rest =>
    clear hr hm c1 c2 f1 f2 Hr Hm hx hy
    obtain ⟨hr, hm⟩ := hcut
    obtain ⟨d0, hd0⟩ : ∃ z, swp d a pv = z := ⟨_, rfl⟩
    have hsd0 : d0.size = d.size := by rw [← hd0, size_swp]; try omega
    rw [hd0] at hr
    have Hd0 := hide hd0
    clear hd0
    have HD : Hid (partitionEqual ltInt d a b pv = partEqLoop ltInt a (a + 1) (b - 1) d0) := hide (by rw [← Hd0.out]; rfl)
    have has : a < d.size := by omega
    go_wp2_with fail
    go_loopw [9, 10] (fun u v wr => ∃ (i j : Nat) (dk : Array Int), u = .int .i64 (i : Int) ∧ v = .int .i64 (j : Int) ∧ a < i ∧ i ≤ j + 1 ∧ j < b ∧ dk.size = d.size ∧ Row wr g dk R ∧ Mod [g] w wr ∧ partEqLoop ltInt a i j dk = partEqLoop ltInt a (a + 1) (b - 1) d0)
      (fun u v _ => (intOf v + 1 - intOf u).toNat)
    case atStart => exact ⟨a + 1, b - 1, d0, by go_num, by congr 1; omega, by omega, by omega, by omega, hsd0, hr, hm, rfl⟩
    case round =>
      clear hr hm
      obtain ⟨i, j, dk, rfl, rfl, hai, hij, hjb, hsk, hr, hm, hO⟩ := hrel
      have HO := hide hO
      clear hO
      go_upto_block 2 with fail
      go_cut [9] (fun v wx => ∃ n1 : Nat, v = .int .i64 (n1 : Int) ∧ (i ≤ n1 ∧ n1 ≤ j + 1) ∧ scanUp (fun z => !ltInt dk[a]! z) dk j i = n1 ∧ (j < n1 ∨ (fun z => !ltInt dk[a]! z) dk[n1]! = false) ∧ Row wx g dk R ∧ Mod [g] w wx)
      case first =>
        go_wp2_with fail
        go_loopw [9] (fun v wx => ∃ n1 : Nat, v = .int .i64 (n1 : Int) ∧ (i ≤ n1 ∧ n1 ≤ j + 1) ∧ scanUp (fun z => !ltInt dk[a]! z) dk j n1 = scanUp (fun z => !ltInt dk[a]! z) dk j i ∧ Row wx g dk R ∧ Mod [g] w wx) (fun v _ => j + 1 - (intOf v).toNat)
        case atStart => exact ⟨i, rfl, ⟨Nat.le_refl _, by omega⟩, rfl, hr, hm⟩
        case round =>
          clear hr hm
          obtain ⟨n1, rfl, hn, hO, hr, hm⟩ := hrel
          obtain ⟨hn1, hn2⟩ := hn
          have HO := hide hO
          clear hO
          by_cases hle : n1 ≤ j
          · have hle' : (n1 : Int) ≤ j := by omega
            have hn1s : n1 < d.size := by omega
            obtain ⟨v, hv⟩ : ∃ x, dk[a]! = x := ⟨_, rfl⟩
            obtain ⟨t, ht⟩ : ∃ x, dk[n1]! = x := ⟨_, rfl⟩
            have c1 := hr.cell (j := a) (by omega)
            have c2 := hr.cell (j := n1) (by omega)
            rw [hv] at c1
            rw [ht] at c2
            have Hv := hide hv
            have Ht := hide ht
            clear hv ht
            cases hl : ltInt v t
            · go_wp2_with fail
              go_quiet (first | (go_at_call 97; refine Calls.quiet_of (lessQ _ _ _)))
              go_wp2_with fail
              go_roundw
              case rel => exact ⟨n1 + 1, by go_num, ⟨by omega, by omega⟩, by
                rw [← HO.out]
                skip
                skip
                exact (up_yes hle (by show (!ltInt _ _) = true; rw [Hv.out, Ht.out, hl]; try rfl)).symm, hr.drewN _, hm.drewN _⟩
              case measure => simp [intOf]; omega
            · go_wp2_with fail
              go_quiet (first | (go_at_call 97; refine Calls.quiet_of (lessQ _ _ _)))
              go_wp2_with fail
              go_meet
              have hst : (fun z => !ltInt dk[a]! z) dk[n1]! = false := by show (!ltInt _ _) = false; rw [Hv.out, Ht.out, hl]; try rfl
              exact ⟨n1, rfl, ⟨by omega, by omega⟩, by rw [← HO.out]; exact up_stop (.inr hst), .inr hst, hr.drewN _, hm.drewN _⟩
          · have hle' : decide ((n1 : Int) ≤ j) = false := decide_eq_false (by omega)
            go_wp2_with fail
            go_quiet (fail)
            go_wp2_with fail
            go_meet
            exact ⟨n1, rfl, ⟨by omega, by omega⟩, by rw [← HO.out]; exact up_stop (.inl (by omega)), .inl (by omega), hr.drewN _, hm.drewN _⟩
      case rest =>
        clear hr hm
        obtain ⟨i2, rfl, hi2b, hi2, hi2s, hr, hm⟩ := hcut
        obtain ⟨hi21, hi22⟩ := hi2b
        have Hi2 := hide hi2
        have Hi2s := hide hi2s
        clear hi2 hi2s
        go_upto_block 4 with fail
        go_cut [10] (fun v wx => ∃ n1 : Nat, v = .int .i64 (n1 : Int) ∧ (n1 ≤ j ∧ i2 ≤ n1 + 1) ∧ scanDown (fun z => ltInt dk[a]! z) dk i2 j = n1 ∧ (n1 < i2 ∨ (fun z => ltInt dk[a]! z) dk[n1]! = false) ∧ Row wx g dk R ∧ Mod [g] w wx)
        case first =>
          go_wp2_with fail
          go_loopw [10] (fun v wx => ∃ n1 : Nat, v = .int .i64 (n1 : Int) ∧ (n1 ≤ j ∧ i2 ≤ n1 + 1) ∧ scanDown (fun z => ltInt dk[a]! z) dk i2 n1 = scanDown (fun z => ltInt dk[a]! z) dk i2 j ∧ Row wx g dk R ∧ Mod [g] w wx) (fun v _ => (intOf v).toNat)
          case atStart => exact ⟨j, rfl, ⟨Nat.le_refl _, by omega⟩, rfl, hr, hm⟩
          case round =>
            clear hr hm
            obtain ⟨n1, rfl, hn, hO, hr, hm⟩ := hrel
            obtain ⟨hn1, hn2⟩ := hn
            have HO := hide hO
            clear hO
            by_cases hle : i2 ≤ n1
            · have hle' : (i2 : Int) ≤ n1 := by omega
              have hn1s : n1 < d.size := by omega
              obtain ⟨v, hv⟩ : ∃ x, dk[a]! = x := ⟨_, rfl⟩
              obtain ⟨t, ht⟩ : ∃ x, dk[n1]! = x := ⟨_, rfl⟩
              have c1 := hr.cell (j := a) (by omega)
              have c2 := hr.cell (j := n1) (by omega)
              rw [hv] at c1
              rw [ht] at c2
              have Hv := hide hv
              have Ht := hide ht
              clear hv ht
              cases hl : ltInt v t
              · go_wp2_with fail
                go_quiet (first | (go_at_call 97; refine Calls.quiet_of (lessQ _ _ _)))
                go_wp2_with fail
                go_meet
                have hst : (fun z => ltInt dk[a]! z) dk[n1]! = false := by show (ltInt _ _) = false; rw [Hv.out, Ht.out, hl]; try rfl
                exact ⟨n1, rfl, ⟨by omega, by omega⟩, by rw [← HO.out]; exact down_stop (.inr hst), .inr hst, hr.drewN _, hm.drewN _⟩
              · go_wp2_with fail
                go_quiet (first | (go_at_call 97; refine Calls.quiet_of (lessQ _ _ _)))
                go_wp2_with fail
                go_roundw
                case rel => exact ⟨n1 - 1, by congr 1; omega, ⟨by omega, by omega⟩, by
                  rw [← HO.out]
                  obtain ⟨k, rfl⟩ : ∃ k, n1 = k + 1 := ⟨n1 - 1, by omega⟩
                  rw [Nat.add_sub_cancel]
                  exact (down_yes (by omega) (by show (ltInt _ _) = true; rw [Hv.out, Ht.out, hl]; try rfl)).symm, hr.drewN _, hm.drewN _⟩
                case measure => simp [intOf]; omega
            · have hle' : decide ((i2 : Int) ≤ n1) = false := decide_eq_false (by omega)
              go_wp2_with fail
              go_quiet (fail)
              go_wp2_with fail
              go_meet
              exact ⟨n1, rfl, ⟨by omega, by omega⟩, by rw [← HO.out]; exact down_stop (.inl (by omega)), .inl (by omega), hr.drewN _, hm.drewN _⟩
        case rest =>
          clear hr hm
          obtain ⟨j2, rfl, hj2b, hj2, hj2s, hr, hm⟩ := hcut
          obtain ⟨hj21, hj22⟩ := hj2b
          have Hj2 := hide hj2
          have Hj2s := hide hj2s
          clear hj2 hj2s
          have HE : Hid (partEqLoop ltInt a i j dk = if i2 > j2 then (i2, dk) else partEqLoop ltInt a (i2 + 1) (j2 - 1) (swp dk i2 j2)) := hide (by
            have := partEqLoop_eq ltInt a i j dk
            rw [Hi2.out, Hj2.out] at this
            exact this)
          by_cases hgt : j2 < i2
          · have hgt' : (j2 : Int) < i2 := by omega
            go_wp2_with fail
            go_ret
            have he : partitionEqual ltInt d a b pv = (i2, dk) := by rw [HD.out, ← HO.out, HE.out, if_pos hgt]
            rw [he]
            exact ⟨rfl, hr, hm⟩
          · have hgt' : decide ((j2 : Int) < i2) = false := decide_eq_false (by omega)
            have hne : i2 < j2 := by
              rcases Nat.lt_or_ge i2 j2 with h | h
              · exact h
              · obtain rfl : i2 = j2 := by omega
                have e1 := Hi2s.out
                have e2 := Hj2s.out
                rcases e1 with e1 | e1
                · omega
                · rcases e2 with e2 | e2
                  · omega
                  · simp only at e1 e2; rw [e2] at e1; cases e1
            obtain ⟨x, hx⟩ : ∃ x, dk[i2]! = x := ⟨_, rfl⟩
            obtain ⟨y, hy⟩ : ∃ x, dk[j2]! = x := ⟨_, rfl⟩
            have c1 := hr.cell (j := i2) (by omega)
            have c2 := hr.cell (j := j2) (by omega)
            have f1 := hr.frozen i2
            have f2 := hr.frozen j2
            rw [hx] at c1
            rw [hy] at c2
            have hsi : i2 < d.size := by omega
            have hsj : j2 < d.size := by omega
            have Hr := hide (hr.swapN (i := i2) (j := j2) (by omega) (by omega) hy hx 1)
            have Hm := hide (hm.swapN 1 i2 j2 (.int .u64 y) (.int .u64 x))
            go_upto_region 8 with fail
            go_cut [] (fun wx => Row wx g (swp dk i2 j2) R ∧ Mod [g] w wx)
            case first =>
              have hpa : ¬ i2 = j2 := by omega
              have hap : ¬ j2 = i2 := by omega
              go_region
              all_goals (go_wp2_with fail; go_meet)
              all_goals exact ⟨Hr.out, Hm.out⟩
            case rest =>
              clear hr hm c1 c2 f1 f2 Hr Hm hx hy
              obtain ⟨hr, hm⟩ := hcut
              obtain ⟨d2, hd2⟩ : ∃ z, swp dk i2 j2 = z := ⟨_, rfl⟩
              have hsd2 : d2.size = d.size := by rw [← hd2, size_swp]; try omega
              rw [hd2] at hr
              have Hd2 := hide hd2
              clear hd2
              go_wp2_with fail
              go_roundw
              case rel => exact ⟨i2 + 1, j2 - 1, d2, by go_num, by congr 1; omega, by omega, by omega, by omega, hsd2, hr, hm, by rw [← HO.out, HE.out, if_neg hgt, Hd2.out]⟩
              case measure => simp [intOf]; omega
end Go.Proofs.YtjdfemfobcjecaaGreat

/-
  slices.partitionOrdered at uint64.
-/
namespace Go.Proofs.YtjdfemfobcjecaaGreat
open Go.RowKit Go.Sort

set_option maxRecDepth 100000 in
set_option maxHeartbeats 16000000 in
theorem part_u64 (w : World) (g cap a b pv : Nat) (d : Array Int) (R : List Value) (hr : Row w g d R) (hb : b ≤ d.size) (ha : a ≤ pv) (hp : pv < b) (hsz : d.size ≤ 1099511627776) (len : Nat) (hlen : d.size = len) :
    Calls Tryz.prog 99 #[.slice (some ⟨g, 0, none⟩) len cap, .int .i64 a, .int .i64 b, .int .i64 pv] w fun e w' =>
      e = .returned (.tuple #[.int .i64 ((partition ltInt d a b pv).1 : Nat), .bool (partition ltInt d a b pv).2.1]) ∧ Row w' g (partition ltInt d a b pv).2.2 R ∧ Mod [g] w w' := by
  subst hlen
  have hm := Mod.refl [g] w
  go_enter Tryz.func99, Tryz.ntmps99
  go_wp2_with fail
  obtain ⟨x, hx⟩ : ∃ x, d[a]! = x := ⟨_, rfl⟩
  obtain ⟨y, hy⟩ : ∃ x, d[pv]! = x := ⟨_, rfl⟩
  have c1 := hr.cell (j := a) (by omega)
  have c2 := hr.cell (j := pv) (by omega)
  have f1 := hr.frozen a
  have f2 := hr.frozen pv
  rw [hx] at c1
  rw [hy] at c2
  have hsi : a < d.size := by omega
  have hsj : pv < d.size := by omega
  have Hr := hide (hr.swapN (i := a) (j := pv) (by omega) (by omega) hy hx 1)
  have Hm := hide (hm.swapN 1 a pv (.int .u64 y) (.int .u64 x))
  go_upto_region 1 with fail
  go_cut [] (fun wx => Row wx g (swp d a pv) R ∧ Mod [g] w wx)
  case first =>
    by_cases hpa : a = pv
    · subst hpa
      obtain rfl : x = y := hx.symm.trans hy
      go_region
      all_goals (go_wp2_with fail; go_meet)
      all_goals exact ⟨Hr.out, Hm.out⟩
    · have hap : ¬ pv = a := fun e => hpa e.symm
      go_region
      all_goals (go_wp2_with fail; go_meet)
      all_goals exact ⟨Hr.out, Hm.out⟩
  case rest =>
    clear hr hm c1 c2 f1 f2 Hr Hm hx hy
    obtain ⟨hr, hm⟩ := hcut
    obtain ⟨d0, hd0⟩ : ∃ z, swp d a pv = z := ⟨_, rfl⟩
    have hsd0 : d0.size = d.size := by rw [← hd0, size_swp]; try omega
    rw [hd0] at hr
    have Hd0 := hide hd0
    clear hd0
    have has : a < d.size := by omega
    obtain ⟨i0, hi0⟩ : ∃ i, i = a + 1 := ⟨_, rfl⟩
    obtain ⟨j0, hj0⟩ : ∃ i, i = b - 1 := ⟨_, rfl⟩
    have hi0' : (a : Int) + 1 = i0 := by omega
    have hj0' : (b : Int) - 1 = j0 := by omega
    have hi0a : a < i0 := by omega
    have hj0b : j0 < b := by omega
    have hij0 : i0 ≤ j0 + 1 := by omega
    have Hi0 := hide hi0
    have Hj0 := hide hj0
    clear hi0 hj0
    have hwi0 : IntKind.i64.wrap (i0 : Int) = i0 := IntWalk.i64_in _ (by omega)
    have hwj0 : IntKind.i64.wrap (j0 : Int) = j0 := IntWalk.i64_in _ (by omega)
    go_upto_block 0 with fail
    go_cut [10] (fun v wx => ∃ n1 : Nat, v = .int .i64 (n1 : Int) ∧ (i0 ≤ n1 ∧ n1 ≤ j0 + 1) ∧ scanUp (fun z => ltInt z d0[a]!) d0 j0 i0 = n1 ∧ (j0 < n1 ∨ (fun z => ltInt z d0[a]!) d0[n1]! = false) ∧ Row wx g d0 R ∧ Mod [g] w wx)
    case first =>
      go_wp2_with fail
      go_loopw [10] (fun v wx => ∃ n1 : Nat, v = .int .i64 (n1 : Int) ∧ (i0 ≤ n1 ∧ n1 ≤ j0 + 1) ∧ scanUp (fun z => ltInt z d0[a]!) d0 j0 n1 = scanUp (fun z => ltInt z d0[a]!) d0 j0 i0 ∧ Row wx g d0 R ∧ Mod [g] w wx) (fun v _ => j0 + 1 - (intOf v).toNat)
      case atStart => exact ⟨i0, rfl, ⟨Nat.le_refl _, by omega⟩, rfl, hr, hm⟩
      case round =>
        clear hr hm
        obtain ⟨n1, rfl, hn, hO, hr, hm⟩ := hrel
        obtain ⟨hn1, hn2⟩ := hn
        have HO := hide hO
        clear hO
        by_cases hle : n1 ≤ j0
        · have hle' : (n1 : Int) ≤ j0 := by omega
          have hn1s : n1 < d.size := by omega
          obtain ⟨v, hv⟩ : ∃ x, d0[a]! = x := ⟨_, rfl⟩
          obtain ⟨t, ht⟩ : ∃ x, d0[n1]! = x := ⟨_, rfl⟩
          have c1 := hr.cell (j := a) (by omega)
          have c2 := hr.cell (j := n1) (by omega)
          rw [hv] at c1
          rw [ht] at c2
          have Hv := hide hv
          have Ht := hide ht
          clear hv ht
          cases hl : ltInt t v
          · go_wp2_with fail
            go_quiet (first | (go_at_call 97; refine Calls.quiet_of (lessQ _ _ _)))
            go_wp2_with fail
            go_meet
            have hst : (fun z => ltInt z d0[a]!) d0[n1]! = false := by show (ltInt _ _) = false; rw [Hv.out, Ht.out, hl]; try rfl
            exact ⟨n1, rfl, ⟨by omega, by omega⟩, by rw [← HO.out]; exact up_stop (.inr hst), .inr hst, hr.drewN _, hm.drewN _⟩
          · go_wp2_with fail
            go_quiet (first | (go_at_call 97; refine Calls.quiet_of (lessQ _ _ _)))
            go_wp2_with fail
            go_roundw
            case rel => exact ⟨n1 + 1, by go_num, ⟨by omega, by omega⟩, by
              rw [← HO.out]
              skip
              skip
              exact (up_yes hle (by show (ltInt _ _) = true; rw [Hv.out, Ht.out, hl]; try rfl)).symm, hr.drewN _, hm.drewN _⟩
            case measure => simp [intOf]; omega
        · have hle' : decide ((n1 : Int) ≤ j0) = false := decide_eq_false (by omega)
          go_wp2_with fail
          go_quiet (fail)
          go_wp2_with fail
          go_meet
          exact ⟨n1, rfl, ⟨by omega, by omega⟩, by rw [← HO.out]; exact up_stop (.inl (by omega)), .inl (by omega), hr.drewN _, hm.drewN _⟩
    case rest =>
      clear hr hm
      obtain ⟨i1, rfl, hi1b, hi1, hi1s, hr, hm⟩ := hcut
      obtain ⟨hi11, hi12⟩ := hi1b
      have Hi1 := hide hi1
      have Hi1s := hide hi1s
      clear hi1 hi1s
      go_upto_block 2 with fail
      go_cut [11] (fun v wx => ∃ n1 : Nat, v = .int .i64 (n1 : Int) ∧ (n1 ≤ j0 ∧ i1 ≤ n1 + 1) ∧ scanDown (fun z => !ltInt z d0[a]!) d0 i1 j0 = n1 ∧ (n1 < i1 ∨ (fun z => !ltInt z d0[a]!) d0[n1]! = false) ∧ Row wx g d0 R ∧ Mod [g] w wx)
      case first =>
        go_wp2_with fail
        go_loopw [11] (fun v wx => ∃ n1 : Nat, v = .int .i64 (n1 : Int) ∧ (n1 ≤ j0 ∧ i1 ≤ n1 + 1) ∧ scanDown (fun z => !ltInt z d0[a]!) d0 i1 n1 = scanDown (fun z => !ltInt z d0[a]!) d0 i1 j0 ∧ Row wx g d0 R ∧ Mod [g] w wx) (fun v _ => (intOf v).toNat)
        case atStart => exact ⟨j0, rfl, ⟨Nat.le_refl _, by omega⟩, rfl, hr, hm⟩
        case round =>
          clear hr hm
          obtain ⟨n1, rfl, hn, hO, hr, hm⟩ := hrel
          obtain ⟨hn1, hn2⟩ := hn
          have HO := hide hO
          clear hO
          by_cases hle : i1 ≤ n1
          · have hle' : (i1 : Int) ≤ n1 := by omega
            have hn1s : n1 < d.size := by omega
            obtain ⟨v, hv⟩ : ∃ x, d0[a]! = x := ⟨_, rfl⟩
            obtain ⟨t, ht⟩ : ∃ x, d0[n1]! = x := ⟨_, rfl⟩
            have c1 := hr.cell (j := a) (by omega)
            have c2 := hr.cell (j := n1) (by omega)
            rw [hv] at c1
            rw [ht] at c2
            have Hv := hide hv
            have Ht := hide ht
            clear hv ht
            cases hl : ltInt t v
            · go_wp2_with fail
              go_quiet (first | (go_at_call 97; refine Calls.quiet_of (lessQ _ _ _)))
              go_wp2_with fail
              go_roundw
              case rel => exact ⟨n1 - 1, by congr 1; omega, ⟨by omega, by omega⟩, by
                rw [← HO.out]
                obtain ⟨k, rfl⟩ : ∃ k, n1 = k + 1 := ⟨n1 - 1, by omega⟩
                rw [Nat.add_sub_cancel]
                exact (down_yes (by omega) (by show (!ltInt _ _) = true; rw [Hv.out, Ht.out, hl]; try rfl)).symm, hr.drewN _, hm.drewN _⟩
              case measure => simp [intOf]; omega
            · go_wp2_with fail
              go_quiet (first | (go_at_call 97; refine Calls.quiet_of (lessQ _ _ _)))
              go_wp2_with fail
              go_meet
              have hst : (fun z => !ltInt z d0[a]!) d0[n1]! = false := by show (!ltInt _ _) = false; rw [Hv.out, Ht.out, hl]; try rfl
              exact ⟨n1, rfl, ⟨by omega, by omega⟩, by rw [← HO.out]; exact down_stop (.inr hst), .inr hst, hr.drewN _, hm.drewN _⟩
          · have hle' : decide ((i1 : Int) ≤ n1) = false := decide_eq_false (by omega)
            go_wp2_with fail
            go_quiet (fail)
            go_wp2_with fail
            go_meet
            exact ⟨n1, rfl, ⟨by omega, by omega⟩, by rw [← HO.out]; exact down_stop (.inl (by omega)), .inl (by omega), hr.drewN _, hm.drewN _⟩
      case rest =>
        clear hr hm
        obtain ⟨j1, rfl, hj1b, hj1, hj1s, hr, hm⟩ := hcut
        obtain ⟨hj11, hj12⟩ := hj1b
        have Hj1 := hide hj1
        have Hj1s := hide hj1s
        clear hj1 hj1s
        have HP : Hid (partition ltInt d a b pv = if i1 > j1 then (j1, true, swp d0 j1 a) else ((partLoop ltInt a (i1 + 1) (j1 - 1) (swp d0 i1 j1)).1, false, swp (partLoop ltInt a (i1 + 1) (j1 - 1) (swp d0 i1 j1)).2 (partLoop ltInt a (i1 + 1) (j1 - 1) (swp d0 i1 j1)).1 a)) := hide (by
          have e1 := Hi1.out
          have e2 := Hj1.out
          rw [Hi0.out, Hj0.out] at e1
          rw [Hj0.out] at e2
          unfold partition
          simp only [Hd0.out, e1, e2])
        by_cases hgt : j1 < i1
        · have hgt' : (j1 : Int) < i1 := by omega
          obtain ⟨x, hx⟩ : ∃ x, d0[j1]! = x := ⟨_, rfl⟩
          obtain ⟨y, hy⟩ : ∃ x, d0[a]! = x := ⟨_, rfl⟩
          have c1 := hr.cell (j := j1) (by omega)
          have c2 := hr.cell (j := a) (by omega)
          have f1 := hr.frozen j1
          have f2 := hr.frozen a
          rw [hx] at c1
          rw [hy] at c2
          have hsi : j1 < d.size := by omega
          have hsj : a < d.size := by omega
          have Hr := hide (hr.swapN (i := j1) (j := a) (by omega) (by omega) hy hx 1)
          have Hm := hide (hm.swapN 1 j1 a (.int .u64 y) (.int .u64 x))
          go_upto_region 8 with fail
          go_cut [] (fun wx => Row wx g (swp d0 j1 a) R ∧ Mod [g] w wx)
          case first =>
            by_cases hpa : j1 = a
            · subst hpa
              obtain rfl : x = y := hx.symm.trans hy
              go_region
              all_goals (go_wp2_with fail; go_meet)
              all_goals exact ⟨Hr.out, Hm.out⟩
            · have hap : ¬ a = j1 := fun e => hpa e.symm
              go_region
              all_goals (go_wp2_with fail; go_meet)
              all_goals exact ⟨Hr.out, Hm.out⟩
          case rest =>
            clear hr hm c1 c2 f1 f2 Hr Hm hx hy
            obtain ⟨hr, hm⟩ := hcut
            obtain ⟨d3, hd3⟩ : ∃ z, swp d0 j1 a = z := ⟨_, rfl⟩
            have hsd3 : d3.size = d.size := by rw [← hd3, size_swp]; try omega
            rw [hd3] at hr
            have Hd3 := hide hd3
            clear hd3
            go_wp2_with fail
            go_ret2
            have he : partition ltInt d a b pv = (j1, true, d3) := by rw [HP.out, if_pos hgt, Hd3.out]
            rw [he]
            exact ⟨rfl, hr, hm⟩
        · have hgt' : decide ((j1 : Int) < i1) = false := decide_eq_false (by omega)
          have hne : i1 < j1 := by
            rcases Nat.lt_or_ge i1 j1 with h | h
            · exact h
            · obtain rfl : i1 = j1 := by omega
              have e1 := Hi1s.out
              have e2 := Hj1s.out
              rcases e1 with e1 | e1
              · omega
              · rcases e2 with e2 | e2
                · omega
                · simp only at e1 e2; rw [e1] at e2; cases e2
          obtain ⟨x, hx⟩ : ∃ x, d0[i1]! = x := ⟨_, rfl⟩
          obtain ⟨y, hy⟩ : ∃ x, d0[j1]! = x := ⟨_, rfl⟩
          have c1 := hr.cell (j := i1) (by omega)
          have c2 := hr.cell (j := j1) (by omega)
          have f1 := hr.frozen i1
          have f2 := hr.frozen j1
          rw [hx] at c1
          rw [hy] at c2
          have hsi : i1 < d.size := by omega
          have hsj : j1 < d.size := by omega
          have Hr := hide (hr.swapN (i := i1) (j := j1) (by omega) (by omega) hy hx 1)
          have Hm := hide (hm.swapN 1 i1 j1 (.int .u64 y) (.int .u64 x))
          go_upto_region 10 with fail
          go_cut [] (fun wx => Row wx g (swp d0 i1 j1) R ∧ Mod [g] w wx)
          case first =>
            have hpa : ¬ i1 = j1 := by omega
            have hap : ¬ j1 = i1 := by omega
            go_region
            all_goals (go_wp2_with fail; go_meet)
            all_goals exact ⟨Hr.out, Hm.out⟩
          case rest =>
            clear hr hm c1 c2 f1 f2 Hr Hm hx hy
            obtain ⟨hr, hm⟩ := hcut
            obtain ⟨d4, hd4⟩ : ∃ z, swp d0 i1 j1 = z := ⟨_, rfl⟩
            have hsd4 : d4.size = d.size := by rw [← hd4, size_swp]; try omega
            rw [hd4] at hr
            have Hd4 := hide hd4
            clear hd4
            have HP2 : Hid (partition ltInt d a b pv = ((partLoop ltInt a (i1 + 1) (j1 - 1) d4).1, false, swp (partLoop ltInt a (i1 + 1) (j1 - 1) d4).2 (partLoop ltInt a (i1 + 1) (j1 - 1) d4).1 a)) := hide (by
              rw [HP.out, if_neg hgt, Hd4.out])
            go_wp2_with fail
            go_loopw [10, 11] (fun u v wr => ∃ (i j : Nat) (dk : Array Int), u = .int .i64 (i : Int) ∧ v = .int .i64 (j : Int) ∧ a < i ∧ i ≤ j + 1 ∧ j < b ∧ dk.size = d.size ∧ Row wr g dk R ∧ Mod [g] w wr ∧ partLoop ltInt a i j dk = partLoop ltInt a (i1 + 1) (j1 - 1) d4)
              (fun u v _ => (intOf v + 1 - intOf u).toNat)
            case atStart => exact ⟨i1 + 1, j1 - 1, d4, by go_num, by congr 1; omega, by omega, by omega, by omega, hsd4, hr, hm, rfl⟩
            case round =>
              clear hr hm
              obtain ⟨i, j, dk, rfl, rfl, hai, hij, hjb, hsk, hr, hm, hO⟩ := hrel
              have HO1 := hide hO
              clear hO
              go_upto_block 6 with fail
              go_cut [10] (fun v wx => ∃ n1 : Nat, v = .int .i64 (n1 : Int) ∧ (i ≤ n1 ∧ n1 ≤ j + 1) ∧ scanUp (fun z => ltInt z dk[a]!) dk j i = n1 ∧ (j < n1 ∨ (fun z => ltInt z dk[a]!) dk[n1]! = false) ∧ Row wx g dk R ∧ Mod [g] w wx)
              case first =>
                go_wp2_with fail
                go_loopw [10] (fun v wx => ∃ n1 : Nat, v = .int .i64 (n1 : Int) ∧ (i ≤ n1 ∧ n1 ≤ j + 1) ∧ scanUp (fun z => ltInt z dk[a]!) dk j n1 = scanUp (fun z => ltInt z dk[a]!) dk j i ∧ Row wx g dk R ∧ Mod [g] w wx) (fun v _ => j + 1 - (intOf v).toNat)
                case atStart => exact ⟨i, rfl, ⟨Nat.le_refl _, by omega⟩, rfl, hr, hm⟩
                case round =>
                  clear hr hm
                  obtain ⟨n1, rfl, hn, hO, hr, hm⟩ := hrel
                  obtain ⟨hn1, hn2⟩ := hn
                  have HO := hide hO
                  clear hO
                  by_cases hle : n1 ≤ j
                  · have hle' : (n1 : Int) ≤ j := by omega
                    have hn1s : n1 < d.size := by omega
                    obtain ⟨v, hv⟩ : ∃ x, dk[a]! = x := ⟨_, rfl⟩
                    obtain ⟨t, ht⟩ : ∃ x, dk[n1]! = x := ⟨_, rfl⟩
                    have c1 := hr.cell (j := a) (by omega)
                    have c2 := hr.cell (j := n1) (by omega)
                    rw [hv] at c1
                    rw [ht] at c2
                    have Hv := hide hv
                    have Ht := hide ht
                    clear hv ht
                    cases hl : ltInt t v
                    · go_wp2_with fail
                      go_quiet (first | (go_at_call 97; refine Calls.quiet_of (lessQ _ _ _)))
                      go_wp2_with fail
                      go_meet
                      have hst : (fun z => ltInt z dk[a]!) dk[n1]! = false := by show (ltInt _ _) = false; rw [Hv.out, Ht.out, hl]; try rfl
                      exact ⟨n1, rfl, ⟨by omega, by omega⟩, by rw [← HO.out]; exact up_stop (.inr hst), .inr hst, hr.drewN _, hm.drewN _⟩
                    · go_wp2_with fail
                      go_quiet (first | (go_at_call 97; refine Calls.quiet_of (lessQ _ _ _)))
                      go_wp2_with fail
                      go_roundw
                      case rel => exact ⟨n1 + 1, by go_num, ⟨by omega, by omega⟩, by
                        rw [← HO.out]
                        skip
                        skip
                        exact (up_yes hle (by show (ltInt _ _) = true; rw [Hv.out, Ht.out, hl]; try rfl)).symm, hr.drewN _, hm.drewN _⟩
                      case measure => simp [intOf]; omega
                  · have hle' : decide ((n1 : Int) ≤ j) = false := decide_eq_false (by omega)
                    go_wp2_with fail
                    go_quiet (fail)
                    go_wp2_with fail
                    go_meet
                    exact ⟨n1, rfl, ⟨by omega, by omega⟩, by rw [← HO.out]; exact up_stop (.inl (by omega)), .inl (by omega), hr.drewN _, hm.drewN _⟩
              case rest =>
                clear hr hm
                obtain ⟨i2, rfl, hi2b, hi2, hi2s, hr, hm⟩ := hcut
                obtain ⟨hi21, hi22⟩ := hi2b
                have Hi2 := hide hi2
                have Hi2s := hide hi2s
                clear hi2 hi2s
                go_upto_block 8 with fail
                go_cut [11] (fun v wx => ∃ n1 : Nat, v = .int .i64 (n1 : Int) ∧ (n1 ≤ j ∧ i2 ≤ n1 + 1) ∧ scanDown (fun z => !ltInt z dk[a]!) dk i2 j = n1 ∧ (n1 < i2 ∨ (fun z => !ltInt z dk[a]!) dk[n1]! = false) ∧ Row wx g dk R ∧ Mod [g] w wx)
                case first =>
                  go_wp2_with fail
                  go_loopw [11] (fun v wx => ∃ n1 : Nat, v = .int .i64 (n1 : Int) ∧ (n1 ≤ j ∧ i2 ≤ n1 + 1) ∧ scanDown (fun z => !ltInt z dk[a]!) dk i2 n1 = scanDown (fun z => !ltInt z dk[a]!) dk i2 j ∧ Row wx g dk R ∧ Mod [g] w wx) (fun v _ => (intOf v).toNat)
                  case atStart => exact ⟨j, rfl, ⟨Nat.le_refl _, by omega⟩, rfl, hr, hm⟩
                  case round =>
                    clear hr hm
                    obtain ⟨n1, rfl, hn, hO, hr, hm⟩ := hrel
                    obtain ⟨hn1, hn2⟩ := hn
                    have HO := hide hO
                    clear hO
                    by_cases hle : i2 ≤ n1
                    · have hle' : (i2 : Int) ≤ n1 := by omega
                      have hn1s : n1 < d.size := by omega
                      obtain ⟨v, hv⟩ : ∃ x, dk[a]! = x := ⟨_, rfl⟩
                      obtain ⟨t, ht⟩ : ∃ x, dk[n1]! = x := ⟨_, rfl⟩
                      have c1 := hr.cell (j := a) (by omega)
                      have c2 := hr.cell (j := n1) (by omega)
                      rw [hv] at c1
                      rw [ht] at c2
                      have Hv := hide hv
                      have Ht := hide ht
                      clear hv ht
                      cases hl : ltInt t v
                      · go_wp2_with fail
                        go_quiet (first | (go_at_call 97; refine Calls.quiet_of (lessQ _ _ _)))
                        go_wp2_with fail
                        go_roundw
                        case rel => exact ⟨n1 - 1, by congr 1; omega, ⟨by omega, by omega⟩, by
                          rw [← HO.out]
                          obtain ⟨k, rfl⟩ : ∃ k, n1 = k + 1 := ⟨n1 - 1, by omega⟩
                          rw [Nat.add_sub_cancel]
                          exact (down_yes (by omega) (by show (!ltInt _ _) = true; rw [Hv.out, Ht.out, hl]; try rfl)).symm, hr.drewN _, hm.drewN _⟩
                        case measure => simp [intOf]; omega
                      · go_wp2_with fail
                        go_quiet (first | (go_at_call 97; refine Calls.quiet_of (lessQ _ _ _)))
                        go_wp2_with fail
                        go_meet
                        have hst : (fun z => !ltInt z dk[a]!) dk[n1]! = false := by show (!ltInt _ _) = false; rw [Hv.out, Ht.out, hl]; try rfl
                        exact ⟨n1, rfl, ⟨by omega, by omega⟩, by rw [← HO.out]; exact down_stop (.inr hst), .inr hst, hr.drewN _, hm.drewN _⟩
                    · have hle' : decide ((i2 : Int) ≤ n1) = false := decide_eq_false (by omega)
                      go_wp2_with fail
                      go_quiet (fail)
                      go_wp2_with fail
                      go_meet
                      exact ⟨n1, rfl, ⟨by omega, by omega⟩, by rw [← HO.out]; exact down_stop (.inl (by omega)), .inl (by omega), hr.drewN _, hm.drewN _⟩
                case rest =>
                  clear hr hm
                  obtain ⟨j2, rfl, hj2b, hj2, hj2s, hr, hm⟩ := hcut
                  obtain ⟨hj21, hj22⟩ := hj2b
                  have Hj2 := hide hj2
                  have Hj2s := hide hj2s
                  clear hj2 hj2s
                  have HE : Hid (partLoop ltInt a i j dk = if i2 > j2 then (j2, dk) else partLoop ltInt a (i2 + 1) (j2 - 1) (swp dk i2 j2)) := hide (by
                    have := partLoop_eq ltInt a i j dk
                    rw [Hi2.out, Hj2.out] at this
                    exact this)
                  by_cases hgt : j2 < i2
                  · have hgt' : (j2 : Int) < i2 := by omega
                    obtain ⟨x, hx⟩ : ∃ x, dk[j2]! = x := ⟨_, rfl⟩
                    obtain ⟨y, hy⟩ : ∃ x, dk[a]! = x := ⟨_, rfl⟩
                    have c1 := hr.cell (j := j2) (by omega)
                    have c2 := hr.cell (j := a) (by omega)
                    have f1 := hr.frozen j2
                    have f2 := hr.frozen a
                    rw [hx] at c1
                    rw [hy] at c2
                    have hsi : j2 < d.size := by omega
                    have hsj : a < d.size := by omega
                    have Hr := hide (hr.swapN (i := j2) (j := a) (by omega) (by omega) hy hx 1)
                    have Hm := hide (hm.swapN 1 j2 a (.int .u64 y) (.int .u64 x))
                    go_upto_region 21 with fail
                    go_cut [] (fun wx => Row wx g (swp dk j2 a) R ∧ Mod [g] w wx)
                    case first =>
                      by_cases hpa : j2 = a
                      · subst hpa
                        obtain rfl : x = y := hx.symm.trans hy
                        go_region
                        all_goals (go_wp2_with fail; go_meet)
                        all_goals exact ⟨Hr.out, Hm.out⟩
                      · have hap : ¬ a = j2 := fun e => hpa e.symm
                        go_region
                        all_goals (go_wp2_with fail; go_meet)
                        all_goals exact ⟨Hr.out, Hm.out⟩
                    case rest =>
                      clear hr hm c1 c2 f1 f2 Hr Hm hx hy
                      obtain ⟨hr, hm⟩ := hcut
                      obtain ⟨d5, hd5⟩ : ∃ z, swp dk j2 a = z := ⟨_, rfl⟩
                      have hsd5 : d5.size = d.size := by rw [← hd5, size_swp]; try omega
                      rw [hd5] at hr
                      have Hd5 := hide hd5
                      clear hd5
                      go_wp2_with fail
                      go_ret2
                      have he : partition ltInt d a b pv = (j2, false, d5) := by rw [HP2.out, ← HO1.out, HE.out, if_pos hgt, Hd5.out]
                      rw [he]
                      exact ⟨rfl, hr, hm⟩
                  · have hgt' : decide ((j2 : Int) < i2) = false := decide_eq_false (by omega)
                    have hne : i2 < j2 := by
                      rcases Nat.lt_or_ge i2 j2 with h | h
                      · exact h
                      · obtain rfl : i2 = j2 := by omega
                        have e1 := Hi2s.out
                        have e2 := Hj2s.out
                        rcases e1 with e1 | e1
                        · omega
                        · rcases e2 with e2 | e2
                          · omega
                          · simp only at e1 e2; rw [e1] at e2; cases e2
                    obtain ⟨x, hx⟩ : ∃ x, dk[i2]! = x := ⟨_, rfl⟩
                    obtain ⟨y, hy⟩ : ∃ x, dk[j2]! = x := ⟨_, rfl⟩
                    have c1 := hr.cell (j := i2) (by omega)
                    have c2 := hr.cell (j := j2) (by omega)
                    have f1 := hr.frozen i2
                    have f2 := hr.frozen j2
                    rw [hx] at c1
                    rw [hy] at c2
                    have hsi : i2 < d.size := by omega
                    have hsj : j2 < d.size := by omega
                    have Hr := hide (hr.swapN (i := i2) (j := j2) (by omega) (by omega) hy hx 1)
                    have Hm := hide (hm.swapN 1 i2 j2 (.int .u64 y) (.int .u64 x))
                    go_upto_region 18 with fail
                    go_cut [] (fun wx => Row wx g (swp dk i2 j2) R ∧ Mod [g] w wx)
                    case first =>
                      have hpa : ¬ i2 = j2 := by omega
                      have hap : ¬ j2 = i2 := by omega
                      go_region
                      all_goals (go_wp2_with fail; go_meet)
                      all_goals exact ⟨Hr.out, Hm.out⟩
                    case rest =>
                      clear hr hm c1 c2 f1 f2 Hr Hm hx hy
                      obtain ⟨hr, hm⟩ := hcut
                      obtain ⟨d6, hd6⟩ : ∃ z, swp dk i2 j2 = z := ⟨_, rfl⟩
                      have hsd6 : d6.size = d.size := by rw [← hd6, size_swp]; try omega
                      rw [hd6] at hr
                      have Hd6 := hide hd6
                      clear hd6
                      go_wp2_with fail
                      go_roundw
                      case rel => exact ⟨i2 + 1, j2 - 1, d6, by go_num, by congr 1; omega, by omega, by omega, by omega, hsd6, hr, hm, by rw [← HO1.out, HE.out, if_neg hgt, Hd6.out]⟩
                      case measure => simp [intOf]; omega
end Go.Proofs.YtjdfemfobcjecaaGreat
