/-
  inbox: Read, Reset.
-/
import Derived.Test.YtfbcbddfmiiilaaIbMem
import Derived.Deep.CutBlock
import Derived.Deep.DeepCutAuto
namespace Go.Proofs.Ytfbcbddfmiiilaa
open Go.RowKit

def Ib.readN (o : Ib) (most : Int) : Nat := min most.toNat (o.ready - o.taken)
def Ib.read (o : Ib) (most : Int) : Ib := if o.reset then o else { o with taken := o.taken + o.readN most }
def Ib.readS (o : Ib) (most : Int) : List UInt8 := if o.reset then [] else run o.B o.taken (o.taken + o.readN most)
def Ib.readD (o : Ib) (most : Int) : Bool := if o.reset then true else (o.read most).done
def Ib.readE (o : Ib) : Int := if o.reset then 22 else 0

theorem Ib.WF.read {o : Ib} (h : o.WF) (most : Int) : (o.read most).WF := by
  unfold Ib.read
  cases hr : o.reset
  · have h1 : o.readN most ≤ o.ready - o.taken := Nat.min_le_right _ _
    have h2 := h.tk
    simp only [Bool.false_eq_true, if_false]
    exact ⟨h.lim, by simp only; omega, h.fill, h.gap, h.bound, h.top, h.fin, h.fin0, h.supp, fun hc => (by cases hc)⟩
  · simpa using h

theorem IBox.remade {w w' : World} {b m : Nat} {o o' : Ib} (h : IBox w b m o) (hm : Mod [b] w w')
    (hb : Blk w' b 51 #[.int .u64 (o'.limit : Int), .int .u64 (o'.taken : Int), str (run o'.B o'.taken o'.ready), .map (some m), .int .u64 (o'.far : Int), .int .u64 (o'.final : Int), .bool o'.known, .bool o'.reset])
    (hr : o'.rest = o.rest) (hwf : o'.WF) : IBox w' b m o' := by
  obtain ⟨f, hf, hcv⟩ := h.map
  exact ⟨hb, ⟨f, hf.mod hm (by simpa using Ne.symm h.ne), by rw [hr]; exact hcv⟩, h.ne, hwf⟩

set_option maxHeartbeats 2000000 in
theorem iread_any (w : World) (b m : Nat) (o : Ib) (h : IBox w b m o) (most : Int) (hs : o.ready - o.taken ≤ 281474976710656) :
    Calls Try.prog 11 #[.pointer (some ⟨b, 0, none⟩), .int .i64 most] w fun e w' =>
      e = .returned (.tuple #[str (o.readS most), .bool (o.readD most), .int .i64 o.readE]) ∧ IStep w b m (o.read most) w' := by
  have c1 := h.c1
  have c2 := h.c2
  have c7 := h.c7
  cases hr : o.reset
  · rw [hr] at c7
    have hlen := run_length o.B o.taken o.ready
    have htk := h.wf.tk
    have hrd := h.wf.rd
    have htop := h.wf.top
    have hlim := h.wf.lim
    obtain ⟨n, hn⟩ : ∃ n, o.readN most = n := ⟨_, rfl⟩
    have hn2 : n ≤ o.ready - o.taken := by rw [← hn]; exact Nat.min_le_right _ _
    obtain ⟨S, hS⟩ : ∃ S : ByteArray, S = ⟨(run o.B o.taken o.ready).toArray⟩ := ⟨_, rfl⟩
    have hSs : S.size = o.ready - o.taken := by rw [hS, ← hlen]; rfl
    obtain ⟨L, hL⟩ : ∃ L, L = o.ready - o.taken := ⟨_, rfl⟩
    have hmin : min (max most 0) (L : Int) = n := by rw [hL, ← hn]; unfold Ib.readN; omega
    have hex1 : S.extract 0 n = ⟨(run o.B o.taken (o.taken + n)).toArray⟩ := by rw [hS, str_extract, List.drop_zero, Nat.sub_zero, run_take _ _ _ _ (by omega)]
    have hex2 : S.extract n L = ⟨(run o.B (o.taken + n) o.ready).toArray⟩ := by
      rw [hS, str_extract, run_drop, List.take_of_length_le]
      rw [run_length]
      omega
    rw [← hS] at c2
    have HS := hide hS
    have hnS : n ≤ L := by omega
    rw [← hL] at hSs hn2 hs
    have HL := hide hL
    have hO : o.read most = { o with taken := o.taken + n } := by unfold Ib.read; rw [hr, hn]; rfl
    have hwf' := h.wf.read most
    have H1 : Hid (o.readS most = run o.B o.taken (o.taken + n) ∧ o.readD most = (o.read most).done ∧ o.readE = 0) := hide ⟨by simp [Ib.readS, hr, hn], by simp [Ib.readD, hr], by simp [Ib.readE, hr]⟩
    rw [hO] at hwf'
    have HO := hide hO
    have HWF := hide hwf'
    have Hex1 := hide hex1
    have hwn : IntKind.u64.wrap (n : Int) = n := IntWalk.u64_in _ (by omega)
    have hwt : IntKind.u64.wrap ((o.taken : Int) + n) = (o.taken : Int) + n := IntWalk.u64_in _ (by omega)
    have Hr := hide hr
    have hcs : (S.extract 0 n).size ≤ 281474976710656 := by
      rw [hex1]
      show (run _ _ _).length ≤ _
      rw [run_length]; omega
    clear hS hn hr hO hwf' hex1 hlen hL
    go_enter Try.func11, Try.ntmps11
    go_wp2_with fail
    refine (clone_any w _ hcs).mono ?_
    rintro e w1 ⟨rfl, m1⟩
    replace h := h.mod m1 (by simp) (by simp)
    clear c1 c2 c7
    have c1 := h.c1
    have c2 := h.c2
    have f1 := h.blk.frozen 1
    have f2 := h.blk.frozen 2
    have c2' : w1.cell? ⟨b, 2, none⟩ = some (.string S) := by rw [c2, HS.out]
    clear c2
    have mS : Mod [b] w1 ((w1.setCell ⟨b, 2, none⟩ (.string ⟨(run o.B (o.taken + n) o.ready).toArray⟩)).setCell ⟨b, 1, none⟩ (.int .u64 ((o.taken : Int) + n))) :=
      ((Mod.refl _ w1).setCell (p := ⟨b, 2, none⟩) (.inl (by simp)) _).setCell (p := ⟨b, 1, none⟩) (.inl (by simp)) _
    have hB : IBox ((w1.setCell ⟨b, 2, none⟩ (.string ⟨(run o.B (o.taken + n) o.ready).toArray⟩)).setCell ⟨b, 1, none⟩ (.int .u64 ((o.taken : Int) + n))) b m { o with taken := o.taken + n } :=
      h.remade mS (by
        have := (h.blk.set_ 2 (.string ⟨(run o.B (o.taken + n) o.ready).toArray⟩)).set_ 1 (.int .u64 ((o.taken : Int) + n))
        exact this) rfl HWF.out
    have MS := hide mS
    have HBx := hide hB
    have M1 := hide m1
    clear mS hB m1 h
    go_wp2_with fail
    refine (idone_any _ b m { o with taken := o.taken + n } HBx.out).mono ?_
    rintro e w3 ⟨rfl, k, rfl⟩
    go_wp2_with fail
    refine bodyPost_ret (results_tmp3 rfl _ _ _) rfl ?_
    refine ⟨by rw [H1.out.1, H1.out.2.1, H1.out.2.2, HO.out, Hex1.out]; rfl, ?_⟩
    rw [HO.out]
    exact ⟨m, HBx.out.mod ((Mod.refl [] _).drewN k) (by simp) (by simp), ((M1.out.mono (G := [b, m]) (by simp)).trans MS.out (by simp)).drewN k, .inl rfl⟩
  · rw [hr] at c7
    have hst : IStep w b m (o.read most) w := by
      have : o.read most = o := by unfold Ib.read; rw [hr]; rfl
      rw [this]; exact IStep.of_drew h 0
    have HS := hide hst
    have H1 : Hid (o.readS most = [] ∧ o.readD most = true ∧ o.readE = 22) := hide ⟨by simp [Ib.readS, hr], by simp [Ib.readD, hr], by simp [Ib.readE, hr]⟩
    clear hr hst h
    go_enter Try.func11, Try.ntmps11
    go_wp2
    refine bodyPost_ret (results_tmp3 rfl _ _ _) rfl ?_
    exact ⟨by rw [H1.out.1, H1.out.2.1, H1.out.2.2]; rfl, HS.out⟩

/-! ### Reset -/
def Ib.resetErr (o : Ib) (fin : Nat) : Int := if o.limit < fin then 20 else if (o.known = true ∧ fin ≠ o.final) ∨ fin < o.far then 23 else 0
/-- the final size is told -/
def Ib.told (o : Ib) (fin : Nat) : Ib := { o with final := fin, known := true, far := max o.far fin }
/-- what came is let go -/
def Ib.drop (o : Ib) : Ib := { o with reset := true, ready := o.taken, B := fun n => if n < o.taken then o.B n else none }
def Ib.resetTo (o : Ib) (fin : Nat) : Ib := if o.resetErr fin = 0 then (if o.taken = fin then o.told fin else (o.told fin).drop) else o

theorem Ib.resetErr_zero {o : Ib} {fin : Nat} (h : o.resetErr fin = 0) : fin ≤ o.limit ∧ (o.known = true → fin = o.final) ∧ o.far ≤ fin := by
  unfold Ib.resetErr at h
  split at h
  · cases h
  · split at h
    · cases h
    · rename_i h1 h2
      refine ⟨by omega, fun hk => ?_, by omega⟩
      exact Decidable.byContradiction fun hn => h2 (.inl ⟨hk, hn⟩)
theorem Ib.WF.told {o : Ib} (h : o.WF) {fin : Nat} (hf : fin ≤ o.limit) (hr : o.far ≤ fin) : (o.told fin).WF :=
  ⟨h.lim, h.tk, h.fill, h.gap, fun n hn => by have := h.bound n hn; simp only [Ib.told]; omega, by simp only [Ib.told]; omega, fun _ => by simp only [Ib.told]; omega, fun hk => (by cases hk), h.supp, h.cut⟩
theorem Ib.WF.drop {o : Ib} (h : o.WF) : o.drop.WF := by
  have htk := h.tk
  refine ⟨h.lim, Nat.le_refl _, fun n hn => ?_, by simp [Ib.drop], fun n hn => ?_, h.top, h.fin, h.fin0, fun n hn => ?_, fun _ => ⟨rfl, fun n hn => ?_⟩⟩
  · simp only [Ib.drop] at hn ⊢
    rw [if_pos hn]
    exact h.fill n (by omega)
  · simp only [Ib.drop] at hn
    split at hn
    · exact h.bound n hn
    · cases hn
  · simp only [Ib.drop] at hn
    split at hn
    · exact h.supp n hn
    · cases hn
  · simp only [Ib.drop] at hn ⊢
    rw [if_neg (by omega)]
theorem Ib.WF.resetTo {o : Ib} (h : o.WF) (fin : Nat) : (o.resetTo fin).WF := by
  unfold Ib.resetTo
  split
  · rename_i h0
    obtain ⟨h1, h2, h3⟩ := Ib.resetErr_zero h0
    split
    · exact h.told h1 h3
    · exact (h.told h1 h3).drop
  · exact h

theorem IBox.dropped {W : World} {b m : Nat} {o : Ib} (h : IBox W b m o) :
    IBox ((((W.setCell ⟨b, 7, none⟩ (.bool true)).setCell ⟨b, 2, none⟩ (.string ⟨#[]⟩)).setCell ⟨b, 3, none⟩ (.map (some W.heap.size))).alloc (.map #[] 0)) b W.heap.size o.drop ∧
    Mod [b] W ((((W.setCell ⟨b, 7, none⟩ (.bool true)).setCell ⟨b, 2, none⟩ (.string ⟨#[]⟩)).setCell ⟨b, 3, none⟩ (.map (some W.heap.size))).alloc (.map #[] 0)) := by
  have hsz : (((W.setCell ⟨b, 7, none⟩ (.bool true)).setCell ⟨b, 2, none⟩ (.string ⟨#[]⟩)).setCell ⟨b, 3, none⟩ (.map (some W.heap.size))).heap.size = W.heap.size := by simp [World.setCell]
  have hb := h.blk.lt
  have hcov : Cov (fun _ => none) o.drop.rest := Cov.empty.congr (fun n => by
    show (if o.taken ≤ n then (if n < o.taken then o.B n else none) else none) = none
    by_cases h1 : o.taken ≤ n
    · rw [if_pos h1, if_neg (by omega)]
    · rw [if_neg h1])
  have hm : Mod [b] W ((((W.setCell ⟨b, 7, none⟩ (.bool true)).setCell ⟨b, 2, none⟩ (.string ⟨#[]⟩)).setCell ⟨b, 3, none⟩ (.map (some W.heap.size))).alloc (.map #[] 0)) :=
    ((((Mod.refl _ W).setCell (p := ⟨b, 7, none⟩) (.inl (by simp)) _).setCell (p := ⟨b, 2, none⟩) (.inl (by simp)) _).setCell (p := ⟨b, 3, none⟩) (.inl (by simp)) _).alloc _
  have hmap := IMap.made (((W.setCell ⟨b, 7, none⟩ (.bool true)).setCell ⟨b, 2, none⟩ (.string ⟨#[]⟩)).setCell ⟨b, 3, none⟩ (.map (some W.heap.size))) .u64
  rw [hsz] at hmap
  refine ⟨⟨?_, ⟨_, hmap, hcov⟩, by omega, h.wf.drop⟩, hm⟩
  have := (((h.blk.set_ 7 (.bool true)).set_ 2 (.string ⟨#[]⟩)).set_ 3 (.map (some W.heap.size))).alloc (.map #[] 0)
  have hrun : str (run o.drop.B o.drop.taken o.drop.ready) = .string ⟨#[]⟩ := by simp [Ib.drop, run_empty, str]
  rw [hrun]
  exact this

set_option maxHeartbeats 4000000 in
theorem ireset_any (w : World) (b m : Nat) (o : Ib) (h : IBox w b m o) (fin code : Nat) :
    Calls Try.prog 19 #[.pointer (some ⟨b, 0, none⟩), .int .u64 fin, .int .u64 code] w fun e w' =>
      e = .returned (.int .i64 (o.resetErr fin)) ∧ IStep w b m (o.resetTo fin) w' := by
  have c0 := h.c0
  have c4 := h.c4
  have c5 := h.c5
  have c6 := h.c6
  have f4 := h.blk.frozen 4
  have f5 := h.blk.frozen 5
  have f6 := h.blk.frozen 6
  have HE : Hid (o.resetErr fin = if o.limit < fin then 20 else if (o.known = true ∧ fin ≠ o.final) ∨ fin < o.far then 23 else 0) := hide rfl
  by_cases h1 : o.limit < fin
  · have h1' : (o.limit : Int) < fin := by omega
    have hst : IStep w b m (o.resetTo fin) w := by
      have : o.resetTo fin = o := by unfold Ib.resetTo; rw [HE.out, if_pos h1]; rfl
      rw [this]; exact IStep.of_drew h 0
    have HS := hide hst
    clear h hst
    go_enter Try.func19, Try.ntmps19
    go_wp2
    go_ret
    exact ⟨by rw [HE.out, if_pos h1]; rfl, HS.out⟩
  · have h1' : ¬ (o.limit : Int) < fin := by omega
    by_cases h2 : (o.known = true ∧ fin ≠ o.final) ∨ fin < o.far
    · have hst : IStep w b m (o.resetTo fin) w := by
        have : o.resetTo fin = o := by unfold Ib.resetTo; rw [HE.out, if_neg h1, if_pos h2]; rfl
        rw [this]; exact IStep.of_drew h 0
      have HS := hide hst
      have H2 := hide h2
      clear h hst
      cases hk : o.known
      · have h3 : fin < o.far := by rw [hk] at h2; simpa using h2
        have h3' : (fin : Int) < o.far := by omega
        rw [hk] at c6
        clear hk h2
        go_enter Try.func19, Try.ntmps19
        go_wp2
        go_ret
        exact ⟨by rw [HE.out, if_neg h1, if_pos H2.out]; rfl, HS.out⟩
      · rw [hk] at c6
        by_cases h4 : fin = o.final
        · have h3 : fin < o.far := by rcases h2 with h2 | h2; exact absurd h4 h2.2; exact h2
          have h3' : (fin : Int) < o.far := by omega
          have h4' : ((fin : Int) != o.final) = false := by simp; omega
          have h5' : (o.final : Int) < o.far := by omega
          clear hk h2 h4
          go_enter Try.func19, Try.ntmps19
          go_wp2
          go_ret
          exact ⟨by rw [HE.out, if_neg h1, if_pos H2.out]; rfl, HS.out⟩
        · have h4' : ((fin : Int) != o.final) = true := by simp; omega
          clear hk h2
          go_enter Try.func19, Try.ntmps19
          go_wp2
          go_ret
          exact ⟨by rw [HE.out, if_neg h1, if_pos H2.out]; rfl, HS.out⟩
    · have he : o.resetErr fin = 0 := by rw [HE.out, if_neg h1, if_neg h2]
      obtain ⟨k1, k2, k3⟩ := Ib.resetErr_zero he
      have hwf := h.wf.told k1 k3
      have hmax : ((max o.far fin : Nat) : Int) = max (o.far : Int) fin := by omega
      have hfr : ¬ (fin : Int) < o.far := by omega
      have mS : Mod [b] w (((w.setCell ⟨b, 5, none⟩ (.int .u64 (fin : Int))).setCell ⟨b, 6, none⟩ (.bool true)).setCell ⟨b, 4, none⟩ (.int .u64 (max (o.far : Int) fin))) :=
        (((Mod.refl _ w).setCell (p := ⟨b, 5, none⟩) (.inl (by simp)) _).setCell (p := ⟨b, 6, none⟩) (.inl (by simp)) _).setCell (p := ⟨b, 4, none⟩) (.inl (by simp)) _
      have hB : IBox (((w.setCell ⟨b, 5, none⟩ (.int .u64 (fin : Int))).setCell ⟨b, 6, none⟩ (.bool true)).setCell ⟨b, 4, none⟩ (.int .u64 (max (o.far : Int) fin))) b m (o.told fin) :=
        h.remade mS (by
          have := ((h.blk.set_ 5 (.int .u64 (fin : Int))).set_ 6 (.bool true)).set_ 4 (.int .u64 (max (o.far : Int) fin))
          simp only [Ib.told, hmax]
          exact this) rfl hwf
      have HB := hide hB
      have MS := hide mS
      have HE0 := hide he
      clear hB mS hwf h he
      have hdone : Hid ((o.told fin).done = decide (o.taken = fin)) := hide (by
        show (true && (o.taken == fin)) = _
        rw [Bool.true_and]; rfl)
      have hmm := @run_makeMap Try.prog
      go_enter Try.func19, Try.ntmps19
      go_upto_block 0 with fail
      go_cut [] (fun wx => wx = w)
      case first =>
        cases hk : o.known
        · rw [hk] at c6
          clear hk k2 h2
          go_wp2_with fail
          go_meet
          rfl
        · have h4' : ((fin : Int) != o.final) = false := by have := k2 hk; simp; omega
          rw [hk] at c6
          clear hk k2 h2
          go_wp2_with fail
          go_meet
          rfl
      case rest =>
        subst hcut
        clear k2 h2 HE
        go_wp2_with fail
        refine (idone_any _ b m (o.told fin) HB.out).mono ?_
        rintro e w3 ⟨rfl, k, rfl⟩
        rw [hdone.out]
        by_cases ht : o.taken = fin
        · have hres : o.resetTo fin = o.told fin := by unfold Ib.resetTo; rw [if_pos HE0.out, if_pos ht]
          have HR := hide hres
          rw [decide_eq_true ht]
          clear ht hres
          go_wp2_with fail
          go_ret
          refine ⟨by rw [HE0.out]; rfl, ?_⟩
          rw [HR.out]
          exact ⟨m, HB.out.mod ((Mod.refl [] _).drewN k) (by simp) (by simp), (MS.out.mono (by simp)).drewN k, .inl rfl⟩
        · have hres : o.resetTo fin = (o.told fin).drop := by unfold Ib.resetTo; rw [if_pos HE0.out, if_neg ht]
          have HR := hide hres
          rw [decide_eq_false ht]
          clear ht hres
          have hB2 : IBox (World.drewN _ k) b m (o.told fin) := HB.out.mod ((Mod.refl [] _).drewN k) (by simp) (by simp)
          have m2 : Mod [b] wc (World.drewN _ k) := MS.out.drewN k
          obtain ⟨W2, hW2⟩ : ∃ W2, World.drewN ((((wc.setCell ⟨b, 5, none⟩ (.int .u64 (fin : Int))).setCell ⟨b, 6, none⟩ (.bool true)).setCell ⟨b, 4, none⟩ (.int .u64 (max (o.far : Int) fin)))) k = W2 := ⟨_, rfl⟩
          rw [hW2] at hB2 m2 ⊢
          clear hW2
          have d2 := hB2.c2
          have d3 := hB2.c3
          have d7 := hB2.c7
          have g2 := hB2.blk.frozen 2
          have g3 := hB2.blk.frozen 3
          have g7 := hB2.blk.frozen 7
          have hbl := hB2.blk.lt
          obtain ⟨hD, mD⟩ := hB2.dropped
          have HD := hide hD
          have MD := hide mD
          have M2 := hide m2
          have Hsz := hide (MS.out.drewN k).size
          clear hD mD m2 hB2 HB MS c0 c4 c5 c6 f4 f5 f6
          go_wp2_with fail
          go_ret
          refine ⟨by rw [HE0.out]; rfl, ?_⟩
          rw [HR.out]
          exact ⟨_, HD.out, (M2.out.mono (by simp)).trans MD.out (by simp), .inr M2.out.size⟩
end Go.Proofs.Ytfbcbddfmiiilaa
