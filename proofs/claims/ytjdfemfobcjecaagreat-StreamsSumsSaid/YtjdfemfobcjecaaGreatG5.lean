/-
  Contracts and plain laws that the proofs of this seat share, part 5 of 11: IbRead, IbLay, IbJoin, IbPut, StP, StA.
-/
import Derived.Test.YtjdfemfobcjecaaGreatG4
import Derived.Deep.CutBlock
import Derived.Deep.DeepCutAuto
import Derived.Test.YtjdfemfobcjecaaGreatG1
import Derived.Test.YtjdfemfobcjecaaGreatG2
import Derived.Laws.Bits64b

/-
  inbox: Read, Reset.
-/
namespace Go.Proofs.YtjdfemfobcjecaaGreat
open Go.RowKit

def Ib.readN (o : Ib) (most : Int) : Nat := min most.toNat (o.ready - o.taken)
def Ib.read (o : Ib) (most : Int) : Ib := if o.reset then o else { o with taken := o.taken + o.readN most }
def Ib.readS (o : Ib) (most : Int) : List UInt8 := if o.reset then [] else run o.B o.taken (o.taken + o.readN most)
def Ib.readD (o : Ib) (most : Int) : Bool := if o.reset then true else (o.read most).done
def Ib.readE (o : Ib) : Int := if o.reset then 22 else 0

theorem Ib.WF.read {o : Ib} (h : o.WF) (most : Int) : (o.read most).WF := by
  unfold Ib.read
  cases hr : o.reset
  · have h1 : o.readN most ≤ o.ready - o.taken := Nat.min_le_right _ _
    have h2 := h.tk
    simp only [Bool.false_eq_true, if_false]
    exact ⟨h.lim, by simp only; omega, h.fill, h.gap, h.bound, h.top, h.fin, h.fin0, h.supp, fun hc => (by cases hc)⟩
  · simpa using h

theorem IBox.remade {w w' : World} {b m : Nat} {o o' : Ib} (h : IBox w b m o) (hm : Mod [b] w w')
    (hb : Blk w' b 121 #[.int .u64 (o'.limit : Int), .int .u64 (o'.taken : Int), str (run o'.B o'.taken o'.ready), .map (some m), .int .u64 (o'.far : Int), .int .u64 (o'.final : Int), .bool o'.known, .bool o'.reset])
    (hr : o'.rest = o.rest) (hwf : o'.WF) : IBox w' b m o' := by
  obtain ⟨f, hf, hcv⟩ := h.map
  exact ⟨hb, ⟨f, hf.mod hm (by simpa using Ne.symm h.ne), by rw [hr]; exact hcv⟩, h.ne, hwf⟩

set_option maxHeartbeats 2000000 in
theorem iread_any (w : World) (b m : Nat) (o : Ib) (h : IBox w b m o) (most : Int) (hs : o.ready - o.taken ≤ 281474976710656) :
    Calls Tryz.prog 45 #[.pointer (some ⟨b, 0, none⟩), .int .i64 most] w fun e w' =>
      e = .returned (.tuple #[str (o.readS most), .bool (o.readD most), .int .i64 o.readE]) ∧ IStep w b m (o.read most) w' := by
  have c1 := h.c1
  have c2 := h.c2
  have c7 := h.c7
  cases hr : o.reset
  · rw [hr] at c7
    have hlen := run_length o.B o.taken o.ready
    have htk := h.wf.tk
    have hrd := h.wf.rd
    have htop := h.wf.top
    have hlim := h.wf.lim
    obtain ⟨n, hn⟩ : ∃ n, o.readN most = n := ⟨_, rfl⟩
    have hn2 : n ≤ o.ready - o.taken := by rw [← hn]; exact Nat.min_le_right _ _
    obtain ⟨S, hS⟩ : ∃ S : ByteArray, S = ⟨(run o.B o.taken o.ready).toArray⟩ := ⟨_, rfl⟩
    have hSs : S.size = o.ready - o.taken := by rw [hS, ← hlen]; rfl
    obtain ⟨L, hL⟩ : ∃ L, L = o.ready - o.taken := ⟨_, rfl⟩
    have hmin : min (max most 0) (L : Int) = n := by rw [hL, ← hn]; unfold Ib.readN; omega
    have hex1 : S.extract 0 n = ⟨(run o.B o.taken (o.taken + n)).toArray⟩ := by rw [hS, str_extract, List.drop_zero, Nat.sub_zero, run_take _ _ _ _ (by omega)]
    have hex2 : S.extract n L = ⟨(run o.B (o.taken + n) o.ready).toArray⟩ := by
      rw [hS, str_extract, run_drop, List.take_of_length_le]
      rw [run_length]
      omega
    rw [← hS] at c2
    have HS := hide hS
    have hnS : n ≤ L := by omega
    rw [← hL] at hSs hn2 hs
    have HL := hide hL
    have hO : o.read most = { o with taken := o.taken + n } := by unfold Ib.read; rw [hr, hn]; rfl
    have hwf' := h.wf.read most
    have H1 : Hid (o.readS most = run o.B o.taken (o.taken + n) ∧ o.readD most = (o.read most).done ∧ o.readE = 0) := hide ⟨by simp [Ib.readS, hr, hn], by simp [Ib.readD, hr], by simp [Ib.readE, hr]⟩
    rw [hO] at hwf'
    have HO := hide hO
    have HWF := hide hwf'
    have Hex1 := hide hex1
    have hwn : IntKind.u64.wrap (n : Int) = n := IntWalk.u64_in _ (by omega)
    have hwt : IntKind.u64.wrap ((o.taken : Int) + n) = (o.taken : Int) + n := IntWalk.u64_in _ (by omega)
    have Hr := hide hr
    have hcs : (S.extract 0 n).size ≤ 281474976710656 := by
      rw [hex1]
      show (run _ _ _).length ≤ _
      rw [run_length]; omega
    clear hS hn hr hO hwf' hex1 hlen hL
    go_enter Tryz.func45, Tryz.ntmps45
    go_wp2_with fail
    refine (clone_any w _ hcs).mono ?_
    rintro e w1 ⟨rfl, m1⟩
    replace h := h.mod m1 (by simp) (by simp)
    clear c1 c2 c7
    have c1 := h.c1
    have c2 := h.c2
    have f1 := h.blk.frozen 1
    have f2 := h.blk.frozen 2
    have c2' : w1.cell? ⟨b, 2, none⟩ = some (.string S) := by rw [c2, HS.out]
    clear c2
    have mS : Mod [b] w1 ((w1.setCell ⟨b, 2, none⟩ (.string ⟨(run o.B (o.taken + n) o.ready).toArray⟩)).setCell ⟨b, 1, none⟩ (.int .u64 ((o.taken : Int) + n))) :=
      ((Mod.refl _ w1).setCell (p := ⟨b, 2, none⟩) (.inl (by simp)) _).setCell (p := ⟨b, 1, none⟩) (.inl (by simp)) _
    have hB : IBox ((w1.setCell ⟨b, 2, none⟩ (.string ⟨(run o.B (o.taken + n) o.ready).toArray⟩)).setCell ⟨b, 1, none⟩ (.int .u64 ((o.taken : Int) + n))) b m { o with taken := o.taken + n } :=
      h.remade mS (by
        have := (h.blk.set_ 2 (.string ⟨(run o.B (o.taken + n) o.ready).toArray⟩)).set_ 1 (.int .u64 ((o.taken : Int) + n))
        exact this) rfl HWF.out
    have MS := hide mS
    have HBx := hide hB
    have M1 := hide m1
    clear mS hB m1 h
    go_wp2_with fail
    refine (idone_any _ b m { o with taken := o.taken + n } HBx.out).mono ?_
    rintro e w3 ⟨rfl, k, rfl⟩
    go_wp2_with fail
    refine bodyPost_ret (results_tmp3 rfl _ _ _) rfl ?_
    refine ⟨by rw [H1.out.1, H1.out.2.1, H1.out.2.2, HO.out, Hex1.out]; rfl, ?_⟩
    rw [HO.out]
    exact ⟨m, HBx.out.mod ((Mod.refl [] _).drewN k) (by simp) (by simp), ((M1.out.mono (G := [b, m]) (by simp)).trans MS.out (by simp)).drewN k, .inl rfl⟩
  · rw [hr] at c7
    have hst : IStep w b m (o.read most) w := by
      have : o.read most = o := by unfold Ib.read; rw [hr]; rfl
      rw [this]; exact IStep.of_drew h 0
    have HS := hide hst
    have H1 : Hid (o.readS most = [] ∧ o.readD most = true ∧ o.readE = 22) := hide ⟨by simp [Ib.readS, hr], by simp [Ib.readD, hr], by simp [Ib.readE, hr]⟩
    clear hr hst h
    go_enter Tryz.func45, Tryz.ntmps45
    go_wp2
    refine bodyPost_ret (results_tmp3 rfl _ _ _) rfl ?_
    exact ⟨by rw [H1.out.1, H1.out.2.1, H1.out.2.2]; rfl, HS.out⟩

/-! ### Reset -/
def Ib.resetErr (o : Ib) (fin : Nat) : Int := if o.limit < fin then 20 else if (o.known = true ∧ fin ≠ o.final) ∨ fin < o.far then 23 else 0
/-- the final size is told -/
def Ib.told (o : Ib) (fin : Nat) : Ib := { o with final := fin, known := true, far := max o.far fin }
/-- what came is let go -/
def Ib.drop (o : Ib) : Ib := { o with reset := true, ready := o.taken, B := fun n => if n < o.taken then o.B n else none }
def Ib.resetTo (o : Ib) (fin : Nat) : Ib := if o.resetErr fin = 0 then (if o.taken = fin then o.told fin else (o.told fin).drop) else o

theorem Ib.resetErr_zero {o : Ib} {fin : Nat} (h : o.resetErr fin = 0) : fin ≤ o.limit ∧ (o.known = true → fin = o.final) ∧ o.far ≤ fin := by
  unfold Ib.resetErr at h
  split at h
  · cases h
  · split at h
    · cases h
    · rename_i h1 h2
      refine ⟨by omega, fun hk => ?_, by omega⟩
      exact Decidable.byContradiction fun hn => h2 (.inl ⟨hk, hn⟩)
theorem Ib.WF.told {o : Ib} (h : o.WF) {fin : Nat} (hf : fin ≤ o.limit) (hr : o.far ≤ fin) : (o.told fin).WF :=
  ⟨h.lim, h.tk, h.fill, h.gap, fun n hn => by have := h.bound n hn; simp only [Ib.told]; omega, by simp only [Ib.told]; omega, fun _ => by simp only [Ib.told]; omega, fun hk => (by cases hk), h.supp, h.cut⟩
theorem Ib.WF.drop {o : Ib} (h : o.WF) : o.drop.WF := by
  have htk := h.tk
  refine ⟨h.lim, Nat.le_refl _, fun n hn => ?_, by simp [Ib.drop], fun n hn => ?_, h.top, h.fin, h.fin0, fun n hn => ?_, fun _ => ⟨rfl, fun n hn => ?_⟩⟩
  · simp only [Ib.drop] at hn ⊢
    rw [if_pos hn]
    exact h.fill n (by omega)
  · simp only [Ib.drop] at hn
    split at hn
    · exact h.bound n hn
    · cases hn
  · simp only [Ib.drop] at hn
    split at hn
    · exact h.supp n hn
    · cases hn
  · simp only [Ib.drop] at hn ⊢
    rw [if_neg (by omega)]
theorem Ib.WF.resetTo {o : Ib} (h : o.WF) (fin : Nat) : (o.resetTo fin).WF := by
  unfold Ib.resetTo
  split
  · rename_i h0
    obtain ⟨h1, h2, h3⟩ := Ib.resetErr_zero h0
    split
    · exact h.told h1 h3
    · exact (h.told h1 h3).drop
  · exact h

theorem IBox.dropped {W : World} {b m : Nat} {o : Ib} (h : IBox W b m o) :
    IBox ((((W.setCell ⟨b, 7, none⟩ (.bool true)).setCell ⟨b, 2, none⟩ (.string ⟨#[]⟩)).setCell ⟨b, 3, none⟩ (.map (some W.heap.size))).alloc (.map #[] 0)) b W.heap.size o.drop ∧
    Mod [b] W ((((W.setCell ⟨b, 7, none⟩ (.bool true)).setCell ⟨b, 2, none⟩ (.string ⟨#[]⟩)).setCell ⟨b, 3, none⟩ (.map (some W.heap.size))).alloc (.map #[] 0)) := by
  have hsz : (((W.setCell ⟨b, 7, none⟩ (.bool true)).setCell ⟨b, 2, none⟩ (.string ⟨#[]⟩)).setCell ⟨b, 3, none⟩ (.map (some W.heap.size))).heap.size = W.heap.size := by simp [World.setCell]
  have hb := h.blk.lt
  have hcov : Cov (fun _ => none) o.drop.rest := Cov.empty.congr (fun n => by
    show (if o.taken ≤ n then (if n < o.taken then o.B n else none) else none) = none
    by_cases h1 : o.taken ≤ n
    · rw [if_pos h1, if_neg (by omega)]
    · rw [if_neg h1])
  have hm : Mod [b] W ((((W.setCell ⟨b, 7, none⟩ (.bool true)).setCell ⟨b, 2, none⟩ (.string ⟨#[]⟩)).setCell ⟨b, 3, none⟩ (.map (some W.heap.size))).alloc (.map #[] 0)) :=
    ((((Mod.refl _ W).setCell (p := ⟨b, 7, none⟩) (.inl (by simp)) _).setCell (p := ⟨b, 2, none⟩) (.inl (by simp)) _).setCell (p := ⟨b, 3, none⟩) (.inl (by simp)) _).alloc _
  have hmap := IMap.made (((W.setCell ⟨b, 7, none⟩ (.bool true)).setCell ⟨b, 2, none⟩ (.string ⟨#[]⟩)).setCell ⟨b, 3, none⟩ (.map (some W.heap.size))) .u64
  rw [hsz] at hmap
  refine ⟨⟨?_, ⟨_, hmap, hcov⟩, by omega, h.wf.drop⟩, hm⟩
  have := (((h.blk.set_ 7 (.bool true)).set_ 2 (.string ⟨#[]⟩)).set_ 3 (.map (some W.heap.size))).alloc (.map #[] 0)
  have hrun : str (run o.drop.B o.drop.taken o.drop.ready) = .string ⟨#[]⟩ := by simp [Ib.drop, run_empty, str]
  rw [hrun]
  exact this

set_option maxHeartbeats 4000000 in
theorem ireset_any (w : World) (b m : Nat) (o : Ib) (h : IBox w b m o) (fin code : Nat) :
    Calls Tryz.prog 56 #[.pointer (some ⟨b, 0, none⟩), .int .u64 fin, .int .u64 code] w fun e w' =>
      e = .returned (.int .i64 (o.resetErr fin)) ∧ IStep w b m (o.resetTo fin) w' := by
  have c0 := h.c0
  have c4 := h.c4
  have c5 := h.c5
  have c6 := h.c6
  have f4 := h.blk.frozen 4
  have f5 := h.blk.frozen 5
  have f6 := h.blk.frozen 6
  have HE : Hid (o.resetErr fin = if o.limit < fin then 20 else if (o.known = true ∧ fin ≠ o.final) ∨ fin < o.far then 23 else 0) := hide rfl
  by_cases h1 : o.limit < fin
  · have h1' : (o.limit : Int) < fin := by omega
    have hst : IStep w b m (o.resetTo fin) w := by
      have : o.resetTo fin = o := by unfold Ib.resetTo; rw [HE.out, if_pos h1]; rfl
      rw [this]; exact IStep.of_drew h 0
    have HS := hide hst
    clear h hst
    go_enter Tryz.func56, Tryz.ntmps56
    go_wp2
    go_ret
    exact ⟨by rw [HE.out, if_pos h1]; rfl, HS.out⟩
  · have h1' : ¬ (o.limit : Int) < fin := by omega
    by_cases h2 : (o.known = true ∧ fin ≠ o.final) ∨ fin < o.far
    · have hst : IStep w b m (o.resetTo fin) w := by
        have : o.resetTo fin = o := by unfold Ib.resetTo; rw [HE.out, if_neg h1, if_pos h2]; rfl
        rw [this]; exact IStep.of_drew h 0
      have HS := hide hst
      have H2 := hide h2
      clear h hst
      cases hk : o.known
      · have h3 : fin < o.far := by rw [hk] at h2; simpa using h2
        have h3' : (fin : Int) < o.far := by omega
        rw [hk] at c6
        clear hk h2
        go_enter Tryz.func56, Tryz.ntmps56
        go_wp2
        go_ret
        exact ⟨by rw [HE.out, if_neg h1, if_pos H2.out]; rfl, HS.out⟩
      · rw [hk] at c6
        by_cases h4 : fin = o.final
        · have h3 : fin < o.far := by rcases h2 with h2 | h2; exact absurd h4 h2.2; exact h2
          have h3' : (fin : Int) < o.far := by omega
          have h4' : ((fin : Int) != o.final) = false := by simp; omega
          have h5' : (o.final : Int) < o.far := by omega
          clear hk h2 h4
          go_enter Tryz.func56, Tryz.ntmps56
          go_wp2
          go_ret
          exact ⟨by rw [HE.out, if_neg h1, if_pos H2.out]; rfl, HS.out⟩
        · have h4' : ((fin : Int) != o.final) = true := by simp; omega
          clear hk h2
          go_enter Tryz.func56, Tryz.ntmps56
          go_wp2
          go_ret
          exact ⟨by rw [HE.out, if_neg h1, if_pos H2.out]; rfl, HS.out⟩
    · have he : o.resetErr fin = 0 := by rw [HE.out, if_neg h1, if_neg h2]
      obtain ⟨k1, k2, k3⟩ := Ib.resetErr_zero he
      have hwf := h.wf.told k1 k3
      have hmax : ((max o.far fin : Nat) : Int) = max (o.far : Int) fin := by omega
      have hfr : ¬ (fin : Int) < o.far := by omega
      have mS : Mod [b] w (((w.setCell ⟨b, 5, none⟩ (.int .u64 (fin : Int))).setCell ⟨b, 6, none⟩ (.bool true)).setCell ⟨b, 4, none⟩ (.int .u64 (max (o.far : Int) fin))) :=
        (((Mod.refl _ w).setCell (p := ⟨b, 5, none⟩) (.inl (by simp)) _).setCell (p := ⟨b, 6, none⟩) (.inl (by simp)) _).setCell (p := ⟨b, 4, none⟩) (.inl (by simp)) _
      have hB : IBox (((w.setCell ⟨b, 5, none⟩ (.int .u64 (fin : Int))).setCell ⟨b, 6, none⟩ (.bool true)).setCell ⟨b, 4, none⟩ (.int .u64 (max (o.far : Int) fin))) b m (o.told fin) :=
        h.remade mS (by
          have := ((h.blk.set_ 5 (.int .u64 (fin : Int))).set_ 6 (.bool true)).set_ 4 (.int .u64 (max (o.far : Int) fin))
          simp only [Ib.told, hmax]
          exact this) rfl hwf
      have HB := hide hB
      have MS := hide mS
      have HE0 := hide he
      clear hB mS hwf h he
      have hdone : Hid ((o.told fin).done = decide (o.taken = fin)) := hide (by
        show (true && (o.taken == fin)) = _
        rw [Bool.true_and]; rfl)
      have hmm := @run_makeMap Tryz.prog
      go_enter Tryz.func56, Tryz.ntmps56
      go_upto_block 0 with fail
      go_cut [] (fun wx => wx = w)
      case first =>
        cases hk : o.known
        · rw [hk] at c6
          clear hk k2 h2
          go_wp2_with fail
          go_meet
          rfl
        · have h4' : ((fin : Int) != o.final) = false := by have := k2 hk; simp; omega
          rw [hk] at c6
          clear hk k2 h2
          go_wp2_with fail
          go_meet
          rfl
      case rest =>
        subst hcut
        clear k2 h2 HE
        go_wp2_with fail
        refine (idone_any _ b m (o.told fin) HB.out).mono ?_
        rintro e w3 ⟨rfl, k, rfl⟩
        rw [hdone.out]
        by_cases ht : o.taken = fin
        · have hres : o.resetTo fin = o.told fin := by unfold Ib.resetTo; rw [if_pos HE0.out, if_pos ht]
          have HR := hide hres
          rw [decide_eq_true ht]
          clear ht hres
          go_wp2_with fail
          go_ret
          refine ⟨by rw [HE0.out]; rfl, ?_⟩
          rw [HR.out]
          exact ⟨m, HB.out.mod ((Mod.refl [] _).drewN k) (by simp) (by simp), (MS.out.mono (by simp)).drewN k, .inl rfl⟩
        · have hres : o.resetTo fin = (o.told fin).drop := by unfold Ib.resetTo; rw [if_pos HE0.out, if_neg ht]
          have HR := hide hres
          rw [decide_eq_false ht]
          clear ht hres
          have hB2 : IBox (World.drewN _ k) b m (o.told fin) := HB.out.mod ((Mod.refl [] _).drewN k) (by simp) (by simp)
          have m2 : Mod [b] wc (World.drewN _ k) := MS.out.drewN k
          obtain ⟨W2, hW2⟩ : ∃ W2, World.drewN ((((wc.setCell ⟨b, 5, none⟩ (.int .u64 (fin : Int))).setCell ⟨b, 6, none⟩ (.bool true)).setCell ⟨b, 4, none⟩ (.int .u64 (max (o.far : Int) fin)))) k = W2 := ⟨_, rfl⟩
          rw [hW2] at hB2 m2 ⊢
          clear hW2
          have d2 := hB2.c2
          have d3 := hB2.c3
          have d7 := hB2.c7
          have g2 := hB2.blk.frozen 2
          have g3 := hB2.blk.frozen 3
          have g7 := hB2.blk.frozen 7
          have hbl := hB2.blk.lt
          obtain ⟨hD, mD⟩ := hB2.dropped
          have HD := hide hD
          have MD := hide mD
          have M2 := hide m2
          have Hsz := hide (MS.out.drewN k).size
          clear hD mD m2 hB2 HB MS c0 c4 c5 c6 f4 f5 f6
          go_wp2_with fail
          go_ret
          refine ⟨by rw [HE0.out]; rfl, ?_⟩
          rw [HR.out]
          exact ⟨_, HD.out, (M2.out.mono (by simp)).trans MD.out (by simp), .inr M2.out.size⟩
end Go.Proofs.YtjdfemfobcjecaaGreat

/-
  inbox: lay.
-/
namespace Go.Proofs.YtjdfemfobcjecaaGreat
open Go.RowKit

/-- C, and what D has laid from a up to c -/
def mix (C : Nat → Option UInt8) (a : Nat) (D : List UInt8) (c n : Nat) : Option UInt8 := (C n).or (if a ≤ n ∧ n < c then D[n - a]? else none)

theorem mix_start (C : Nat → Option UInt8) (a : Nat) (D : List UInt8) (n : Nat) : mix C a D a n = C n := by
  unfold mix
  rw [if_neg (by omega), Option.or_none]
theorem mix_none {C : Nat → Option UInt8} {a : Nat} {D : List UInt8} {c n : Nat} (h : C n = none) (hc : c ≤ n) : mix C a D c n = none := by
  unfold mix
  rw [if_neg (by omega), h]; rfl
/-- laid further, over what was there -/
theorem mix_over {C : Nat → Option UInt8} {a : Nat} {D : List UInt8} {c c' : Nat} (hc : c ≤ c') (h : ∀ n, c ≤ n → n < c' → (C n).isSome = true) (n : Nat) : mix C a D c' n = mix C a D c n := by
  unfold mix
  cases hC : C n with
  | some x => rfl
  | none =>
    have : ¬ (c ≤ n ∧ n < c') := fun hh => by have := h n hh.1 hh.2; rw [hC] at this; cases this
    by_cases h1 : a ≤ n ∧ n < c
    · rw [if_pos h1, if_pos ⟨h1.1, by omega⟩]
    · rw [if_neg h1, if_neg (by omega)]
/-- laid further, where nothing was -/
theorem mix_more {C : Nat → Option UInt8} {a : Nat} {D : List UInt8} {c : Nat} {s : List UInt8} (hac : a ≤ c) (hfree : ∀ i, i < s.length → C (c + i) = none) (hs : s = (D.drop (c - a)).take s.length) (n : Nat) :
    mix C a D (c + s.length) n = if c ≤ n ∧ n < c + s.length then s[n - c]? else mix C a D c n := by
  by_cases h1 : c ≤ n ∧ n < c + s.length
  · rw [if_pos h1]
    have h2 := hfree (n - c) (by omega)
    rw [show c + (n - c) = n by omega] at h2
    unfold mix
    rw [h2, Option.none_or, if_pos ⟨by omega, h1.2⟩, hs, List.getElem?_take, if_pos (by omega), List.getElem?_drop]
    congr 1
    omega
  · rw [if_neg h1]
    unfold mix
    congr 1
    by_cases h3 : a ≤ n ∧ n < c
    · rw [if_pos h3, if_pos ⟨h3.1, by omega⟩]
    · rw [if_neg h3, if_neg (by omega)]
theorem mix_end {C : Nat → Option UInt8} {a : Nat} {D : List UInt8} {c : Nat} (hc : a + D.length ≤ c) (n : Nat) : mix C a D c n = over C a D n := by
  unfold mix over
  congr 1
  by_cases h1 : a ≤ n
  · by_cases h2 : n < c
    · rw [if_pos ⟨h1, h2⟩, if_pos h1]
    · rw [if_neg (by omega), if_pos h1, List.getElem?_eq_none (by omega)]
  · rw [if_neg (by omega), if_neg h1]

theorem urow_form {w : World} {base n : Nat} {v : Value} {ss : List Int} (h : w.ownsRow base 22 1 v n (ss.map U)) :
    ∃ A cap, v = .slice A n cap ∧ n ≤ cap ∧ cap ≤ 9223372036854775807 ∧ ss.length = n ∧ ∀ j (hj : j < ss.length), ∃ g, A = some ⟨g, 0, none⟩ ∧ base ≤ g ∧ g < w.heap.size ∧ w.cell? ⟨g, j, none⟩ = some (.int .u64 ss[j]) := by
  have hl : ss.length = n := by have := h.1; simpa using this
  rcases h.2 with ⟨h0, hn⟩ | ⟨g, cap, cur, hv, hb, hg, h1, h2, h3, h4⟩
  · exact ⟨none, 0, by rw [h0, hn], by omega, by omega, hl, fun j hj => by omega⟩
  · refine ⟨_, cap, hv, h1, by simpa [maxLen] using h2, hl, fun j hj => ⟨g, rfl, hb, Blk.lt hg, ?_⟩⟩
    rw [Blk.cell hg j]
    have hj' : (ss.map U)[j]? = some (U ss[j]) := by simp [hj]
    rw [← h4, List.getElem?_take] at hj'
    split at hj'
    · simpa [U] using hj'
    · cases hj'

theorem drop_min (D : List UInt8) (x : Nat) : (D.drop (min x D.length)).take (D.length - min x D.length) = D.drop x := by
  rw [List.take_of_length_le (by simp)]
  by_cases h : x ≤ D.length
  · rw [Nat.min_eq_left h]
  · rw [Nat.min_eq_right (by omega), List.drop_of_length_le (Nat.le_refl _), List.drop_of_length_le (by omega)]

/-- where the laying begins, and what of the bytes is laid -/
theorem clip {C : Nat → Option UInt8} {r a : Nat} {D : List UInt8} (n : Nat) (hn : r ≤ n) : over C (max a r) (D.drop (r - a)) n = over C a D n := by
  unfold over
  congr 1
  by_cases h1 : a ≤ n
  · rw [if_pos h1, if_pos (by omega), List.getElem?_drop]
    congr 1
    omega
  · rw [if_neg h1, if_neg (by omega)]

theorem free_of {f : Int → Option Value} {C : Nat → Option UInt8} (hcv : Cov f C) {ss : List Int} (hK : KeysOf f ss) (hsort : ss.Pairwise (· < ·)) {c j : Nat}
    (hproc : ∀ i (_ : i < j) (hi : i < ss.length) (t : List UInt8), f ss[i] = some (str t) → ss[i] + t.length ≤ c) (n : Nat) (hc : c ≤ n) (hlt : ∀ hj : j < ss.length, (n : Int) < ss[j]) : C n = none := by
  cases hC : C n with
  | none => rfl
  | some x =>
    obtain ⟨k, t, h1, h2, h3⟩ := hcv.cov n (by rw [hC]; rfl)
    have hm : (k : Int) ∈ ss := (hK.2 k).2 (by rw [h1]; rfl)
    obtain ⟨i, hi, hik⟩ := List.mem_iff_getElem.1 hm
    by_cases hij : i < j
    · have := hproc i hij hi t (by rw [hik]; exact h1)
      rw [hik] at this
      omega
    · have hj : j < ss.length := by omega
      have h4 := hlt hj
      rcases Nat.lt_or_ge j i with h5 | h5
      · have := List.pairwise_iff_getElem.1 hsort j i hj hi h5
        rw [hik] at this
        omega
      · obtain rfl : i = j := by omega
        rw [hik] at h4
        omega

set_option maxRecDepth 100000 in
set_option maxHeartbeats 16000000 in
theorem ilay_any (w : World) (b m : Nat) (o : Ib) (h : IBox w b m o) (a : Nat) (D : List UInt8) (ha : a ≤ 4611686018427387903) (hD : D.length ≤ 65536) (hroom : o.supp.length < 65536) :
    Calls Tryz.prog 82 #[.pointer (some ⟨b, 0, none⟩), .int .u64 a, str D] w fun e w' =>
      e = .returned (.tuple #[]) ∧ ∃ f', IMap w' m .u64 f' ∧ Cov f' (fun n => if o.ready ≤ n then over o.B a D n else none) ∧ Mod [m] w w' := by
  obtain ⟨f, hf, hcv⟩ := h.map
  have c1 := h.c1
  have c2 := h.c2
  have c3 := h.c3
  have hlen := run_length o.B o.taken o.ready
  have htk := h.wf.tk
  have hrd := h.wf.rd
  have htop := h.wf.top
  have hlim := h.wf.lim
  have hne := h.ne
  have hblk := h.blk
  have hml := h.mlt
  have hbl := h.blk.lt
  obtain ⟨at0, hat0⟩ : ∃ x, x = max a o.ready := ⟨_, rfl⟩
  obtain ⟨D0, hD0⟩ : ∃ x, x = D.drop (o.ready - a) := ⟨_, rfl⟩
  obtain ⟨C0, hC0⟩ : ∃ x, x = o.rest := ⟨_, rfl⟩
  have hat0M : at0 ≤ 4611686018427387903 := by omega
  have hD0l : D0.length ≤ 65536 := by rw [hD0, List.length_drop]; omega
  have hfin : ∀ g wx, IMap wx m .u64 g → Cov g (over C0 at0 D0) → Mod [m] w wx → ∃ f', IMap wx m .u64 f' ∧ Cov f' (fun n => if o.ready ≤ n then over o.B a D n else none) ∧ Mod [m] w wx := fun g wx h1 h2 h3 =>
    ⟨g, h1, h2.congr (fun n => by
      by_cases hn : o.ready ≤ n
      · rw [if_pos hn, hat0, hD0, clip n hn, hC0]
        unfold over Ib.rest
        rw [if_pos hn]
      · rw [if_neg hn, hC0]
        unfold over Ib.rest
        rw [if_neg hn, if_neg (by omega)]; rfl), h3⟩
  have hfar : ∀ n, (C0 n).isSome = true → n < o.far ∧ n ∈ o.supp := fun n hn => by
    rw [hC0] at hn
    unfold Ib.rest at hn
    split at hn
    · exact ⟨h.wf.bound n hn, h.wf.supp n hn⟩
    · cases hn
  rw [← hC0] at hcv
  obtain ⟨S2, hS2⟩ : ∃ S : ByteArray, S = ⟨(run o.B o.taken o.ready).toArray⟩ := ⟨_, rfl⟩
  have hS2s : S2.size = o.ready - o.taken := by rw [hS2, ← hlen]; rfl
  rw [← hS2] at c2
  have hsum : (o.taken : Int) + ((o.ready - o.taken : Nat) : Int) = o.ready := by omega
  have hwl : IntKind.u64.wrap ((o.ready - o.taken : Nat) : Int) = ((o.ready - o.taken : Nat) : Int) := IntWalk.u64_in _ (by omega)
  have hwr : IntKind.u64.wrap (o.ready : Int) = o.ready := IntWalk.u64_in _ (by omega)
  have HF := hide hfin
  have HFar := hide hfar
  have HD0 := hide hD0
  have HAt := hide hat0
  clear hfin hfar hS2 hlen h hC0 hD0 hat0
  obtain ⟨S1, hS1⟩ : ∃ S : ByteArray, S = ⟨D.toArray⟩ := ⟨_, rfl⟩
  have hS1s : S1.size = D.length := by rw [hS1]; rfl
  unfold str
  rw [← hS1]
  have HS1 := hide hS1
  clear hS1
  go_enter Tryz.func82, Tryz.ntmps82
  go_upto_region 0 with fail
  go_cut [6] (fun v wx => v = .int .u64 (o.ready : Int) ∧ Mod [] w wx)
  case first =>
    clear HF HFar
    go_quiet (fail)
    go_wp2_with fail
    go_meet
    exact ⟨rfl, (Mod.refl _ _).drewN _⟩
  case rest =>
    obtain ⟨rfl, m0⟩ := hcut
    go_upto_if 24 with fail
    go_cut [1, 2] (fun x y wx => x = .int .u64 (at0 : Int) ∧ (∃ S : ByteArray, y = .string S ∧ S.data.toList = D0) ∧ Mod [] w wx)
    case first =>
      by_cases hlt : a < o.ready
      · have hlt' : (a : Int) < o.ready := by omega
        have hsub : (o.ready : Int) - a = ((o.ready - a : Nat) : Int) := by omega
        have hw1 : IntKind.u64.wrap ((o.ready - a : Nat) : Int) = ((o.ready - a : Nat) : Int) := IntWalk.u64_in _ (by omega)
        have hw2 : IntKind.u64.wrap (D.length : Int) = D.length := IntWalk.u64_in _ (by omega)
        go_wp2_with fail
        go_meet
        have e : (min (((o.ready - a : Nat)) : Int) (D.length : Int)).toNat = min (o.ready - a) D.length := by omega
        refine ⟨by congr 1; have := HAt.out; omega, ⟨_, rfl, ?_⟩, m0⟩
        rw [e, HS1.out, str_extract, HD0.out]
        exact drop_min D (o.ready - a)
      · have hlt' : ¬ (a : Int) < o.ready := by omega
        go_wp2_with fail
        go_meet
        refine ⟨by congr 1; have := HAt.out; omega, ⟨S1, rfl, ?_⟩, m0⟩
        rw [HD0.out, HS1.out, show o.ready - a = 0 by omega]; rfl
    case rest =>
      clear c1 c2 hS2s hsum hwl hwr hS1s
      obtain ⟨rfl, ⟨S, rfl, hS⟩, m1⟩ := hcut
      have c3' := (hblk.cell 3 : w.cell? ⟨b, 3, none⟩ = _)
      clear c3 c3'
      have hb1 := m1.blk hblk (by simp)
      have hf1 := hf.mod m1 (by simp)
      have c3 : wc.cell? ⟨b, 3, none⟩ = some (.map (some m)) := hb1.cell 3
      have hks := callsIn_wide.1 (keys_u64 Fence.wide 5 trivial rfl (some m) wc)
      go_wp2_with fail
      refine hks.mono ?_
      clear hks
      rintro e w2 ⟨rfl, rfl⟩
      have m2 : Mod [] w (wc.alloc (.cells #[.map (some m)] 119)) := m1.alloc _
      have hsd := sorted_u64 (wc.alloc (.cells #[.map (some m)] 119)) wc.heap.size m f (by simp) (Blk.cell (Blk.new wc _ _) 0) (hf1.mod ((Mod.refl [] _).alloc _) (by simp)) (o.supp.map Int.ofNat) (fun x hx => by
        obtain ⟨k, s, rfl, _, _, hk⟩ := hcv.key hx
        exact List.mem_map.2 ⟨k, (HFar.out k hk).2, rfl⟩) (by simpa using hroom)
      go_wp2_with fail
      refine hsd.mono ?_
      clear hsd
      rintro e w3 ⟨v, ss, rfl, hK, hsort, hrow, m3⟩
      have m4 := m2.trans m3 (by simp)
      clear m2 m3
      obtain ⟨A, cap, rfl, hn1, hn2, hn3, hat⟩ := urow_form hrow
      have hssl : ss.length < 65536 := by
        have := nodup_le ss (o.supp.map Int.ofNat) hK.1 (fun x hx => by
          obtain ⟨k, s, rfl, _, _, hk⟩ := hcv.key ((hK.2 x).1 hx)
          exact List.mem_map.2 ⟨k, (HFar.out k hk).2, rfl⟩)
        simp at this; omega
      have hb3 := m4.blk hblk (by simp)
      have hf3 := hf.mod m4 (by simp)
      have hwsz : w.heap.size ≤ wc.heap.size := m1.size
      have hat' : ∀ j (hj : j < ss.length), ∃ g, A = some ⟨g, 0, none⟩ ∧ g ≠ m ∧ g < w3.heap.size ∧ w3.cell? ⟨g, j, none⟩ = some (.int .u64 ss[j]) := fun j hj => by
        obtain ⟨g, e1, e2, e3, e4⟩ := hat j hj
        simp at e2
        exact ⟨g, e1, by omega, e3, e4⟩
      have HAT := hide hat'
      have HSo := hide hsort
      have HKs := hide hK
      have HCv := hide hcv
      have HS0 := hide hS
      clear hb1 hf1 c3 hn3 hat hat' hrow hsort hK hcv hS hblk hf
      go_upto_block 0 with fail
      go_cut [1, 2] (fun x y wx => ∃ (c : Nat) (T : ByteArray) (g : Int → Option Value), x = .int .u64 (c : Int) ∧ y = .string T ∧ at0 ≤ c ∧ c ≤ 4611686018427387903 ∧ T.data.toList = D0.drop (c - at0) ∧ IMap wx m .u64 g ∧ Cov g (mix C0 at0 D0 c) ∧
        (∀ n, c ≤ n → n < c + T.size → C0 n = none) ∧ Mod [m] w3 wx)
      case first =>
        go_wp2_with fail
        go_loopw [1, 2, 42] (fun x y i wr => ∃ (j c : Nat) (T : ByteArray) (g : Int → Option Value), i = .int .i64 (j : Int) ∧ j ≤ ss.length ∧ x = .int .u64 (c : Int) ∧ y = .string T ∧ at0 ≤ c ∧ c ≤ 4611686018427387903 ∧ T.data.toList = D0.drop (c - at0) ∧ IMap wr m .u64 g ∧ Cov g (mix C0 at0 D0 c) ∧
          (∀ x, (f x).isSome = true → g x = f x) ∧ (∀ i' (_ : i' < j) (hi : i' < ss.length) (t : List UInt8), f ss[i'] = some (str t) → ss[i'] + t.length ≤ c) ∧ Mod [m] w3 wr)
          (fun _ _ i _ => ss.length - (intOf i).toNat)
        case atStart => exact ⟨0, at0, S, f, rfl, by omega, rfl, rfl, Nat.le_refl _, hat0M, by rw [HS0.out, Nat.sub_self]; rfl, hf3, HCv.out.congr (mix_start C0 at0 D0), fun _ _ => rfl, fun i' h1 => by omega, Mod.refl _ _⟩
        case round =>
          obtain ⟨j, c, T, g, rfl, hj, rfl, rfl, hac, hcM, hT, hg, hgc, hagree, hproc, mm⟩ := hrel
          have hTl : T.size = D0.length - (c - at0) := by
            have := congrArg List.length hT
            rw [List.length_drop] at this
            simpa using this
          have hTM : T.size ≤ 65536 := by omega
          have HTl := hide hTl
          have HT := hide hT
          have HGC := hide hgc
          have HAG := hide hagree
          have HPR := hide hproc
          clear hf3 hT hgc hagree hproc hTl
          by_cases hlt : j < ss.length
          · obtain ⟨gb, rfl, hgm, hgl, hcell⟩ := HAT.out j hlt
            obtain ⟨k, t, hkx, hfk, ht0, hCk⟩ := HCv.out.key (x := ss[j]) ((HKs.out.2 _).1 (List.getElem_mem hlt))
            have cidx : wr.cell? ⟨gb, j, none⟩ = some (.int .u64 (k : Int)) := by rw [mm.cell (p := ⟨gb, j, none⟩) hgl (by simpa using hgm), hcell, hkx]
            have cb : wr.cell? ⟨b, 3, none⟩ = some (.map (some m)) := (mm.blk hb3 (by simpa using hne)).cell 3
            have htl : 0 < t.length := List.length_pos_iff.2 ht0
            obtain ⟨e, he⟩ : ∃ e, e = k + t.length := ⟨_, rfl⟩
            have heM : e ≤ 4611686018427387903 := by
              have h1 := HCv.out.in_ hfk (n := e - 1) (by omega) (by omega)
              have := (HFar.out (e - 1) (by rw [h1]; rfl)).1
              omega
            have hlk := hg.lookup (P := Tryz.prog) (T := 119) Tryz.underlying119 Tryz.underlying22 (Tryz.zeroValue9 _) (k : Int)
            rw [HAG.out k (by rw [hfk]; rfl), hfk] at hlk
            obtain ⟨Sk, hSk⟩ : ∃ S : ByteArray, S = ⟨t.toArray⟩ := ⟨_, rfl⟩
            have hSks : Sk.size = t.length := by rw [hSk]; rfl
            have hlk2 : (Instr.lookup 119 (.map (some m)) (.int .u64 (k : Int)) false).run Tryz.prog wr = .ok (.string Sk) wr := by rw [hlk, hSk]; rfl
            have he' : (k : Int) + (t.length : Int) = e := by omega
            have hwe : IntKind.u64.wrap (e : Int) = e := IntWalk.u64_in _ (by omega)
            have hwt : IntKind.u64.wrap (t.length : Int) = t.length := IntWalk.u64_in _ (by omega)
            have hwT : IntKind.u64.wrap (T.size : Int) = T.size := IntWalk.u64_in _ (by omega)
            have hwcT : IntKind.u64.wrap ((c : Int) + T.size) = (c : Int) + T.size := IntWalk.u64_in _ (by omega)
            have hwe2 : IntKind.u64.wrap ((k : Int) + (t.length : Int)) = e := by rw [he']; exact hwe
            have He := hide he
            clear he
            have Hkx := hide hkx
            have Hfk := hide hfk
            have HCk := hide hCk
            clear hlk hSk hkx hfk ht0 hCk hcell
            by_cases h1 : e ≤ c
            · have h1' : (e : Int) ≤ c := by omega
              go_wp2_with fail
              go_roundw
              case rel => exact ⟨j + 1, c, T, g, by go_num, by omega, rfl, rfl, hac, hcM, HT.out, hg, HGC.out, HAG.out, fun i' hi1 hi2 t' ht' => by
                by_cases hij : i' < j
                · exact HPR.out i' hij hi2 t' ht'
                · obtain rfl : i' = j := by omega
                  rw [Hkx.out] at ht' ⊢
                  have := str_inj (Option.some.inj (Hfk.out.symm.trans ht'))
                  rw [← this]
                  omega, mm⟩
              case measure => simp [intOf]; omega
            · have h1' : ¬ (e : Int) ≤ c := by omega
              by_cases h2 : c + T.size ≤ k
              · have h2' : (c : Int) + T.size ≤ k := by omega
                go_wp2_with fail
                go_meet
                exact ⟨c, T, g, rfl, rfl, hac, hcM, HT.out, hg, HGC.out, fun n hn1 hn2 => free_of HCv.out HKs.out HSo.out HPR.out n hn1 (fun _ => by rw [Hkx.out]; omega), mm⟩
              · have h2' : ¬ (c : Int) + T.size ≤ k := by omega
                go_upto_if 69 with fail
                go_cut [] (fun wx => ∃ g' : Int → Option Value, IMap wx m .u64 g' ∧ Cov g' (mix C0 at0 D0 (max k c)) ∧ (∀ x, (f x).isSome = true → g' x = f x) ∧ Mod [m] w3 wx)
                case first =>
                  by_cases h3 : c < k
                  · have h3' : (c : Int) < k := by omega
                    obtain ⟨q, hq⟩ : ∃ q, q = k - c := ⟨_, rfl⟩
                    have hq' : (k : Int) - c = q := by omega
                    have hwq : IntKind.u64.wrap (q : Int) = q := IntWalk.u64_in _ (by omega)
                    have hqT : q ≤ T.size := by omega
                    have hqT' : (q : Int) ≤ T.size := by omega
                    have hgd : IMap wr.drew m .u64 g := hg.mod ((Mod.refl [] wr).drew) (by simp)
                    obtain ⟨s', hs'⟩ : ∃ s', s' = (D0.drop (c - at0)).take q := ⟨_, rfl⟩
                    have hTs : T.extract 0 q = ⟨s'.toArray⟩ := by
                      apply ByteArray.ext
                      apply Array.ext'
                      rw [Lib.extract_data, HT.out, List.drop_zero, Nat.sub_zero, hs']
                    have hsl : s'.length = q := by rw [hs', List.length_take, List.length_drop]; have := HTl.out; omega
                    have hfree : ∀ i, i < s'.length → C0 (c + i) = none := fun i hi => free_of HCv.out HKs.out HSo.out HPR.out (c + i) (by omega) (fun _ => by rw [Hkx.out]; omega)
                    obtain ⟨w', hup, hm', mm', hsz'⟩ := hgd.update (P := Tryz.prog) (T := 119) Tryz.underlying119 Tryz.underlying22 (c : Int) (.string (T.extract 0 q))
                    have hadd : Cov (upd g c (some (str s'))) (mix C0 at0 D0 (max k c)) := (HGC.out.add c s' (by intro h0; rw [h0] at hsl; simp at hsl; omega) (fun i hi => mix_none (hfree i hi) (by omega))).congr (fun n => by
                      rw [show max k c = c + s'.length by omega]
                      exact mix_more hac hfree (by rw [hsl]; exact hs') n)
                    have hres : ∃ g' : Int → Option Value, IMap w' m .u64 g' ∧ Cov g' (mix C0 at0 D0 (max k c)) ∧ (∀ x, (f x).isSome = true → g' x = f x) ∧ Mod [m] w3 w' := by
                      refine ⟨_, hm', ?_, fun x hx => ?_, (mm.drew).trans mm' (by simp)⟩
                      · rw [hTs]; exact hadd
                      · unfold upd
                        rw [if_neg, HAG.out x hx]
                        rintro rfl
                        obtain ⟨k', s2, e1, _, _, e4⟩ := HCv.out.key hx
                        obtain rfl : c = k' := by omega
                        rw [show c = c + 0 from rfl, hfree 0 (by omega)] at e4
                        cases e4
                    have HRes := hide hres
                    clear hq hgd hs' hTs hsl hfree hm' mm' hsz' hadd hres
                    go_wp2_with fail
                    go_region
                    all_goals go_wp2_with fail
                    go_meet
                    exact HRes.out
                  · have h3' : ¬ (c : Int) < k := by omega
                    go_wp2_with fail
                    go_meet
                    exact ⟨g, hg, by rw [show max k c = c by omega]; exact HGC.out, HAG.out, mm⟩
                case rest =>
                  clear hg mm HGC HAG hlk2
                  obtain ⟨g', hg, hgc, hagree, mm⟩ := hcut
                  have hgc2 : Cov g' (mix C0 at0 D0 e) := hgc.congr (fun n => mix_over (by have := He.out; omega) (fun n' h5 h6 => by
                    have := He.out
                    rw [HCv.out.in_ Hfk.out (n := n') (by omega) (by omega)]; rfl) n)
                  have HG2 := hide hgc2
                  have HA2 := hide hagree
                  obtain ⟨q2, hq2⟩ : ∃ q, q = e - c := ⟨_, rfl⟩
                  have hq2' : (e : Int) - c = q2 := by omega
                  have hwq2 : IntKind.u64.wrap (q2 : Int) = q2 := IntWalk.u64_in _ (by omega)
                  have hmax : max (e : Int) c = e := by omega
                  have hmin : (min (q2 : Int) T.size).toNat = min q2 T.size := by omega
                  have hT2 : Hid ((T.extract (min q2 T.size) T.size).data.toList = D0.drop (e - at0)) := hide (by
                    have hl : T.size = T.data.toList.length := by simp
                    rw [Lib.extract_data, hl, drop_min, HT.out, List.drop_drop]
                    congr 1
                    omega)
                  clear hgc hgc2 hagree hq2
                  go_wp2_with fail
                  go_roundw
                  case rel => exact ⟨j + 1, e, T.extract (min q2 T.size) T.size, g', by go_num, by omega, rfl, rfl, by omega, heM, hT2.out, hg, HG2.out, HA2.out, fun i' hi1 hi2 t' ht' => by
                    by_cases hij : i' < j
                    · have := HPR.out i' hij hi2 t' ht'; omega
                    · obtain rfl : i' = j := by omega
                      rw [Hkx.out] at ht' ⊢
                      have := str_inj (Option.some.inj (Hfk.out.symm.trans ht'))
                      rw [← this]
                      have := He.out
                      omega, mm⟩
                  case measure => simp [intOf]; omega
          · have hlt' : decide ((j : Int) < (ss.length : Int)) = false := decide_eq_false (by omega)
            go_wp2_with fail
            go_meet
            exact ⟨c, T, g, rfl, rfl, hac, hcM, HT.out, hg, HGC.out, fun n hn1 _ => free_of HCv.out HKs.out HSo.out HPR.out n hn1 (fun hj' => absurd hj' hlt), mm⟩
      case rest =>
        obtain ⟨c, T, g, rfl, rfl, hac, hcM, hT, hg, hgc, hfree, mm⟩ := hcut
        have hTl : T.size = D0.length - (c - at0) := by
          have := congrArg List.length hT
          rw [List.length_drop] at this
          simpa using this
        have cb : wc.cell? ⟨b, 3, none⟩ = some (.map (some m)) := (mm.blk hb3 (by simpa using hne)).cell 3
        have mw : Mod [m] w wc := (m4.mono (by simp)).trans mm (by simp)
        by_cases hz : T.size = 0
        · have hT0 : T = ⟨#[]⟩ := by
            apply ByteArray.ext
            exact Array.eq_empty_of_size_eq_zero hz
          have hres := HF.out g wc hg (hgc.congr (fun n => (mix_end (by omega) n).symm)) mw
          have HR := hide hres
          subst hT0
          clear hT hg hgc hfree mm hTl hres hz mw
          go_wp2_with fail
          go_end0
          exact ⟨rfl, HR.out⟩
        · have hneT : T.toList.isEmpty = false := by
            cases he : T.toList.isEmpty
            · rfl
            · have h0 := List.isEmpty_iff.1 he
              rw [Lib.toList_data] at h0
              have h1 : T.data.toList.length = T.size := by simp
              rw [h0] at h1
              exact absurd h1.symm hz
          obtain ⟨w', hup, hm', mm', hsz'⟩ := hg.update (P := Tryz.prog) (T := 119) Tryz.underlying119 Tryz.underlying22 (c : Int) (.string T)
          have hsl : T.data.toList.length = T.size := by simp
          have hTs : (.string T : Value) = str T.data.toList := rfl
          have hadd : Cov (upd g c (some (str T.data.toList))) (over C0 at0 D0) := (hgc.add c T.data.toList (by intro h0; rw [h0] at hsl; simp at hsl; omega) (fun i hi => mix_none (hfree (c + i) (by omega) (by omega)) (by omega))).congr (fun n => by
            rw [← mix_end (c := c + T.data.toList.length) (by omega) n]
            exact mix_more hac (fun i hi => hfree (c + i) (by omega) (by omega)) (by rw [hsl, hT, List.take_of_length_le (by rw [List.length_drop]; omega)]) n)
          have hres := HF.out _ w' hm' (by rw [hTs]; exact hadd) (mw.trans mm' (by simp))
          have HR := hide hres
          clear hT hg hgc hfree mm hTl hres hz mw hm' mm' hsz' hsl hTs hadd
          go_wp2_with fail
          go_end0
          exact ⟨rfl, HR.out⟩
end Go.Proofs.YtjdfemfobcjecaaGreat

/-
  inbox: join.
-/
namespace Go.Proofs.YtjdfemfobcjecaaGreat
open Go.RowKit

theorem run_append {B : Nat → Option UInt8} {a r : Nat} {s : List UInt8} (har : a ≤ r) (hs : ∀ i c, s[i]? = some c → B (r + i) = some c) : run B a r ++ s = run B a (r + s.length) := by
  apply List.ext_getElem
  · simp [run_length]; omega
  · intro i h1 h2
    rw [List.getElem_append]
    split
    · simp [run]
    · rename_i h3
      rw [run_length] at h3
      simp only [run, List.getElem_map, List.getElem_range', List.length_map, List.length_range', Nat.one_mul]
      have hi : i - (r - a) < s.length := by
        rw [List.length_append, run_length] at h1; omega
      have := hs (i - (r - a)) s[i - (r - a)] (List.getElem?_eq_getElem hi)
      rw [show r + (i - (r - a)) = a + i by omega] at this
      rw [this]; rfl

theorem bytes_append (a b : List UInt8) : ((⟨a.toArray⟩ : ByteArray) ++ ⟨b.toArray⟩) = ⟨(a ++ b).toArray⟩ := by
  apply ByteArray.ext
  apply Array.ext'
  simp
theorem mapLen_mod {F : List Nat} {w w' : World} {m : Nat} (hm : Mod F w w') (h1 : m < w.heap.size) (h2 : m ∉ F) : mapLen w' m = mapLen w m := by
  unfold mapLen
  rw [hm.block m h1 h2]

theorem Cov.first {f : Int → Option Value} {B : Nat → Option UInt8} {r : Nat} (h : Cov f (fun n => if r ≤ n then B n else none)) : (f r = none ∧ B r = none) ∨
    ∃ s : List UInt8, f r = some (str s) ∧ s ≠ [] ∧ (∀ i c, s[i]? = some c → B (r + i) = some c) ∧ Cov (upd f r none) (fun n => if r + s.length ≤ n then B n else none) := by
  cases hB : B r with
  | none =>
    refine .inl ⟨h.none_of (by rw [if_pos (Nat.le_refl _)]; exact hB), rfl⟩
  | some c =>
    obtain ⟨k, s, h1, h2, h3⟩ := h.cov r (by rw [if_pos (Nat.le_refl _), hB]; rfl)
    obtain ⟨k', s', e1, e2, e3, e4⟩ := h.key (x := k) (by rw [h1]; rfl)
    obtain rfl : k = k' := by omega
    have : r ≤ k := Decidable.byContradiction fun hn => by rw [if_neg hn] at e4; cases e4
    obtain rfl : r = k := by omega
    refine .inr ⟨s, h1, (h.at_ h1).1, fun i c hi => ?_, (h.del h1).congr fun n => ?_⟩
    · have := (h.at_ h1).2 i c hi
      rwa [if_pos (by omega)] at this
    · by_cases hn : r + s.length ≤ n
      · rw [if_pos hn, if_neg (by omega), if_pos (by omega)]
      · rw [if_neg hn]
        by_cases hn2 : r ≤ n
        · rw [if_pos ⟨hn2, by omega⟩]
        · rw [if_neg (by omega), if_neg hn2]

/-- the struct's cells -/
def icells (o : Ib) (m r : Nat) (B : Nat → Option UInt8) : Array Value :=
  #[.int .u64 (o.limit : Int), .int .u64 (o.taken : Int), str (run B o.taken r), .map (some m), .int .u64 (o.far : Int), .int .u64 (o.final : Int), .bool o.known, .bool o.reset]

set_option maxRecDepth 100000 in
set_option maxHeartbeats 8000000 in
theorem ijoin_any (w : World) (b m : Nat) (o : Ib) (B : Nat → Option UInt8) (r0 : Nat) (f0 : Int → Option Value) (hb : Blk w b 121 (icells o m r0 B)) (hf : IMap w m .u64 f0)
    (hcv : Cov f0 (fun n => if r0 ≤ n then B n else none)) (htk : o.taken ≤ r0) (hne : b ≠ m) (hM : ∀ n, (B n).isSome = true → n < 4611686018427387904) (hr0 : r0 ≤ 4611686018427387904) :
    Calls Tryz.prog 83 #[.pointer (some ⟨b, 0, none⟩)] w fun e w' => e = .returned (.tuple #[]) ∧
      ∃ r f, Blk w' b 121 (icells o m r B) ∧ IMap w' m .u64 f ∧ Cov f (fun n => if r ≤ n then B n else none) ∧ r0 ≤ r ∧ (∀ n, r0 ≤ n → n < r → (B n).isSome = true) ∧ B r = none ∧ Mod [b, m] w w' := by
  go_enter Tryz.func83, Tryz.ntmps83
  go_wp2_with fail
  go_loopw [2] (fun _ wr => ∃ (r : Nat) (f : Int → Option Value), Blk wr b 121 (icells o m r B) ∧ IMap wr m .u64 f ∧ Cov f (fun n => if r ≤ n then B n else none) ∧ r0 ≤ r ∧ r ≤ 4611686018427387904 ∧ (∀ n, r0 ≤ n → n < r → (B n).isSome = true) ∧ Mod [b, m] w wr)
    (fun _ wr => mapLen wr m)
  case atStart => exact ⟨r0, f0, hb, hf, hcv, Nat.le_refl _, hr0, fun n h1 h2 => by omega, Mod.refl _ _⟩
  case round =>
    clear hb hf hcv
    obtain ⟨r, f, hb, hf, hcv, hr, hrM, hall, hm⟩ := hrel
    have htr : o.taken ≤ r := by omega
    have hmlt := hf.lt
    have c1 : wr.cell? ⟨b, 1, none⟩ = some (.int .u64 (o.taken : Int)) := hb.cell 1
    obtain ⟨S, hS⟩ : ∃ S : ByteArray, S = ⟨(run B o.taken r).toArray⟩ := ⟨_, rfl⟩
    have c2 : wr.cell? ⟨b, 2, none⟩ = some (.string S) := by rw [hS]; exact hb.cell 2
    have c3 : wr.cell? ⟨b, 3, none⟩ = some (.map (some m)) := hb.cell 3
    have hSs : S.size = r - o.taken := by
      rw [hS, ← run_length B o.taken r]; rfl
    have hsum : (o.taken : Int) + ((r - o.taken : Nat) : Int) = r := by omega
    have hwl : IntKind.u64.wrap ((r - o.taken : Nat) : Int) = ((r - o.taken : Nat) : Int) := IntWalk.u64_in _ (by omega)
    have hwr : IntKind.u64.wrap (r : Int) = r := IntWalk.u64_in _ (by omega)
    have HS := hide hS
    have HAll := hide hall
    have HCV := hide hcv
    clear hS hall hcv
    go_upto_region 0 with fail
    go_cut [2] (fun v wx => v = .int .u64 (r : Int) ∧ Mod [] wr wx)
    case first =>
      go_quiet (fail)
      go_wp2_with fail
      go_meet
      exact ⟨rfl, (Mod.refl _ _).drewN _⟩
    case rest =>
      obtain ⟨rfl, m0⟩ := hcut
      replace hb := m0.blk hb (by simp)
      replace hf := hf.mod m0 (by simp)
      replace hm := hm.trans m0 (by simp)
      have hml : mapLen wc m = mapLen wr m := mapLen_mod m0 hmlt (by simp)
      clear c1 c2 c3
      have c2 : wc.cell? ⟨b, 2, none⟩ = some (.string S) := by rw [HS.out]; exact hb.cell 2
      have c3 : wc.cell? ⟨b, 3, none⟩ = some (.map (some m)) := hb.cell 3
      have f2 := hb.frozen 2
      have hlk := hf.lookup_ok (P := Tryz.prog) (T := 119) Tryz.underlying119 Tryz.underlying22 (Tryz.zeroValue9 _) (r : Int)
      rcases HCV.out.first with ⟨h1, h2⟩ | ⟨s, h1, hs0, hs1, hcv2⟩
      · rw [h1] at hlk
        simp only [Option.getD_none, Option.isSome_none] at hlk
        have H2 := hide h2
        have HB := hide hb
        have HFm := hide hf
        clear h1 h2 hb hf
        go_wp2_with fail
        refine bodyPost_ret (results_none rfl _ _ _) rfl ?_
        exact ⟨rfl, r, f, HB.out, HFm.out, HCV.out, hr, HAll.out, H2.out, hm⟩
      · rw [h1] at hlk
        simp only [Option.getD_some, Option.isSome_some] at hlk
        obtain ⟨Sk, hSk⟩ : ∃ S : ByteArray, S = ⟨s.toArray⟩ := ⟨_, rfl⟩
        have hlk2 : (Instr.lookup 119 (.map (some m)) (.int .u64 (r : Int)) true).run Tryz.prog wc = .ok (.tuple #[.string Sk, .bool true]) wc := by rw [hlk, hSk]; rfl
        have hSks : Sk.size = s.length := by rw [hSk]; rfl
        have hsl : 0 < s.length := List.length_pos_iff.2 hs0
        have hre : r + s.length ≤ 4611686018427387904 := by
          have := hM (r + (s.length - 1)) (by rw [hs1 (s.length - 1) s[s.length - 1] (List.getElem?_eq_getElem (by omega))]; rfl)
          omega
        have hcat : (.string (S ++ Sk) : Value) = str (run B o.taken (r + s.length)) := by
          rw [HS.out, hSk, bytes_append, run_append htr hs1]; rfl
        have mS : Mod [b] wc (wc.setCell ⟨b, 2, none⟩ (.string (S ++ Sk))) := (Mod.refl _ wc).setCell (p := ⟨b, 2, none⟩) (.inl (by simp)) _
        have hbS : Blk (wc.setCell ⟨b, 2, none⟩ (.string (S ++ Sk))) b 121 (icells o m (r + s.length) B) := by
          have := hb.set_ 2 (.string (S ++ Sk))
          have e : (icells o m r B).setIfInBounds 2 (.string (S ++ Sk)) = icells o m (r + s.length) B := by rw [hcat]; rfl
          rw [e] at this
          exact this
        have hmS := hf.mod mS (by simpa using Ne.symm hne)
        obtain ⟨w', hdel, hf', mm', hsz', hless⟩ := hmS.delete (P := Tryz.prog) (T := 119) Tryz.underlying119 Tryz.underlying22 (r : Int) (by rw [h1]; rfl) 0
        have hres : ∃ (r' : Nat) (f : Int → Option Value), Blk w' b 121 (icells o m r' B) ∧ IMap w' m .u64 f ∧ Cov f (fun n => if r' ≤ n then B n else none) ∧ r0 ≤ r' ∧ r' ≤ 4611686018427387904 ∧ (∀ n, r0 ≤ n → n < r' → (B n).isSome = true) ∧ Mod [b, m] w w' := by
          refine ⟨r + s.length, _, mm'.blk hbS (by simpa using hne), hf', hcv2, by omega, hre, fun n h5 h6 => ?_, (hm.trans (mS.mono (G := [b, m]) (by simp)) (by simp)).trans mm' (by simp)⟩
          by_cases h7 : n < r
          · exact HAll.out n h5 h7
          · have := hs1 (n - r) s[n - r] (List.getElem?_eq_getElem (by omega))
            rw [show r + (n - r) = n by omega] at this
            rw [this]; rfl
        have hless2 : mapLen w' m < mapLen wr m := by
          rw [← hml, ← mapLen_mod mS hf.lt (by simpa using Ne.symm hne)]
          exact hless
        have HRes := hide hres
        have hSS : S.size + Sk.size ≤ 9223372036854775807 := by omega
        clear hlk hSk hcat hbS hmS hf' mm' hsz' hless hres hb hf hm mS hs1 hcv2 h1 hml
        go_wp2_with fail
        go_roundw
        case rel => exact HRes.out
        case measure => exact hless2
end Go.Proofs.YtjdfemfobcjecaaGreat

/-
  inbox: Put.
-/
namespace Go.Proofs.YtjdfemfobcjecaaGreat
open Go.RowKit

def Ib.putErr (o : Ib) (a len : Nat) (fin : Bool) : Int := if 4611686018427387903 < a then 20 else o.fitErr (a + len) fin
/-- how far bytes came, and the final size, are told -/
def Ib.came (o : Ib) (e : Nat) (fin : Bool) : Ib := { o with far := max o.far e, final := if fin then e else o.final, known := o.known || fin }

/-- What a Put makes of an inbox. -/
structure Put (o : Ib) (a : Nat) (D : List UInt8) (fin : Bool) (o' : Ib) : Prop where
  bad : o.putErr a D.length fin ≠ 0 → o' = o
  old : o.putErr a D.length fin = 0 → o.reset = true → o' = o.came (a + D.length) fin
  new : o.putErr a D.length fin = 0 → o.reset = false → o' = { o.came (a + D.length) fin with ready := o'.ready, B := over o.B a D, supp := o.supp ++ List.range' a D.length } ∧ o.ready ≤ o'.ready
  wf : o'.WF

theorem Ib.fitErr_zero {o : Ib} {e : Nat} {fin : Bool} (h : o.fitErr e fin = 0) : e ≤ o.limit ∧ (o.known = true → e ≤ o.final ∧ (fin = true → e = o.final)) ∧ (fin = true → o.far ≤ e) := by
  unfold Ib.fitErr at h
  split at h
  · cases h
  · split at h
    · cases h
    · rename_i h1 h2
      refine ⟨by omega, fun hk => ⟨?_, fun hf => ?_⟩, fun hf => ?_⟩
      · exact Decidable.byContradiction fun hn => h2 (.inl ⟨hk, .inl (by omega)⟩)
      · exact Decidable.byContradiction fun hn => h2 (.inl ⟨hk, .inr ⟨hf, hn⟩⟩)
      · exact Decidable.byContradiction fun hn => h2 (.inr ⟨hf, by omega⟩)
theorem Ib.WF.came {o : Ib} (h : o.WF) {e : Nat} {fin : Bool} (h0 : o.fitErr e fin = 0) : (o.came e fin).WF := by
  obtain ⟨h1, h2, h3⟩ := Ib.fitErr_zero h0
  have ht := h.top
  refine ⟨h.lim, h.tk, h.fill, h.gap, fun n hn => ?_, ?_, fun hk => ?_, fun hk => ?_, h.supp, h.cut⟩
  · have := h.bound n hn
    simp only [Ib.came]; omega
  · simp only [Ib.came]; omega
  · cases hf : fin
    · have hk' : o.known = true := by simpa [Ib.came, hf] using hk
      have h4 := h.fin hk'
      have h5 := h2 hk'
      simp only [Ib.came, Bool.false_eq_true, if_false]
      omega
    · have h5 := h3 hf
      simp only [Ib.came, if_true]
      omega
  · cases hf : fin
    · have hk' : o.known = false := by simpa [Ib.came, hf] using hk
      simp only [Ib.came, Bool.false_eq_true, if_false]
      exact h.fin0 hk'
    · simp [Ib.came, hf] at hk

theorem over_isSome {C : Nat → Option UInt8} {a : Nat} {D : List UInt8} {n : Nat} : (over C a D n).isSome = true ↔ (C n).isSome = true ∨ (a ≤ n ∧ n < a + D.length) := by
  unfold over
  cases hC : C n with
  | some c => simp
  | none =>
    by_cases h : a ≤ n
    · rw [if_pos h, Option.none_or]
      rcases Nat.lt_or_ge (n - a) D.length with h2 | h2
      · rw [List.getElem?_eq_getElem h2]
        simp; omega
      · rw [List.getElem?_eq_none h2]
        simp; omega
    · rw [if_neg h]
      simp; omega
theorem put_wf {o : Ib} (h : o.WF) {a : Nat} {D : List UInt8} {fin : Bool} (h0 : o.fitErr (a + D.length) fin = 0) (hr : o.reset = false) {r : Nat} (h1 : o.ready ≤ r) (h2 : ∀ n, o.ready ≤ n → n < r → (over o.B a D n).isSome = true) (h3 : over o.B a D r = none) :
    ({ o.came (a + D.length) fin with ready := r, B := over o.B a D, supp := o.supp ++ List.range' a D.length } : Ib).WF := by
  have hc := h.came h0
  have htk := h.tk
  refine ⟨hc.lim, by simp only [Ib.came]; omega, fun n hn => ?_, h3, fun n hn => ?_, hc.top, hc.fin, hc.fin0, fun n hn => ?_, fun hk => ?_⟩
  · by_cases h4 : n < o.ready
    · exact over_isSome.2 (.inl (h.fill n h4))
    · exact h2 n (by omega) hn
  · rcases over_isSome.1 hn with h4 | h4
    · have := h.bound n h4
      simp only [Ib.came]; omega
    · simp only [Ib.came]; omega
  · rcases over_isSome.1 hn with h4 | h4
    · exact List.mem_append_left _ (h.supp n h4)
    · exact List.mem_append_right _ (List.mem_range'_1.2 h4)
  · rw [show ({ o.came (a + D.length) fin with ready := r, B := over o.B a D, supp := o.supp ++ List.range' a D.length } : Ib).reset = o.reset from rfl, hr] at hk
    cases hk

set_option maxRecDepth 100000 in
set_option maxHeartbeats 8000000 in
theorem iput_any (w : World) (b m : Nat) (o : Ib) (h : IBox w b m o) (a : Nat) (D : List UInt8) (fin : Bool) (ha : a ≤ 18446744073709551615) (hD : D.length ≤ 65536) (hroom : o.supp.length < 65536) :
    Calls Tryz.prog 57 #[.pointer (some ⟨b, 0, none⟩), .int .u64 a, str D, .bool fin] w fun e w' =>
      e = .returned (.int .i64 (o.putErr a D.length fin)) ∧ ∃ o', Put o a D fin o' ∧ IBox w' b m o' ∧ Mod [b, m] w w' := by
  have HE : Hid (o.putErr a D.length fin = if 4611686018427387903 < a then 20 else o.fitErr (a + D.length) fin) := hide rfl
  obtain ⟨S1, hS1⟩ : ∃ S : ByteArray, S = ⟨D.toArray⟩ := ⟨_, rfl⟩
  have hS1s : S1.size = D.length := by rw [hS1]; rfl
  have hstr : str D = .string S1 := by rw [hS1]; rfl
  have hwD : IntKind.u64.wrap (D.length : Int) = D.length := IntWalk.u64_in _ (by omega)
  have HStr := hide hstr
  rw [hstr]
  clear hS1 hstr
  have bad : o.putErr a D.length fin ≠ 0 → ∀ n, ∃ o', Put o a D fin o' ∧ IBox (w.drewN n) b m o' ∧ Mod [b, m] w (w.drewN n) := fun hne n =>
    ⟨o, ⟨fun _ => rfl, fun h0 => absurd h0 hne, fun h0 => absurd h0 hne, h.wf⟩, h.mod ((Mod.refl [] w).drewN n) (by simp) (by simp), (Mod.refl _ _).drewN n⟩
  have BAD := hide bad
  clear bad
  by_cases h1 : 4611686018427387903 < a
  · have h1' : (4611686018427387903 : Int) < a := by omega
    clear h
    go_enter Tryz.func57, Tryz.ntmps57
    go_wp2_with fail
    go_ret
    exact ⟨by rw [HE.out, if_pos h1]; rfl, BAD.out (by rw [HE.out, if_pos h1]; decide) 0⟩
  · have h1' : ¬ (4611686018427387903 : Int) < a := by omega
    obtain ⟨e, he⟩ : ∃ e, e = a + D.length := ⟨_, rfl⟩
    have he' : (a : Int) + D.length = e := by omega
    have hwe : IntKind.u64.wrap (e : Int) = e := IntWalk.u64_in _ (by omega)
    have hwe2 : IntKind.u64.wrap ((a : Int) + D.length) = e := by rw [he']; exact hwe
    have He := hide he
    rw [← he] at HE
    clear he
    obtain ⟨E, hE⟩ : ∃ E, o.fitErr e fin = E := ⟨_, rfl⟩
    have hfit := ifits_any w b m o h e fin
    rw [hE] at hfit
    have HFit := hide hfit
    clear hfit
    by_cases hE0 : E = 0
    · subst hE0
      have hwf := h.wf.came hE
      have herr : o.putErr a D.length fin = 0 := by rw [HE.out, if_neg h1]; exact hE
      have hfz := Ib.fitErr_zero hE
      have htop := h.wf.top
      have hlim := h.wf.lim
      have HErr := hide herr
      have HE0 := hide hE
      have HWF := hide hwf
      have HH := hide h
      have HFz := hide hfz
      clear hE herr hwf h hfz
      go_enter Tryz.func57, Tryz.ntmps57
      go_wp2_with fail
      refine HFit.out.mono ?_
      rintro x w1 ⟨rfl, n1, rfl⟩
      have hb1 : IBox (w.drewN n1) b m o := HH.out.mod ((Mod.refl [] w).drewN n1) (by simp) (by simp)
      obtain ⟨W1, hW1⟩ : ∃ W1, w.drewN n1 = W1 := ⟨_, rfl⟩
      have mW1 : Mod [b, m] w W1 := by rw [← hW1]; exact (Mod.refl _ _).drewN n1
      rw [hW1] at hb1 ⊢
      clear hW1
      have c4 := hb1.c4
      have c5 := hb1.c5
      have c6 := hb1.c6
      have c7 := hb1.c7
      have f4 := hb1.blk.frozen 4
      have f5 := hb1.blk.frozen 5
      have f6 := hb1.blk.frozen 6
      have hmax : ((max o.far e : Nat) : Int) = max (o.far : Int) e := by omega
      have HB1 := hide hb1
      clear hb1
      go_upto_if 34 with fail
      go_cut [] (fun wx => IBox wx b m (o.came e fin) ∧ Mod [b] W1 wx)
      case first =>
        cases fin
        · have hres : IBox (W1.setCell ⟨b, 4, none⟩ (.int .u64 (max (o.far : Int) e))) b m (o.came e false) ∧ Mod [b] W1 (W1.setCell ⟨b, 4, none⟩ (.int .u64 (max (o.far : Int) e))) := by
            have hmm : Mod [b] W1 (W1.setCell ⟨b, 4, none⟩ (.int .u64 (max (o.far : Int) e))) := (Mod.refl _ W1).setCell (p := ⟨b, 4, none⟩) (.inl (by simp)) _
            refine ⟨HB1.out.remade hmm ?_ rfl HWF.out, hmm⟩
            have := HB1.out.blk.set_ 4 (.int .u64 (max (o.far : Int) e))
            simp only [Ib.came, Bool.or_false, hmax]
            exact this
          have HR := hide hres
          clear hres
          go_wp2_with fail
          go_meet
          exact HR.out
        · have hres : IBox (((W1.setCell ⟨b, 4, none⟩ (.int .u64 (max (o.far : Int) e))).setCell ⟨b, 5, none⟩ (.int .u64 (e : Int))).setCell ⟨b, 6, none⟩ (.bool true)) b m (o.came e true) ∧
              Mod [b] W1 (((W1.setCell ⟨b, 4, none⟩ (.int .u64 (max (o.far : Int) e))).setCell ⟨b, 5, none⟩ (.int .u64 (e : Int))).setCell ⟨b, 6, none⟩ (.bool true)) := by
            have hmm : Mod [b] W1 (((W1.setCell ⟨b, 4, none⟩ (.int .u64 (max (o.far : Int) e))).setCell ⟨b, 5, none⟩ (.int .u64 (e : Int))).setCell ⟨b, 6, none⟩ (.bool true)) :=
              (((Mod.refl _ W1).setCell (p := ⟨b, 4, none⟩) (.inl (by simp)) _).setCell (p := ⟨b, 5, none⟩) (.inl (by simp)) _).setCell (p := ⟨b, 6, none⟩) (.inl (by simp)) _
            refine ⟨HB1.out.remade hmm ?_ rfl HWF.out, hmm⟩
            have := ((HB1.out.blk.set_ 4 (.int .u64 (max (o.far : Int) e))).set_ 5 (.int .u64 (e : Int))).set_ 6 (.bool true)
            simp only [Ib.came, Bool.or_true, if_true, hmax]
            exact this
          have HR := hide hres
          clear hres
          go_wp2_with fail
          go_meet
          exact HR.out
      case rest =>
        obtain ⟨hb2, m2⟩ := hcut
        clear c4 c5 c6 c7 f4 f5 f6 HB1
        have mw : Mod [b, m] w wc := mW1.trans m2 (by simp)
        have c7 := hb2.c7
        have hce : o.came e fin = o.came (a + D.length) fin := by rw [He.out]
        have HCe := hide hce
        clear hce
        cases hr : o.reset
        · rw [show (o.came e fin).reset = o.reset from rfl, hr] at c7
          have hlay := ilay_any wc b m (o.came e fin) hb2 a D (by omega) hD hroom
          rw [HStr.out] at hlay
          have HLay := hide hlay
          have HB2 := hide hb2
          have HR := hide hr
          clear hlay hb2 hr
          go_wp2_with fail
          refine HLay.out.mono ?_
          rintro x w3 ⟨rfl, f', hf', hcv', m3⟩
          have hb3 : Blk w3 b 121 (icells (o.came e fin) m o.ready (over o.B a D)) := by
            have := m3.blk HB2.out.blk (by simpa using HB2.out.ne)
            unfold icells
            rw [run_congr (B := o.B) (fun n h5 h6 => ?_)]
            · exact this
            · obtain ⟨c, hc⟩ := Option.isSome_iff_exists.1 (HH.out.wf.fill n h6)
              rw [hc, over_some hc]
          have hjoin := ijoin_any w3 b m (o.came e fin) (over o.B a D) o.ready f' hb3 hf' hcv' HH.out.wf.tk HB2.out.ne (fun n hn => by
            rcases over_isSome.1 hn with h5 | h5
            · have := HH.out.wf.bound n h5; omega
            · have := HFz.out.1; have := He.out; omega) (by have := HH.out.wf.rd; omega)
          have HJ := hide hjoin
          clear hjoin hb3 hf' hcv'
          go_wp2_with fail
          refine HJ.out.mono ?_
          rintro x w4 ⟨rfl, r, f2, hb4, hf4, hcv4, hr4, hall, hgap, m4⟩
          have hfe : o.fitErr (a + D.length) fin = 0 := by rw [← He.out]; exact HE0.out
          have hwf' := put_wf HH.out.wf hfe HR.out hr4 hall hgap
          have hfin : ∃ o', Put o a D fin o' ∧ IBox w4 b m o' ∧ Mod [b, m] w w4 := by
            refine ⟨{ o.came (a + D.length) fin with ready := r, B := over o.B a D, supp := o.supp ++ List.range' a D.length }, ⟨fun h5 => absurd HErr.out h5, fun _ h5 => ?_, fun _ _ => ⟨rfl, hr4⟩, hwf'⟩, ⟨?_, ⟨f2, hf4, hcv4⟩, HB2.out.ne, hwf'⟩, (mw.trans m3 (by simp)).trans m4 (by simp)⟩
            · rw [HR.out] at h5; cases h5
            · rw [← He.out]
              exact hb4
          have HFin := hide hfin
          clear hfin hwf' hb4 hf4 hcv4 hall hgap
          go_wp2_with fail
          go_ret
          exact ⟨by rw [HErr.out]; rfl, HFin.out⟩
        · rw [show (o.came e fin).reset = o.reset from rfl, hr] at c7
          have hfin : ∃ o', Put o a D fin o' ∧ IBox wc b m o' ∧ Mod [b, m] w wc :=
            ⟨o.came e fin, ⟨fun h5 => absurd HErr.out h5, fun _ _ => HCe.out, fun _ h5 => (by rw [hr] at h5; cases h5), HWF.out⟩, hb2, mw⟩
          have HFin := hide hfin
          clear hfin hb2 hr
          go_wp2_with fail
          go_ret
          exact ⟨by rw [HErr.out]; rfl, HFin.out⟩
    · have hE0' : (E != 0) = true := by simpa using hE0
      have hbad : o.putErr a D.length fin = E := by rw [HE.out, if_neg h1]; exact hE
      have HBad := hide hbad
      clear h hE hbad
      go_enter Tryz.func57, Tryz.ntmps57
      go_wp2_with fail
      refine HFit.out.mono ?_
      rintro x w1 ⟨rfl, n1, rfl⟩
      go_wp2_with fail
      go_ret
      exact ⟨by rw [HBad.out]; rfl, BAD.out (by rw [HBad.out]; exact hE0) n1⟩
end Go.Proofs.YtjdfemfobcjecaaGreat

/-
  streams: what a set holds, with the places of its parts; in memory.
-/
namespace Go.Proofs.YtjdfemfobcjecaaGreat
open Go.RowKit
set_option linter.unusedVariables false
set_option linter.unusedSimpArgs false
def mvar : Nat := 4611686018427387903
def mcnt : Nat := 1152921504606846976
/-- limits -/
structure Lm where
  data : Nat
  bl : Nat
  br : Nat
  un : Nat
  bidis : Nat
  unis : Nat
def Lm.vals (l : Lm) : List Value := [.int .u64 (l.data : Int), .int .u64 (l.bl : Int), .int .u64 (l.br : Int), .int .u64 (l.un : Int), .int .u64 (l.bidis : Int), .int .u64 (l.unis : Int)]
def Lm.val (l : Lm) : Value := .agg #[.int .u64 (l.data : Int), .int .u64 (l.bl : Int), .int .u64 (l.br : Int), .int .u64 (l.un : Int), .int .u64 (l.bidis : Int), .int .u64 (l.unis : Int)]
def Lm.capped (l : Lm) : Lm := ⟨min l.data mvar, min l.bl mvar, min l.br mvar, min l.un mvar, min l.bidis mcnt, min l.unis mcnt⟩
def Lm.more (l m : Lm) : Lm := ⟨max l.data m.data, max l.bl m.bl, max l.br m.br, max l.un m.un, max l.bidis m.bidis, max l.unis m.unis⟩
structure Lm.WF (l : Lm) : Prop where
  data : l.data ≤ mvar
  bl : l.bl ≤ mvar
  br : l.br ≤ mvar
  un : l.un ≤ mvar
  bidis : l.bidis ≤ mcnt
  unis : l.unis ≤ mcnt
theorem Lm.WF.capped (l : Lm) : l.capped.WF := ⟨Nat.min_le_right _ _, Nat.min_le_right _ _, Nat.min_le_right _ _, Nat.min_le_right _ _, Nat.min_le_right _ _, Nat.min_le_right _ _⟩
theorem Lm.WF.more {l m : Lm} (h : l.WF) (k : m.WF) : (l.more m).WF := ⟨Nat.max_le.2 ⟨h.data, k.data⟩, Nat.max_le.2 ⟨h.bl, k.bl⟩, Nat.max_le.2 ⟨h.br, k.br⟩, Nat.max_le.2 ⟨h.un, k.un⟩, Nat.max_le.2 ⟨h.bidis, k.bidis⟩, Nat.max_le.2 ⟨h.unis, k.unis⟩⟩
structure Nd where
  code : Nat
  told : Bool
  must : Bool
/-- a stream: its block, its inbox (two blocks) and its outbox (a block, two rows) -/
structure St where
  xb : Nat
  id : Nat
  inn : Option (Nat × Nat × Ib)
  out : Option (Nat × Value × Value × Ob)
  first : Nat
  raise : Bool
  stop : Nd
  rst : Nd
  final : Nat
def St.inV (x : St) : Value := .pointer (x.inn.map fun p => ⟨p.1, 0, none⟩)
def St.outV (x : St) : Value := .pointer (x.out.map fun p => ⟨p.1, 0, none⟩)
def St.cells (x : St) : Array Value := #[.int .u64 (x.id : Int), x.inV, x.outV, .int .u64 (x.first : Int), .bool x.raise, .int .u64 (x.stop.code : Int), .bool x.stop.told, .bool x.stop.must, .int .u64 (x.rst.code : Int), .bool x.rst.told, .bool x.rst.must, .int .u64 (x.final : Int)]
def St.ifoot (x : St) : List Nat := match x.inn with
  | some p => [p.1, p.2.1]
  | none => []
def St.ofoot (x : St) : List Nat := match x.out with
  | some p => Go.Proofs.YtjdfemfobcjecaaGreat.ofoot p.1 p.2.1 p.2.2.1
  | none => []
def St.foot (x : St) : List Nat := x.xb :: (x.ifoot ++ x.ofoot)
structure St.Box (w : World) (x : St) : Prop where
  blk : Blk w x.xb 83 x.cells
  inn : ∀ b m o, x.inn = some (b, m, o) → IBox w b m o
  out : ∀ b dv sv o, x.out = some (b, dv, sv, o) → OBox w b o dv sv
  xi : x.xb ∉ x.ifoot
  xo : x.xb ∉ x.ofoot
  io : ∀ k ∈ x.ifoot, k ∉ x.ofoot
structure Ss where
  mb : Nat
  side : Nat
  own : Lm
  other : Lm
  l : List St
  o0 : Nat
  o1 : Nat
  o2 : Nat
  o3 : Nat
  limit : Nat
  raise : Bool
  sent : Nat
  read : Nat
def Ss.look (s : Ss) (x : Int) : Option Value := (s.l.find? fun g => decide ((g.id : Int) = x)).map fun g => .pointer (some ⟨g.xb, 0, none⟩)
def Ss.cells (s : Ss) : Array Value := #[.int .u64 (s.side : Int), .int .u64 (s.own.data : Int), .int .u64 (s.own.bl : Int), .int .u64 (s.own.br : Int), .int .u64 (s.own.un : Int), .int .u64 (s.own.bidis : Int), .int .u64 (s.own.unis : Int),
  .int .u64 (s.other.data : Int), .int .u64 (s.other.bl : Int), .int .u64 (s.other.br : Int), .int .u64 (s.other.un : Int), .int .u64 (s.other.bidis : Int), .int .u64 (s.other.unis : Int),
  .map (some s.mb), .int .u64 (s.o0 : Int), .int .u64 (s.o1 : Int), .int .u64 (s.o2 : Int), .int .u64 (s.o3 : Int), .int .u64 (s.limit : Int), .bool s.raise, .int .u64 (s.sent : Int), .int .u64 (s.read : Int)]
def Ss.op (s : Ss) (k : Nat) : Nat := if k = 0 then s.o0 else if k = 1 then s.o1 else if k = 2 then s.o2 else s.o3
def St.top (x : St) : Nat := match x.inn with
  | some p => p.2.2.top
  | none => 0
def St.taken (x : St) : Nat := match x.inn with
  | some p => p.2.2.taken
  | none => 0
def St.sent (x : St) : Nat := match x.out with
  | some p => p.2.2.2.sent
  | none => 0
def St.supp (x : St) : Nat := match x.inn with
  | some p => p.2.2.supp.length
  | none => 0
def Ss.came (s : Ss) : Nat := (s.l.map St.top).sum
def Ss.takes (s : Ss) (id : Nat) : Bool := id % 4 / 2 == 0 || id % 2 != s.side
def Ss.sends (s : Ss) (id : Nat) : Bool := id % 4 / 2 == 0 || id % 2 == s.side
/-- what a set is at any time -/
structure Ss.WF (s : Ss) : Prop where
  side : s.side ≤ 1
  own : s.own.WF
  other : s.other.WF
  ids : (s.l.map St.id).Nodup
  low : ∀ x ∈ s.l, x.id / 4 < s.op (x.id % 4)
  have_ : ∀ k j, k < 4 → j < s.op k → ∃ x ∈ s.l, x.id = 4 * j + k
  inn : ∀ x ∈ s.l, x.inn.isSome = s.takes x.id
  out : ∀ x ∈ s.l, x.out.isSome = s.sends x.id
  len : s.l.length ≤ 100
  cnt : s.l.length = s.o0 + s.o1 + s.o2 + s.o3
  lim : s.limit ≤ mvar
  came : s.came ≤ s.limit
  sent : s.sent = (s.l.map St.sent).sum
  sentl : s.sent ≤ s.other.data
  read : s.read = (s.l.map St.taken).sum
  vals : ∀ x ∈ s.l, x.id ≤ mvar ∧ x.first ≤ mvar ∧ x.stop.code ≤ mvar ∧ x.rst.code ≤ 18446744073709551615 ∧ x.final ≤ 65536
  rais : ∀ x ∈ s.l, x.raise = true → x.inn.isSome = true
structure SBox (w : World) (sb : Nat) (s : Ss) : Prop where
  blk : Blk w sb 69 s.cells
  map : IMap w s.mb .u64 s.look
  all : ∀ x ∈ s.l, x.Box w
  dis : ∀ x ∈ s.l, ∀ y ∈ s.l, x.id ≠ y.id → ∀ k ∈ x.foot, k ∉ y.foot
  sm : sb ≠ s.mb ∧ ∀ x ∈ s.l, sb ∉ x.foot ∧ s.mb ∉ x.foot
  lt : ∀ x ∈ s.l, ∀ k ∈ x.foot, k < w.heap.size
def Ss.foot (s : Ss) (sb : Nat) : List Nat := sb :: s.mb :: s.l.flatMap St.foot
def SStep (w : World) (sb : Nat) (s s' : Ss) (w' : World) : Prop := SBox w' sb s' ∧ Mod (s.foot sb) w w' ∧ ∀ k ∈ s'.foot sb, k ∈ s.foot sb ∨ w.heap.size ≤ k
/-- one stream turned -/
def Ss.put (s : Ss) (x' : St) : Ss := { s with l := s.l.map fun y => if y.id = x'.id then x' else y }
section
variable {w w' : World} {sb : Nat} {s : Ss} {x x' : St}
theorem Ss.mem_foot {k : Nat} : k ∈ s.foot sb ↔ k = sb ∨ k = s.mb ∨ ∃ x ∈ s.l, k ∈ x.foot := by
  unfold Ss.foot
  rw [List.mem_cons, List.mem_cons, List.mem_flatMap]
theorem St.Box.mod {F : List Nat} (h : x.Box w) (m : Mod F w w') (hF : ∀ k ∈ x.foot, k ∉ F) : x.Box w' := by
  refine ⟨m.blk h.blk (hF _ (by simp [St.foot])), fun b mm o e => (h.inn b mm o e).mod m (hF b ?_) (hF mm ?_), fun b dv sv o e => (h.out b dv sv o e).mod m (fun k hk => hF k ?_), h.xi, h.xo, h.io⟩
  · simp [St.foot, St.ifoot, e]
  · simp [St.foot, St.ifoot, e]
  · simp only [St.foot, St.ofoot, e, List.mem_cons, List.mem_append]; exact .inr (.inr hk)
theorem SBox.mod {F : List Nat} (h : SBox w sb s) (m : Mod F w w') (hF : ∀ k ∈ s.foot sb, k ∉ F) : SBox w' sb s :=
  ⟨m.blk h.blk (hF _ (Ss.mem_foot.2 (.inl rfl))), h.map.mod m (hF _ (Ss.mem_foot.2 (.inr (.inl rfl)))), fun x hx => (h.all x hx).mod m (fun k hk => hF k (Ss.mem_foot.2 (.inr (.inr ⟨x, hx, hk⟩)))), h.dis, h.sm, fun x hx k hk => Nat.lt_of_lt_of_le (h.lt x hx k hk) m.size⟩
theorem SBox.new (h : SBox w sb s) (m : Mod [] w w') : SBox w' sb s := h.mod m (by simp)
theorem SStep.refl (h : SBox w sb s) (m : Mod [] w w') : SStep w sb s s w' := ⟨h.new m, m.mono (by simp), fun _ hk => .inl hk⟩
theorem SStep.trans {w'' : World} {s' s'' : Ss} (h : SStep w sb s s' w') (k : SStep w' sb s' s'' w'') : SStep w sb s s'' w'' := by
  refine ⟨k.1, h.2.1.trans k.2.1 (fun x hx => h.2.2 x hx), fun y hy => ?_⟩
  rcases k.2.2 y hy with h1 | h1
  · exact h.2.2 y h1
  · exact .inr (Nat.le_trans h.2.1.size h1)
theorem Ss.look_put (hxb : ∀ y ∈ s.l, y.id = x'.id → y.xb = x'.xb) : (s.put x').look = s.look := by
  funext z
  unfold Ss.look Ss.put
  simp only
  suffices ∀ l : List St, (∀ y ∈ l, y.id = x'.id → y.xb = x'.xb) → ((l.map fun y => if y.id = x'.id then x' else y).find? fun g => decide ((g.id : Int) = z)).map (fun g => (Value.pointer (some ⟨g.xb, 0, none⟩) : Value)) = (l.find? fun g => decide ((g.id : Int) = z)).map fun g => .pointer (some ⟨g.xb, 0, none⟩) from this s.l hxb
  intro l
  induction l with
  | nil => intro _; rfl
  | cons y l ih =>
    intro hy
    rw [List.map_cons, List.find?_cons, List.find?_cons]
    by_cases e : y.id = x'.id
    · rw [if_pos e, e]
      cases decide ((x'.id : Int) = z) with
      | true => simp [hy y (by simp) e]
      | false => exact ih (fun q hq => hy q (by simp [hq]))
    · rw [if_neg e]
      cases decide ((y.id : Int) = z) with
      | true => rfl
      | false => exact ih (fun q hq => hy q (by simp [hq]))
theorem Ss.mem_put {y : St} (h : y ∈ (s.put x').l) : y = x' ∨ (y ∈ s.l ∧ y.id ≠ x'.id) := by
  unfold Ss.put at h
  simp only [List.mem_map] at h
  obtain ⟨z, hz, e⟩ := h
  split at e
  · exact .inl e.symm
  · subst e; exact .inr ⟨hz, by assumption⟩
theorem ids_inj {l : List St} (h : (l.map St.id).Nodup) {x y : St} (hx : x ∈ l) (hy : y ∈ l) (e : x.id = y.id) : x = y := by
  induction l with
  | nil => cases hx
  | cons z l ih =>
    rw [List.map_cons, List.nodup_cons] at h
    rcases List.mem_cons.1 hx with hx1 | hx1
    · rcases List.mem_cons.1 hy with hy1 | hy1
      · rw [hx1, hy1]
      · exact absurd (List.mem_map.2 ⟨y, hy1, by rw [← e, hx1]⟩) h.1
    · rcases List.mem_cons.1 hy with hy1 | hy1
      · exact absurd (List.mem_map.2 ⟨x, hx1, by rw [e, hy1]⟩) h.1
      · exact ih h.2 hx1 hy1
/-- one stream turned, of which the other parts know nothing -/
theorem SBox.upd {F : List Nat} (h : SBox w sb s) (hn : (s.l.map St.id).Nodup) (hx : x ∈ s.l) (m : Mod F w w') (hF : ∀ k ∈ F, k ∈ x.foot) (hb : x'.Box w') (hid : x'.id = x.id) (hxb : x'.xb = x.xb) (hft : ∀ k ∈ x'.foot, k ∈ x.foot ∨ w.heap.size ≤ k) (hlt : ∀ k ∈ x'.foot, k < w'.heap.size) : SStep w sb s (s.put x') w' := by
  have hsb : sb ∉ F := fun hm => (h.sm.2 x hx).1 (hF _ hm)
  have hmb : s.mb ∉ F := fun hm => (h.sm.2 x hx).2 (hF _ hm)
  have hsl : sb < w.heap.size := h.blk.lt
  have hml : s.mb < w.heap.size := h.map.lt
  have hoth : ∀ y ∈ s.l, y.id ≠ x'.id → ∀ k ∈ y.foot, k ∉ F := fun y hy hne k hk hm => h.dis y hy x hx (by rw [← hid]; exact hne) k hk (hF _ hm)
  refine ⟨⟨m.blk h.blk hsb, ?_, fun y hy => ?_, fun y hy z hz hne k hk hkz => ?_, ⟨h.sm.1, fun y hy => ?_⟩, fun y hy k hk => ?_⟩, m.mono (fun k hk => .inl (Ss.mem_foot.2 (.inr (.inr ⟨x, hx, hF k hk⟩)))), fun k hk => ?_⟩
  · rw [Ss.look_put (fun y hy e => by rw [hxb, ids_inj hn hy hx (by rw [e, hid])])]
    exact h.map.mod m hmb
  · rcases Ss.mem_put hy with rfl | ⟨hy, hne⟩
    · exact hb
    · exact (h.all y hy).mod m (hoth y hy hne)
  · rcases Ss.mem_put hy with hy1 | ⟨hy1, hy2⟩
    · rcases Ss.mem_put hz with hz1 | ⟨hz1, hz2⟩
      · exact hne (by rw [hy1, hz1])
      · rw [hy1] at hk hne
        rcases hft k hk with h1 | h1
        · exact h.dis x hx z hz1 (by rw [← hid]; exact hne) k h1 hkz
        · have := h.lt z hz1 k hkz; omega
    · rcases Ss.mem_put hz with hz1 | ⟨hz1, hz2⟩
      · rw [hz1] at hkz hne
        rcases hft k hkz with h1 | h1
        · exact h.dis y hy1 x hx (by rw [← hid]; exact hne) k hk h1
        · have := h.lt y hy1 k hk; omega
      · exact h.dis y hy1 z hz1 hne k hk hkz
  · rcases Ss.mem_put hy with rfl | ⟨hy, hne⟩
    · refine ⟨fun hm => ?_, fun hm => ?_⟩
      · rcases hft _ hm with h1 | h1
        · exact (h.sm.2 x hx).1 h1
        · omega
      · rcases hft _ hm with h1 | h1
        · exact (h.sm.2 x hx).2 h1
        · have : (s.put y).mb = s.mb := rfl
          omega
    · exact h.sm.2 y hy
  · rcases Ss.mem_put hy with rfl | ⟨hy, hne⟩
    · exact hlt k hk
    · exact Nat.lt_of_lt_of_le (h.lt y hy k hk) m.size
  · rcases Ss.mem_foot.1 hk with rfl | rfl | ⟨y, hy, hky⟩
    · exact .inl (Ss.mem_foot.2 (.inl rfl))
    · exact .inl (Ss.mem_foot.2 (.inr (.inl rfl)))
    · rcases Ss.mem_put hy with rfl | ⟨hy, hne⟩
      · rcases hft k hky with h1 | h1
        · exact .inl (Ss.mem_foot.2 (.inr (.inr ⟨x, hx, h1⟩)))
        · exact .inr h1
      · exact .inl (Ss.mem_foot.2 (.inr (.inr ⟨y, hy, hky⟩)))
theorem Ss.look_some {id : Nat} {v : Value} (h : s.look (id : Int) = some v) : ∃ x ∈ s.l, x.id = id ∧ v = .pointer (some ⟨x.xb, 0, none⟩) := by
  unfold Ss.look at h
  rw [Option.map_eq_some_iff] at h
  obtain ⟨x, hx, rfl⟩ := h
  refine ⟨x, List.mem_of_find?_eq_some hx, ?_, rfl⟩
  have := List.find?_some hx
  simp only [decide_eq_true_eq] at this
  omega
theorem Ss.look_none {id : Nat} (h : s.look (id : Int) = none) : ∀ x ∈ s.l, x.id ≠ id := by
  intro x hx e
  unfold Ss.look at h
  rw [Option.map_eq_none_iff, List.find?_eq_none] at h
  have := h x hx
  simp only [decide_eq_true_eq] at this
  omega
end
end Go.Proofs.YtjdfemfobcjecaaGreat

/-
  streams: limits, kinds.
-/
namespace Go.Proofs.YtjdfemfobcjecaaGreat
open Go.RowKit
set_option linter.unusedVariables false
set_option linter.unusedSimpArgs false
theorem and1 (n : Nat) (h : n ≤ 18446744073709551615) : bits .and .u64 (n : Int) 1 = ((n % 2 : Nat) : Int) := by
  have := bits_and_u64_nat n 1 (by omega) (by omega)
  rw [Nat.and_one_is_mod] at this
  exact this
theorem and2 (n : Nat) (h : n ≤ 18446744073709551615) : bits .and .u64 (n : Int) 2 = ((n % 4 / 2 * 2 : Nat) : Int) := by
  have h1 := bits_and_u64_nat n 2 (by omega) (by omega)
  have h2 : n &&& 2 = n % 4 / 2 * 2 := by
    have : n &&& 2 = (n % 4) &&& 2 := by
      rw [show n % 4 = n &&& 3 from (Nat.and_two_pow_sub_one_eq_mod n 2).symm, Nat.and_assoc]; rfl
    rw [this]
    have key : ∀ k : Fin 4, (k.val &&& 2) = k.val / 2 * 2 := by decide
    exact key ⟨n % 4, Nat.mod_lt _ (by omega)⟩
  rw [h2] at h1
  exact h1
/-- how many of a kind may be -/
def Lm.count (l : Lm) (id : Nat) : Nat := if id % 4 / 2 = 0 then l.bidis else l.unis
set_option maxHeartbeats 2000000 in
theorem stcount_any (w : World) (l : Lm) (id : Nat) (hid : id ≤ 18446744073709551615) :
    Calls Tryz.prog 35 #[l.val, .int .u64 (id : Int)] w fun e w' => e = .returned (.int .u64 (l.count id : Int)) ∧ Mod [] w w' := by
  have a1 := and2 id hid
  have HM := hide ((Mod.refl [] w).alloc (.cells #[.int .u64 (l.data : Int), .int .u64 (l.bl : Int), .int .u64 (l.br : Int), .int .u64 (l.un : Int), .int .u64 (l.bidis : Int), .int .u64 (l.unis : Int)] 24))
  obtain ⟨q, hq⟩ : ∃ q, id % 4 / 2 = q := ⟨_, rfl⟩
  have HC : Hid (l.count id = if q = 0 then l.bidis else l.unis) := hide (by unfold Lm.count; rw [hq])
  rw [hq] at a1
  have hq2 : q ≤ 1 := by omega
  clear hq
  unfold Lm.val
  rcases Nat.eq_zero_or_pos q with h | h
  · subst h
    go_enter Tryz.func35, Tryz.ntmps35
    go_wp2_with fail
    go_ret
    exact ⟨by rw [HC.out]; rfl, HM.out⟩
  · obtain rfl : q = 1 := by omega
    go_enter Tryz.func35, Tryz.ntmps35
    go_wp2_with fail
    go_ret
    exact ⟨by rw [HC.out]; rfl, HM.out⟩
def Ss.mine (s : Ss) (id : Nat) : Bool := id % 2 == s.side
set_option maxHeartbeats 2000000 in
theorem stmine_any (w : World) (sb : Nat) (s : Ss) (h : SBox w sb s) (id : Nat) (hid : id ≤ 18446744073709551615) :
    Calls Tryz.prog 58 #[.pointer (some ⟨sb, 0, none⟩), .int .u64 (id : Int)] w fun e w' => e = .returned (.bool (s.mine id)) ∧ w' = w := by
  have a1 := and1 id hid
  have s0 : w.cell? ⟨sb, 0, none⟩ = some (.int .u64 (s.side : Int)) := h.blk.cell 0
  have HB : Hid ((((id % 2 : Nat) : Int) == (s.side : Int)) = s.mine id) := hide (by unfold Ss.mine; rw [Bool.eq_iff_iff]; simp; omega)
  obtain ⟨q, hq⟩ : ∃ q, id % 2 = q := ⟨_, rfl⟩
  rw [hq] at a1 HB
  clear h hq
  go_enter Tryz.func58, Tryz.ntmps58
  go_wp2_with fail
  go_ret
  exact ⟨by first | rw [← HB.out]; rfl | (rw [← HB.out]; congr 2), rfl⟩
set_option maxHeartbeats 2000000 in
theorem stsends_any (w : World) (sb : Nat) (s : Ss) (h : SBox w sb s) (id : Nat) (hid : id ≤ 18446744073709551615) (b : Bool) (hb : s.sends id = b) :
    Calls Tryz.prog 30 #[.pointer (some ⟨sb, 0, none⟩), .int .u64 (id : Int)] w fun e w' => e = .returned (.bool b) ∧ w' = w := by
  have a1 := and2 id hid
  have HMi := hide (stmine_any w sb s h id hid)
  obtain ⟨q, hq⟩ : ∃ q, id % 4 / 2 = q := ⟨_, rfl⟩
  have HB : Hid (b = ((q == 0) || (s.mine id))) := hide (by rw [← hb, ← hq]; unfold Ss.sends Ss.mine; rfl)
  rw [hq] at a1
  have hq2 : q ≤ 1 := by omega
  obtain ⟨mi, hmi⟩ : ∃ mi, s.mine id = mi := ⟨_, rfl⟩
  rw [hmi] at HMi HB
  clear hq h hb hmi
  rcases Nat.eq_zero_or_pos q with h | h
  · subst h
    go_enter Tryz.func30, Tryz.ntmps30
    go_wp2_with fail
    go_ret
    exact ⟨by rw [HB.out]; rfl, rfl⟩
  · obtain rfl : q = 1 := by omega
    go_enter Tryz.func30, Tryz.ntmps30
    go_wp2_with fail
    refine HMi.out.mono ?_
    rintro e w2 ⟨rfl, rfl⟩
    go_wp2_with fail
    go_ret
    exact ⟨by rw [HB.out]; rfl, rfl⟩
set_option maxHeartbeats 2000000 in
theorem sttakes_any (w : World) (sb : Nat) (s : Ss) (h : SBox w sb s) (id : Nat) (hid : id ≤ 18446744073709551615) (b : Bool) (hb : s.takes id = b) :
    Calls Tryz.prog 33 #[.pointer (some ⟨sb, 0, none⟩), .int .u64 (id : Int)] w fun e w' => e = .returned (.bool b) ∧ w' = w := by
  have a1 := and2 id hid
  have HMi := hide (stmine_any w sb s h id hid)
  obtain ⟨q, hq⟩ : ∃ q, id % 4 / 2 = q := ⟨_, rfl⟩
  have HB : Hid (b = ((q == 0) || !(s.mine id))) := hide (by rw [← hb, ← hq]; unfold Ss.takes Ss.mine; cases id % 4 / 2 == 0 <;> simp [bne])
  rw [hq] at a1
  have hq2 : q ≤ 1 := by omega
  obtain ⟨mi, hmi⟩ : ∃ mi, s.mine id = mi := ⟨_, rfl⟩
  rw [hmi] at HMi HB
  clear hq h hb hmi
  rcases Nat.eq_zero_or_pos q with h | h
  · subst h
    go_enter Tryz.func33, Tryz.ntmps33
    go_wp2_with fail
    go_ret
    exact ⟨by rw [HB.out]; rfl, rfl⟩
  · obtain rfl : q = 1 := by omega
    go_enter Tryz.func33, Tryz.ntmps33
    go_wp2_with fail
    refine HMi.out.mono ?_
    rintro e w2 ⟨rfl, rfl⟩
    go_wp2_with fail
    go_ret
    exact ⟨by rw [HB.out]; rfl, rfl⟩
def Ss.wayIn (s : Ss) (id : Nat) : Nat := if id % 4 / 2 ≠ 0 then s.own.un else if s.mine id then s.own.bl else s.own.br
def Ss.wayOut (s : Ss) (id : Nat) : Nat := if id % 4 / 2 ≠ 0 then s.other.un else if s.mine id then s.other.br else s.other.bl
set_option maxHeartbeats 4000000 in
theorem stway_any (w : World) (sb : Nat) (s : Ss) (h : SBox w sb s) (id : Nat) (hid : id ≤ 18446744073709551615) :
    Calls Tryz.prog 61 #[.pointer (some ⟨sb, 0, none⟩), .int .u64 (id : Int)] w fun e w' => e = .returned (.tuple #[.int .u64 (s.wayIn id : Int), .int .u64 (s.wayOut id : Int)]) ∧ ∃ n, w' = w.drewN n := by
  have a1 := and2 id hid
  have HMi := hide (stmine_any w sb s h id hid)
  obtain ⟨q, hq⟩ : ∃ q, id % 4 / 2 = q := ⟨_, rfl⟩
  obtain ⟨mi, hmi⟩ : ∃ mi, s.mine id = mi := ⟨_, rfl⟩
  have HI : Hid (s.wayIn id = if q ≠ 0 then s.own.un else if mi then s.own.bl else s.own.br) := hide (by unfold Ss.wayIn; rw [hq, hmi])
  have HO : Hid (s.wayOut id = if q ≠ 0 then s.other.un else if mi then s.other.br else s.other.bl) := hide (by unfold Ss.wayOut; rw [hq, hmi])
  rw [hq] at a1
  rw [hmi] at HMi
  have hq2 : q ≤ 1 := by omega
  have s2 : w.cell? ⟨sb, 2, none⟩ = some (.int .u64 (s.own.bl : Int)) := h.blk.cell 2
  have s3 : w.cell? ⟨sb, 3, none⟩ = some (.int .u64 (s.own.br : Int)) := h.blk.cell 3
  have s4 : w.cell? ⟨sb, 4, none⟩ = some (.int .u64 (s.own.un : Int)) := h.blk.cell 4
  have s8 : w.cell? ⟨sb, 8, none⟩ = some (.int .u64 (s.other.bl : Int)) := h.blk.cell 8
  have s9 : w.cell? ⟨sb, 9, none⟩ = some (.int .u64 (s.other.br : Int)) := h.blk.cell 9
  have s10 : w.cell? ⟨sb, 10, none⟩ = some (.int .u64 (s.other.un : Int)) := h.blk.cell 10
  clear hq hmi h
  rcases Nat.eq_zero_or_pos q with h | h
  · subst h
    go_enter Tryz.func61, Tryz.ntmps61
    go_wp2_with fail
    refine HMi.out.mono ?_
    rintro e w2 ⟨rfl, rfl⟩
    cases mi with
    | true =>
      go_wp2_with fail
      go_quiet (fail)
      go_wp2_with fail
      go_ret2
      exact ⟨by rw [HI.out, HO.out]; rfl, _, rfl⟩
    | false =>
      go_wp2_with fail
      go_quiet (fail)
      go_wp2_with fail
      go_ret2
      exact ⟨by rw [HI.out, HO.out]; rfl, _, rfl⟩
  · obtain rfl : q = 1 := by omega
    go_enter Tryz.func61, Tryz.ntmps61
    go_wp2_with fail
    go_quiet (fail)
    go_wp2_with fail
    go_ret2
    exact ⟨by rw [HI.out, HO.out]; rfl, _, rfl⟩
set_option maxRecDepth 100000 in
set_option maxHeartbeats 4000000 in
theorem stmore_any (w : World) (l m : Lm) :
    Calls Tryz.prog 60 #[l.val, m.val] w fun e w' => e = .returned (l.more m).val ∧ Mod [] w w' := by
  have m0 : max (l.data : Int) (m.data : Int) = ((max l.data m.data : Nat) : Int) := by omega
  have m1 : max (l.bl : Int) (m.bl : Int) = ((max l.bl m.bl : Nat) : Int) := by omega
  have m2 : max (l.br : Int) (m.br : Int) = ((max l.br m.br : Nat) : Int) := by omega
  have m3 : max (l.un : Int) (m.un : Int) = ((max l.un m.un : Nat) : Int) := by omega
  have m4 : max (l.bidis : Int) (m.bidis : Int) = ((max l.bidis m.bidis : Nat) : Int) := by omega
  have m5 : max (l.unis : Int) (m.unis : Int) = ((max l.unis m.unis : Nat) : Int) := by omega
  have HM := hide ((((Mod.refl [] w).alloc (.cells #[.int .u64 (l.data : Int), .int .u64 (l.bl : Int), .int .u64 (l.br : Int), .int .u64 (l.un : Int), .int .u64 (l.bidis : Int), .int .u64 (l.unis : Int)] 24)).alloc (.cells #[.int .u64 (m.data : Int), .int .u64 (m.bl : Int), .int .u64 (m.br : Int), .int .u64 (m.un : Int), .int .u64 (m.bidis : Int), .int .u64 (m.unis : Int)] 24)).alloc (.cells #[.int .u64 (0 : Int), .int .u64 (0 : Int), .int .u64 (0 : Int), .int .u64 (0 : Int), .int .u64 (0 : Int), .int .u64 (0 : Int)] 24))
  unfold Lm.val
  go_enter Tryz.func60, Tryz.ntmps60
  go_wp2_with fail
  refine bodyPost_ret (results_cell_row rfl _ _ (w.heap.size + 2) 24 (#[.int .u64 ((max l.data m.data : Nat) : Int), .int .u64 ((max l.bl m.bl : Nat) : Int), .int .u64 ((max l.br m.br : Nat) : Int), .int .u64 ((max l.un m.un : Nat) : Int), .int .u64 ((max l.bidis m.bidis : Nat) : Int), .int .u64 ((max l.unis m.unis : Nat) : Int)]) (0, 0) _ rfl ?_ Tryz.underlying24 rfl (by kernel_rfl)) rfl ?_
  · have := Blk.new ((w.alloc (.cells #[.int .u64 (l.data : Int), .int .u64 (l.bl : Int), .int .u64 (l.br : Int), .int .u64 (l.un : Int), .int .u64 (l.bidis : Int), .int .u64 (l.unis : Int)] 24)).alloc (.cells #[.int .u64 (m.data : Int), .int .u64 (m.bl : Int), .int .u64 (m.br : Int), .int .u64 (m.un : Int), .int .u64 (m.bidis : Int), .int .u64 (m.unis : Int)] 24)) 24 (#[.int .u64 ((max l.data m.data : Nat) : Int), .int .u64 ((max l.bl m.bl : Nat) : Int), .int .u64 ((max l.br m.br : Nat) : Int), .int .u64 ((max l.un m.un : Nat) : Int), .int .u64 ((max l.bidis m.bidis : Nat) : Int), .int .u64 ((max l.unis m.unis : Nat) : Int)])
    rwa [World.size_alloc, World.size_alloc] at this
  · exact ⟨rfl, (((Mod.refl [] w).alloc _).alloc _).alloc _⟩
end Go.Proofs.YtjdfemfobcjecaaGreat
