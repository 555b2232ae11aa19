/-
  inbox: what an inbox is in memory; what only reads; Raise, New, Read, Reset.
-/
import Derived.Test.YtfbcbddfmiiilaaIb
namespace Go.Proofs.Ytfbcbddfmiiilaa
open Go.RowKit

/-- what the parts hold -/
def Ib.rest (o : Ib) : Nat → Option UInt8 := fun n => if o.ready ≤ n then o.B n else none
structure IBox (w : World) (b m : Nat) (o : Ib) : Prop where
  blk : Blk w b 51 #[.int .u64 (o.limit : Int), .int .u64 (o.taken : Int), str (run o.B o.taken o.ready), .map (some m), .int .u64 (o.far : Int), .int .u64 (o.final : Int), .bool o.known, .bool o.reset]
  map : ∃ f, IMap w m .u64 f ∧ Cov f o.rest
  ne : b ≠ m
  wf : o.WF

def IStep (w : World) (b m : Nat) (o' : Ib) (w' : World) : Prop := ∃ m', IBox w' b m' o' ∧ Mod [b, m] w w' ∧ (m' = m ∨ w.heap.size ≤ m')

section
variable {w w' : World} {b m : Nat} {o : Ib}
theorem IBox.mod {F : List Nat} (h : IBox w b m o) (hm : Mod F w w') (h1 : b ∉ F) (h2 : m ∉ F) : IBox w' b m o := by
  obtain ⟨f, hf, hc⟩ := h.map
  exact ⟨hm.blk h.blk h1, ⟨f, hf.mod hm h2, hc⟩, h.ne, h.wf⟩
theorem IBox.mlt (h : IBox w b m o) : m < w.heap.size := by
  obtain ⟨f, hf, hc⟩ := h.map
  exact hf.lt
theorem IBox.c0 (h : IBox w b m o) : w.cell? ⟨b, 0, none⟩ = some (.int .u64 (o.limit : Int)) := h.blk.cell 0
theorem IBox.c1 (h : IBox w b m o) : w.cell? ⟨b, 1, none⟩ = some (.int .u64 (o.taken : Int)) := h.blk.cell 1
theorem IBox.c2 (h : IBox w b m o) : w.cell? ⟨b, 2, none⟩ = some (.string ⟨(run o.B o.taken o.ready).toArray⟩) := h.blk.cell 2
theorem IBox.c3 (h : IBox w b m o) : w.cell? ⟨b, 3, none⟩ = some (.map (some m)) := h.blk.cell 3
theorem IBox.c4 (h : IBox w b m o) : w.cell? ⟨b, 4, none⟩ = some (.int .u64 (o.far : Int)) := h.blk.cell 4
theorem IBox.c5 (h : IBox w b m o) : w.cell? ⟨b, 5, none⟩ = some (.int .u64 (o.final : Int)) := h.blk.cell 5
theorem IBox.c6 (h : IBox w b m o) : w.cell? ⟨b, 6, none⟩ = some (.bool o.known) := h.blk.cell 6
theorem IBox.c7 (h : IBox w b m o) : w.cell? ⟨b, 7, none⟩ = some (.bool o.reset) := h.blk.cell 7
theorem IStep.of_drew (h : IBox w b m o) (n : Nat) : IStep w b m o (w.drewN n) := ⟨m, h.mod ((Mod.refl [] w).drewN n) (by simp) (by simp), (Mod.refl _ _).drewN n, .inl rfl⟩
end

def Ib.top (o : Ib) : Nat := if o.known then o.final else o.far
def Ib.done (o : Ib) : Bool := o.known && (o.taken == o.final)
def Ib.over (o : Ib) : Bool := o.reset || o.done
def Ib.raise (o : Ib) (l : Nat) : Ib := { o with limit := max o.limit (min l 4611686018427387903) }
def Ib.fresh (l : Nat) : Ib := ⟨min l 4611686018427387903, 0, 0, 0, 0, false, false, fun _ => none, []⟩

theorem Ib.WF.final_le {o : Ib} (h : o.WF) : o.final ≤ 4611686018427387903 := by
  cases hk : o.known
  · rw [h.fin0 hk]; omega
  · have := h.fin hk; have := h.lim; omega
theorem Ib.WF.raise {o : Ib} (h : o.WF) (l : Nat) : (o.raise l).WF := by
  have := h.lim
  have := h.top
  exact ⟨by simp only [Ib.raise]; omega, h.tk, h.fill, h.gap, h.bound, by simp only [Ib.raise]; omega, fun hk => by have := h.fin hk; simp only [Ib.raise]; omega, h.fin0, h.supp, h.cut⟩
theorem Ib.WF.fresh (l : Nat) : (Ib.fresh l).WF :=
  ⟨by simp only [Ib.fresh]; omega, by simp [Ib.fresh], by simp [Ib.fresh], by simp [Ib.fresh], by simp [Ib.fresh], by simp [Ib.fresh], by simp [Ib.fresh], by simp [Ib.fresh], by simp [Ib.fresh], by simp [Ib.fresh]⟩

set_option maxHeartbeats 400000 in
theorem ilimit_any (w : World) (b m : Nat) (o : Ib) (h : IBox w b m o) :
    Calls Try.prog 21 #[.pointer (some ⟨b, 0, none⟩)] w fun e w' => e = .returned (.int .u64 (o.limit : Nat)) ∧ ∃ n, w' = w.drewN n := by
  have c0 := h.c0
  go_enter Try.func21, Try.ntmps21
  go_wp2
  go_ret
  exact ⟨rfl, 0, rfl⟩
set_option maxHeartbeats 400000 in
theorem itaken_any (w : World) (b m : Nat) (o : Ib) (h : IBox w b m o) :
    Calls Try.prog 13 #[.pointer (some ⟨b, 0, none⟩)] w fun e w' => e = .returned (.int .u64 (o.taken : Nat)) ∧ ∃ n, w' = w.drewN n := by
  have c1 := h.c1
  go_enter Try.func13, Try.ntmps13
  go_wp2
  go_ret
  exact ⟨rfl, 0, rfl⟩
set_option maxHeartbeats 400000 in
theorem iready_any (w : World) (b m : Nat) (o : Ib) (h : IBox w b m o) :
    Calls Try.prog 18 #[.pointer (some ⟨b, 0, none⟩)] w fun e w' => e = .returned (.int .i64 ((o.ready - o.taken : Nat) : Int)) ∧ ∃ n, w' = w.drewN n := by
  have c2 := h.c2
  have hl := run_length o.B o.taken o.ready
  obtain ⟨S, hS⟩ : ∃ S, S = run o.B o.taken o.ready := ⟨_, rfl⟩
  rw [← hS] at c2 hl
  have Hl := hide hl
  clear hS hl
  go_enter Try.func18, Try.ntmps18
  go_wp2
  go_ret
  exact ⟨by rw [← Hl.out]; rfl, 0, rfl⟩
set_option maxHeartbeats 400000 in
theorem itop_any (w : World) (b m : Nat) (o : Ib) (h : IBox w b m o) :
    Calls Try.prog 15 #[.pointer (some ⟨b, 0, none⟩)] w fun e w' => e = .returned (.int .u64 (o.top : Nat)) ∧ ∃ n, w' = w.drewN n := by
  have c4 := h.c4
  have c5 := h.c5
  have c6 := h.c6
  have HT : Hid (o.top = if o.known then o.final else o.far) := hide rfl
  cases hk : o.known
  · rw [hk] at c6 HT
    have Hk := hide hk
    clear hk
    go_enter Try.func15, Try.ntmps15
    go_wp2
    go_ret
    exact ⟨by rw [HT.out]; rfl, 0, rfl⟩
  · rw [hk] at c6 HT
    have Hk := hide hk
    clear hk
    go_enter Try.func15, Try.ntmps15
    go_wp2
    go_ret
    exact ⟨by rw [HT.out]; rfl, 0, rfl⟩
set_option maxHeartbeats 400000 in
theorem ifinal_any (w : World) (b m : Nat) (o : Ib) (h : IBox w b m o) :
    Calls Try.prog 17 #[.pointer (some ⟨b, 0, none⟩)] w fun e w' => e = .returned (.tuple #[.int .u64 (o.final : Nat), .bool o.known]) ∧ ∃ n, w' = w.drewN n := by
  have c5 := h.c5
  have c6 := h.c6
  go_enter Try.func17, Try.ntmps17
  go_wp2
  go_quiet (fail)
  go_wp2
  go_ret2
  exact ⟨rfl, _, rfl⟩
set_option maxHeartbeats 400000 in
theorem idone_any (w : World) (b m : Nat) (o : Ib) (h : IBox w b m o) :
    Calls Try.prog 26 #[.pointer (some ⟨b, 0, none⟩)] w fun e w' => e = .returned (.bool o.done) ∧ ∃ n, w' = w.drewN n := by
  have c1 := h.c1
  have c5 := h.c5
  have c6 := h.c6
  have HD : Hid (o.done = (o.known && (o.taken == o.final))) := hide rfl
  cases hk : o.known
  · rw [hk] at c6 HD
    clear hk
    go_enter Try.func26, Try.ntmps26
    go_wp2
    go_quiet (fail)
    go_wp2
    go_ret
    exact ⟨by rw [HD.out]; rfl, _, rfl⟩
  · rw [hk] at c6 HD
    clear hk
    go_enter Try.func26, Try.ntmps26
    go_wp2
    go_quiet (fail)
    go_wp2
    go_ret
    exact ⟨by rw [HD.out, Bool.true_and]; exact ret_bool (beq_nat _ _), _, rfl⟩
set_option maxHeartbeats 400000 in
theorem iover_any (w : World) (b m : Nat) (o : Ib) (h : IBox w b m o) :
    Calls Try.prog 12 #[.pointer (some ⟨b, 0, none⟩)] w fun e w' => e = .returned (.bool o.over) ∧ ∃ n, w' = w.drewN n := by
  have c7 := h.c7
  have HD : Hid (o.over = (o.reset || o.done)) := hide rfl
  cases hk : o.reset
  · rw [hk] at c7 HD
    clear hk
    have hd := idone_any w b m o h
    have Hdn := hide hd
    clear hd h
    go_enter Try.func12, Try.ntmps12
    go_wp2_with fail
    refine Hdn.out.mono ?_
    rintro e w' ⟨rfl, n, rfl⟩
    go_wp2_with fail
    go_ret
    exact ⟨by rw [HD.out]; rfl, n, rfl⟩
  · rw [hk] at c7 HD
    clear hk
    go_enter Try.func12, Try.ntmps12
    go_wp2_with fail
    go_ret
    exact ⟨by rw [HD.out]; rfl, 0, rfl⟩

/-- A cell of the struct is written; the parts stay. -/
theorem IBox.set {w : World} {b m : Nat} {o o' : Ib} (h : IBox w b m o) (i : Nat) (u : Value)
    (hc : (#[.int .u64 (o.limit : Int), .int .u64 (o.taken : Int), str (run o.B o.taken o.ready), .map (some m), .int .u64 (o.far : Int), .int .u64 (o.final : Int), .bool o.known, .bool o.reset] : Array Value).setIfInBounds i u =
      #[.int .u64 (o'.limit : Int), .int .u64 (o'.taken : Int), str (run o'.B o'.taken o'.ready), .map (some m), .int .u64 (o'.far : Int), .int .u64 (o'.final : Int), .bool o'.known, .bool o'.reset])
    (hr : o'.rest = o.rest) (hwf : o'.WF) : IBox (w.setCell ⟨b, i, none⟩ u) b m o' := by
  obtain ⟨f, hf, hcv⟩ := h.map
  exact ⟨hc ▸ h.blk.set_ i u, ⟨f, hf.mod ((Mod.refl [b] w).setCell (p := ⟨b, i, none⟩) (.inl (by simp)) u) (by simpa using Ne.symm h.ne), by rw [hr]; exact hcv⟩, h.ne, hwf⟩

set_option maxHeartbeats 400000 in
theorem iraise_any (w : World) (b m : Nat) (o : Ib) (h : IBox w b m o) (l : Nat) (hl : l ≤ 18446744073709551615) :
    Calls Try.prog 20 #[.pointer (some ⟨b, 0, none⟩), .int .u64 l] w fun e w' => e = .returned (.tuple #[]) ∧ IStep w b m (o.raise l) w' := by
  have c0 := h.c0
  have f0 := h.blk.frozen 0
  have hlim := h.wf.lim
  have H := hide (h.set (o' := o.raise l) 0 (.int .u64 (max (o.limit : Int) (min (l : Int) 4611686018427387903))) (by
      have : ((max o.limit (min l 4611686018427387903) : Nat) : Int) = max (o.limit : Int) (min (l : Int) 4611686018427387903) := by omega
      simp only [Ib.raise, this]; rfl) rfl (h.wf.raise l))
  clear h
  go_enter Try.func20, Try.ntmps20
  go_wp2
  go_end0
  exact ⟨rfl, m, H.out, (Mod.refl _ _).setCell (.inl (by simp)) _, .inl rfl⟩

set_option maxHeartbeats 400000 in
theorem inew_any (w : World) (l : Nat) (hl : l ≤ 18446744073709551615) :
    Calls Try.prog 9 #[.int .u64 l] w fun e w' => ∃ b m, e = .returned (.pointer (some ⟨b, 0, none⟩)) ∧ IBox w' b m (Ib.fresh l) ∧ Mod [] w w' ∧ w.heap.size ≤ b ∧ w.heap.size ≤ m := by
  have hmm := @run_makeMap Try.prog
  go_enter Try.func9, Try.ntmps9
  go_wp2
  go_ret
  have hrun : str (run (Ib.fresh l).B (Ib.fresh l).taken (Ib.fresh l).ready) = .string ⟨#[]⟩ := by simp [Ib.fresh, run_empty, str]
  have hmin : ((min l 4611686018427387903 : Nat) : Int) = min (l : Int) 4611686018427387903 := by omega
  refine ⟨w.heap.size + 1, w.heap.size, rfl, ⟨?_, ⟨_, (IMap.made w .u64).same (Below.heap_alloc _ _ _ (by simp)), ?_⟩, by omega, Ib.WF.fresh l⟩, ((Mod.refl _ _).alloc _).alloc _, by omega, Nat.le_refl _⟩
  · have := Blk.new (w.alloc (.map #[] 0)) 51 #[.int .u64 (min (l : Int) 4611686018427387903), .int .u64 0, .string ⟨#[]⟩, .map (some w.heap.size), .int .u64 0, .int .u64 0, .bool false, .bool false]
    rw [hrun]
    simp only [World.size_alloc] at this
    simp only [Ib.fresh, hmin]
    exact this
  · exact Cov.empty.congr (fun n => by simp [Ib.rest, Ib.fresh])

/-! ### what may come -/
def Ib.fitErr (o : Ib) (e : Nat) (fin : Bool) : Int :=
  if o.limit < e then 20 else if (o.known = true ∧ (o.final < e ∨ (fin = true ∧ e ≠ o.final))) ∨ (fin = true ∧ e < o.far) then 23 else 0

set_option maxHeartbeats 2000000 in
theorem ifits_any (w : World) (b m : Nat) (o : Ib) (h : IBox w b m o) (e : Nat) (fin : Bool) :
    Calls Try.prog 22 #[.pointer (some ⟨b, 0, none⟩), .int .u64 e, .bool fin] w fun x w' => x = .returned (.int .i64 (o.fitErr e fin)) ∧ ∃ n, w' = w.drewN n := by
  have c0 := h.c0
  have c4 := h.c4
  have c5 := h.c5
  have c6 := h.c6
  have HE : Hid (o.fitErr e fin = if o.limit < e then 20 else if (o.known = true ∧ (o.final < e ∨ (fin = true ∧ e ≠ o.final))) ∨ (fin = true ∧ e < o.far) then 23 else 0) := hide rfl
  clear h
  by_cases h1 : o.limit < e
  · have h1' : (o.limit : Int) < e := by omega
    go_enter Try.func22, Try.ntmps22
    go_wp2
    go_ret
    exact ⟨by rw [HE.out, if_pos h1]; rfl, 0, rfl⟩
  · have h1' : ¬ (o.limit : Int) < e := by omega
    have h4a : ((e : Int) != o.final) = (e != o.final) := by unfold bne; rw [beq_nat]
    cases hk : o.known <;> cases hf : fin
    all_goals
      rw [hk] at c6
      have Hk := hide hk
      have Hf := hide hf
      clear hk hf
      by_cases h2 : o.final < e <;> by_cases h3 : e < o.far <;> by_cases h4 : e = o.final
      all_goals first
        | (exfalso; omega)
        | skip
      all_goals
        have h2' : decide ((o.final : Int) < e) = decide (o.final < e) := decide_eq_decide.2 (by omega)
        have h3' : decide ((e : Int) < o.far) = decide (e < o.far) := decide_eq_decide.2 (by omega)
        have h4' : ((e : Int) != o.final) = !decide (e = o.final) := by rw [h4a]; rfl
        clear h4a
        simp only [h2, decide_true, decide_false] at h2'
        simp only [h3, decide_true, decide_false] at h3'
        first | rw [decide_eq_true h4, Bool.not_true] at h4' | rw [decide_eq_false h4, Bool.not_false] at h4'
        have H4 := hide h4
        clear h4
        go_enter Try.func22, Try.ntmps22
        go_wp2
        go_ret
        have hE := HE.out
        rw [Hf.out, if_neg h1, Hk.out] at hE
        have h4 := H4.out
        refine ⟨?_, 0, rfl⟩
        rw [hE]
        first
          | (rw [if_pos (by simp <;> omega)]; rfl)
          | (rw [if_neg (by simp <;> omega)]; rfl)
end Go.Proofs.Ytfbcbddfmiiilaa
