/-
  json: a builder whose bytes' block is known.
-/
import Derived.Test.YtkbpndohpkcikabDoorJsBld
import Derived.Test.YtkbpndohpkcikabDoorApp
namespace Go.Proofs.YtkbpndohpkcikabDoor
open Go.RowKit
set_option linter.unusedVariables false
/-- a builder that holds the bytes l, in the block fp -/
structure BW (w : World) (B b : Nat) (fp : Option Nat) (l : List UInt8) : Prop where
  base : B ≤ b
  own : ∃ p v, Blk w b 41 #[p, v] ∧ (p = .pointer none ∨ p = .pointer (some ⟨b, 0, none⟩)) ∧ w.ownsRow B 5 1 v l.length (l.map bv) ∧ v.ownBlock = fp ∧ fp ≠ some b
theorem BW.new (w : World) (B : Nat) (hB : B ≤ w.heap.size) : BW (w.alloc (.cells #[.pointer none, .slice none 0 0] 41)) B w.heap.size none [] :=
  ⟨hB, _, _, heap_alloc_new w _, .inl rfl, World.ownsRow_nil _ _ _ _, rfl, by simp⟩
theorem BW.bld {w : World} {B b : Nat} {fp : Option Nat} {l : List UInt8} (h : BW w B b fp l) : BldO w B b l := by
  obtain ⟨hB, p, v, hb, hp, ho, hv, hne⟩ := h
  have ho' : w.ownsRow B 5 1 v (l.map bv).length (l.map bv) := by rw [List.length_map]; exact ho
  rcases hp with rfl | rfl
  · exact .inl (Lib.BuilderAtF.of ⟨hB, v, hb, ho', by rw [hv]; exact hne⟩)
  · exact .inr (Lib.BuilderAtF.of ⟨hB, v, hb, ho', by rw [hv]; exact hne⟩)
theorem BW.lt {w : World} {B b : Nat} {fp : Option Nat} {l : List UInt8} (h : BW w B b fp l) : b < w.heap.size := by
  obtain ⟨hB, p, v, hb, _⟩ := h
  exact Blk.lt hb
theorem BW.fp_lt {w : World} {B b : Nat} {fp : Option Nat} {l : List UInt8} (h : BW w B b fp l) : ∀ k, fp = some k → B ≤ k ∧ k < w.heap.size := by
  obtain ⟨hB, p, v, hb, _, ho, hv, _⟩ := h
  intro k hk
  rw [hk] at hv
  exact ho.lt k hv
theorem BW.mod {F : List Nat} {w w' : World} {B b : Nat} {fp : Option Nat} {l : List UInt8} (h : BW w B b fp l) (m : Mod F w w') (h1 : b ∉ F) (h2 : ∀ k, fp = some k → k ∉ F) : BW w' B b fp l := by
  obtain ⟨hB, p, v, hb, hp, ho, hv, hne⟩ := h
  exact ⟨hB, p, v, m.blk hb h1, hp, m.own ho (fun k hk => h2 k (by rw [← hv]; exact hk)), hv, hne⟩
theorem bcheck_any (w : World) (B b : Nat) (fp : Option Nat) (l : List UInt8) (h : BW w B b fp l) :
    Calls Tryd.prog 34 #[.pointer (some ⟨b, 0, none⟩)] w fun e w' => e = .returned (.tuple #[]) ∧ (∃ v, Blk w' b 41 #[.pointer (some ⟨b, 0, none⟩), v] ∧ w'.ownsRow B 5 1 v l.length (l.map bv) ∧ v.ownBlock = fp) ∧ Mod [b] w w' := by
  obtain ⟨hB, p, v, hb, hp, ho, hv, hne⟩ := h
  have hlt := Blk.lt hb
  have ho' : w.ownsRow B 5 1 v (l.map bv).length (l.map bv) := by rw [List.length_map]; exact ho
  have hA : Lib.BuilderAt 41 5 B b p (l.map bv) w := ⟨hB, v, hb, ho', by rw [hv]; exact hne⟩
  rcases hp with rfl | rfl
  · have hc : Calls Tryd.prog 34 #[.pointer (some ⟨b, 0, none⟩)] w _ := Any.Builder_copyCheck_fresh { bldwLays with } bldX.toX72 b w hA.cell0 hA.shape hA.frozen0
    refine hc.mono ?_
    rintro e w' ⟨rfl, rfl⟩
    refine ⟨rfl, ⟨v, (Blk.set_ hb 0 _), own_far ho (fun k hk => ?_) _, hv⟩, (Mod.refl _ _).setCell (.inl (by simp)) _⟩
    rw [hv] at hk
    intro e
    exact hne (by rw [hk, e])
  · have hc : Calls Tryd.prog 34 #[.pointer (some ⟨b, 0, none⟩)] w _ := Any.Builder_copyCheck_used { bldwLays with } bldX.toX72 b w hA.cell0
    refine hc.mono ?_
    rintro e w' ⟨rfl, rfl⟩
    exact ⟨rfl, ⟨v, hb, ho, hv⟩, Mod.refl _ _⟩
theorem u8info : (Tryd.prog.info? 5).map (fun i => (i.zero, i.size, i.bytes)) = some (some (.int .u8 0), 1, 1) := by kernel_rfl
/-- append(xs, s...) of a string onto bytes -/
theorem bapp_string (w : World) (ty : TypeId) (B : Nat) (v : Value) (n : Nat) (xs : List Value) (s : ByteArray) (h : w.ownsRow B 5 1 v n xs) (hl : n + s.size ≤ 140737488355328) (hB : B ≤ w.heap.size) :
    ∃ A c w', (Builtin.append_ #[39, 9] ty #[v, .string s]).run Tryd.prog w = .ok (.slice A (n + s.size) c) w' ∧
      w'.ownsRow B 5 1 (.slice A (n + s.size) c) (n + s.size) (xs ++ s.data.toList.map bv) ∧ Mod v.ownBlock.toList w w' ∧
      ((Value.slice A (n + s.size) c).ownBlock = v.ownBlock ∨ (Value.slice A (n + s.size) c).ownBlock = some w.heap.size) := by
  obtain ⟨i0, hi, hz0, hz1, hz2⟩ := info_split u8info
  obtain ⟨v', w', h1, h2, h3, h4⟩ := run_app (P := Tryd.prog) ty B hi hz1 rfl v n _ h (AppSrc.of_src Tryd.underlying39 hi hz0 hz1 (Src.ofString w Tryd.underlying9 s)) (by simp only [maxLen]; omega) (by rw [hz2]; omega) hB
  obtain ⟨A, c, rfl⟩ := owned_slice h2
  exact ⟨A, c, w', h1, h2, Mod.of_grown h3, h4⟩
set_option maxHeartbeats 4000000 in
set_option maxRecDepth 100000 in
theorem bwbyte_any (w : World) (B b : Nat) (fp : Option Nat) (l : List UInt8) (c : UInt8) (h : BW w B b fp l) (hl : l.length + 1 ≤ 140737488355328) (hB : B ≤ w.heap.size) :
    Calls Tryd.prog 26 #[.pointer (some ⟨b, 0, none⟩), .int .u8 (c.toNat : Int)] w fun e w' => e = .returned .nilIface ∧ ∃ fp', BW w' B b fp' (l ++ [c]) ∧ (fp' = fp ∨ ∃ k, fp' = some k ∧ w.heap.size ≤ k) ∧ Mod (b :: fp.toList) w w' := by
  have hbase := h.base
  have hne : fp ≠ some b := by obtain ⟨_, _, _, _, _, _, _, hne⟩ := h; exact hne
  have hC := hide (bcheck_any w B b fp l h)
  have hblt := h.lt
  clear h
  go_enter Tryd.func26, Tryd.ntmps26
  go_wp2_with fail
  refine hC.out.mono ?_
  rintro e w1 ⟨rfl, ⟨v, hb, ho, hv⟩, m1⟩
  obtain ⟨A0, ca0, rfl⟩ := owned_slice ho
  have c0 : w1.cell? ⟨b, 0, none⟩ = some (.pointer (some ⟨b, 0, none⟩)) := hb.cell 0
  have c1 : w1.cell? ⟨b, 1, none⟩ = some (.slice A0 l.length ca0) := hb.cell 1
  have hs1 := m1.size
  obtain ⟨A, c', w2, hrun, hown, m2, hb2⟩ := app_one (P := Tryd.prog) Tryd.underlying39 u8info rfl (w1.alloc (.cells #[.int .u8 (c.toNat : Int)] 5)) 39 B (.slice A0 l.length ca0) l.length _ (((Mod.refl [] _).alloc _).own ho (by simp)) (by simp; omega) [bv c] rfl (fun u hu => by simp at hu; subst hu; rfl) (by omega) (by omega) w1.heap.size (fun j u hu => by
    match j, hu with
    | 0, hu => simp at hu; subst hu; simp [bv])
  have hvb : ∀ k, (Value.slice A0 l.length ca0).ownBlock = some k → k ≠ b := fun k hk e => hne (by rw [← hv, hk, e])
  have hb2' : Blk w2 b 41 #[.pointer (some ⟨b, 0, none⟩), .slice A0 l.length ca0] := m2.blk (hb.alloc _) (by rw [Option.mem_toList]; exact fun hk => hvb b hk rfl)
  have d0 : w2.cell? ⟨b, 0, none⟩ = some (.pointer (some ⟨b, 0, none⟩)) := hb2'.cell 0
  have d1 : w2.cell? ⟨b, 1, none⟩ = some (.slice A0 l.length ca0) := hb2'.cell 1
  have f1 : w2.frozen? ⟨b, 1, none⟩ = false := hb2'.frozen 1
  have hkb : ∀ k, (Value.slice A (l.length + 1) c').ownBlock = some k → k ≠ b := fun k hk => by
    rcases hb2 with e | e
    · exact hvb k (by rw [← e, hk])
    · rw [e] at hk; cases hk; simp; omega
  have HB2 := hide hb2'
  have HOwn := hide hown
  have HM2 := hide m2
  have HM1 := hide m1
  have HFp := hide hb2
  have HKb := hide hkb
  have HRun := hide hrun
  clear hb ho m1 hC hown m2 hb2 hkb hb2' hrun
  go_wp2_with (at_builtin; refine Lib.wpList_append_run _ rfl (.tmp 11) (.tmp 13) 39 39 rfl (.slice A0 l.length ca0) (.slice (some ⟨w1.heap.size, 0, none⟩) 1 1) rfl rfl _ w2 HRun.out ?_)
  go_ret
  refine ⟨rfl, (Value.slice A (l.length + 1) c').ownBlock, ⟨hbase, _, _, HB2.out.set_ 1 _, .inr rfl, ?_, rfl, fun e => HKb.out b e rfl⟩, ?_, ?_⟩
  · rw [List.length_append, List.map_append]
    exact own_far HOwn.out HKb.out _
  · rcases HFp.out with e | e
    · exact .inl (e.trans hv)
    · exact .inr ⟨_, e, by simp; omega⟩
  · refine Mod.setCell (((HM1.out.mono (fun x hx => by simp at hx; subst hx; exact .inl (by simp))).alloc _).trans HM2.out (fun x hx => .inl ?_)) (.inl (by simp)) _
    rw [hv] at hx
    exact List.mem_cons_of_mem _ hx
set_option maxHeartbeats 4000000 in
set_option maxRecDepth 100000 in
theorem bwstring_any (w : World) (B b : Nat) (fp : Option Nat) (l : List UInt8) (s : ByteArray) (h : BW w B b fp l) (hl : l.length + s.size ≤ 140737488355328) (hB : B ≤ w.heap.size) :
    Calls Tryd.prog 23 #[.pointer (some ⟨b, 0, none⟩), .string s] w fun e w' => e = .returned (.tuple #[.int .i64 s.size, .nilIface]) ∧ ∃ fp', BW w' B b fp' (l ++ s.data.toList) ∧ (fp' = fp ∨ ∃ k, fp' = some k ∧ w.heap.size ≤ k) ∧ Mod (b :: fp.toList) w w' := by
  have hbase := h.base
  have hne : fp ≠ some b := by obtain ⟨_, _, _, _, _, _, _, hne⟩ := h; exact hne
  have hC := hide (bcheck_any w B b fp l h)
  have hblt := h.lt
  clear h
  go_enter Tryd.func23, Tryd.ntmps23
  go_wp2_with fail
  refine hC.out.mono ?_
  rintro e w1 ⟨rfl, ⟨v, hb, ho, hv⟩, m1⟩
  obtain ⟨A0, ca0, rfl⟩ := owned_slice ho
  have c0 : w1.cell? ⟨b, 0, none⟩ = some (.pointer (some ⟨b, 0, none⟩)) := hb.cell 0
  have c1 : w1.cell? ⟨b, 1, none⟩ = some (.slice A0 l.length ca0) := hb.cell 1
  have hs1 := m1.size
  obtain ⟨A, c', w2, hrun, hown, m2, hb2⟩ := bapp_string w1 39 B (.slice A0 l.length ca0) l.length _ s ho (by omega) (by omega)
  have hvb : ∀ k, (Value.slice A0 l.length ca0).ownBlock = some k → k ≠ b := fun k hk e => hne (by rw [← hv, hk, e])
  have hb2' : Blk w2 b 41 #[.pointer (some ⟨b, 0, none⟩), .slice A0 l.length ca0] := m2.blk hb (by rw [Option.mem_toList]; exact fun hk => hvb b hk rfl)
  have d0 : w2.cell? ⟨b, 0, none⟩ = some (.pointer (some ⟨b, 0, none⟩)) := hb2'.cell 0
  have d1 : w2.cell? ⟨b, 1, none⟩ = some (.slice A0 l.length ca0) := hb2'.cell 1
  have f1 : w2.frozen? ⟨b, 1, none⟩ = false := hb2'.frozen 1
  have hkb : ∀ k, (Value.slice A (l.length + s.size) c').ownBlock = some k → k ≠ b := fun k hk => by
    rcases hb2 with e | e
    · exact hvb k (by rw [← e, hk])
    · rw [e] at hk; cases hk; omega
  have HB2 := hide hb2'
  have HOwn := hide hown
  have HM2 := hide m2
  have HM1 := hide m1
  have HFp := hide hb2
  have HKb := hide hkb
  have HRun := hide hrun
  clear hb ho m1 hC hown m2 hb2 hkb hb2' hrun
  go_wp2_with (at_builtin; refine Lib.wpList_append_run _ rfl (.tmp 12) (.tmp 13) 39 9 rfl (.slice A0 l.length ca0) (.string s) rfl rfl _ w2 HRun.out ?_)
  go_ret2
  refine ⟨rfl, (Value.slice A (l.length + s.size) c').ownBlock, ⟨hbase, _, _, HB2.out.set_ 1 _, .inr rfl, ?_, rfl, fun e => HKb.out b e rfl⟩, ?_, ?_⟩
  · rw [List.length_append, List.map_append, bytes_len]
    exact own_far HOwn.out HKb.out _
  · rcases HFp.out with e | e
    · exact .inl (e.trans hv)
    · exact .inr ⟨_, e, by omega⟩
  · refine Mod.setCell ((HM1.out.mono (fun x hx => by simp at hx; subst hx; exact .inl (by simp))).trans HM2.out (fun x hx => .inl ?_)) (.inl (by simp)) _
    rw [hv] at hx
    exact List.mem_cons_of_mem _ hx
end Go.Proofs.YtkbpndohpkcikabDoor
