/-
  outbox: Write.
-/
import Derived.Test.YtnkhdipbljfohaaObDone
namespace Go.Proofs.Ytnkhdipbljfohaa
open Go.RowKit

theorem infoU8 : (Try.prog.info? 5).map (fun i => (i.zero, i.size, i.bytes)) = some (some (.int .u8 0), 1, 1) := by kernel_rfl

theorem own_slice {w : World} {base : Nat} {e : TypeId} {size n : Nat} {v : Value} {xs : List Value} (h : w.ownsRow base e size v n xs) : ∃ A c, v = .slice A n c := by
  rcases h.2 with ⟨rfl, rfl⟩ | ⟨g, cap, cur, rfl, _⟩
  · exact ⟨_, _, rfl⟩
  · exact ⟨_, _, rfl⟩

/-- append(xs, s...) of a string onto bytes -/
theorem app_string (w : World) (ty : TypeId) (v : Value) (xs : List UInt8) (s : ByteArray) (h : w.ownsRow 0 5 1 v xs.length (xs.map cv)) (hl : xs.length + s.size ≤ 140737488355328) (N : Nat) (hN : N = (xs ++ s.data.toList).length) :
    ∃ A c w', (Builtin.append_ #[52, 9] ty #[v, .string s]).run Try.prog w = .ok (.slice A N c) w' ∧
      w'.ownsRow 0 5 1 (.slice A N c) N ((xs ++ s.data.toList).map cv) ∧ w.grownBy w' v.ownBlock ∧
      ((Value.slice A N c).ownBlock = v.ownBlock ∨ (Value.slice A N c).ownBlock = some w.heap.size) := by
  obtain ⟨i0, hi, hz0, hz1, hz2⟩ := info_parts infoU8
  have hsz : s.data.toList.length = s.size := by rw [Array.length_toList]; rfl
  obtain ⟨v', w', h1, h2, h3, h4⟩ := run_app (P := Try.prog) ty 0 hi hz1 rfl v xs.length _ h (AppSrc.of_src Try.underlying52 hi hz0 hz1 (Src.ofString w Try.underlying9 s)) (by simp only [maxLen]; omega) (by rw [hz2]; omega) (Nat.zero_le _)
  have hn : xs.length + s.size = (xs ++ s.data.toList).length := by rw [List.length_append, hsz]
  rw [hn] at h2
  obtain ⟨A, c, rfl⟩ := own_slice h2
  subst hN
  refine ⟨A, c, w', h1, ?_, h3, h4⟩
  rw [List.map_append]
  exact h2

/-- append(xs, make([]byte, n)...) -/
theorem app_zeros (w : World) (ty : TypeId) (v : Value) (xs : List UInt8) (n : Nat) (h : w.ownsRow 0 5 1 v xs.length (xs.map cv)) (hl : xs.length + n ≤ 140737488355328) (N : Nat) (hN : N = (xs ++ List.replicate n 0).length) :
    ∃ A c w', (Builtin.append_ #[52, 3] ty #[v, .int .i64 n]).run Try.prog w = .ok (.slice A N c) w' ∧
      w'.ownsRow 0 5 1 (.slice A N c) N ((xs ++ List.replicate n 0).map cv) ∧ w.grownBy w' v.ownBlock ∧
      ((Value.slice A N c).ownBlock = v.ownBlock ∨ (Value.slice A N c).ownBlock = some w.heap.size) := by
  obtain ⟨i0, hi, hz0, hz1, hz2⟩ := info_parts infoU8
  obtain ⟨v', w', h1, h2, h3, h4⟩ := run_app (P := Try.prog) ty 0 hi hz1 rfl v xs.length _ h (AppSrc.zeros (kq := .i64) Try.underlying52 Try.underlying3 hi hz0 hz1 rfl rfl n (by simp only [maxLen]; omega) (by rw [hz2]; omega)) (by simp only [maxLen]; omega) (by rw [hz2]; omega) (Nat.zero_le _)
  have hn : xs.length + n = (xs ++ List.replicate n 0).length := by simp
  rw [hn] at h2
  obtain ⟨A, c, rfl⟩ := own_slice h2
  subst hN
  refine ⟨A, c, w', h1, ?_, h3, h4⟩
  rw [List.map_append, List.map_replicate]
  exact h2

/-- append(xs, x): x lies in a new block -/
theorem app_one (w : World) (ty : TypeId) (v : Value) (xs : List UInt8) (x : UInt8) (h : w.ownsRow 0 5 1 v xs.length (xs.map cv)) (hl : xs.length + 1 ≤ 140737488355328) (g : Nat) (hc : w.cell? ⟨g, 0, none⟩ = some (cv x)) (N : Nat) (hN : N = (xs ++ [x]).length) :
    ∃ A c w', (Builtin.append_ #[52, 52] ty #[v, .slice (some ⟨g, 0, none⟩) 1 1]).run Try.prog w = .ok (.slice A N c) w' ∧
      w'.ownsRow 0 5 1 (.slice A N c) N ((xs ++ [x]).map cv) ∧ w.grownBy w' v.ownBlock ∧
      ((Value.slice A N c).ownBlock = v.ownBlock ∨ (Value.slice A N c).ownBlock = some w.heap.size) := by
  obtain ⟨i0, hi, hz0, hz1, hz2⟩ := info_parts infoU8
  have hsrc : Src Try.prog 1 52 (.slice (some ⟨g, 0, none⟩) 1 1) 1 [cv x] w := Src.ofSlice w Try.underlying52 _ 1 1 _ rfl (fun j u hu => by
    match j, hu with
    | 0, hu => simp at hu; subst hu; simpa [Addr.add] using hc) (fun u hu => by simp at hu; subst hu; rfl)
  obtain ⟨v', w', h1, h2, h3, h4⟩ := run_app (P := Try.prog) ty 0 hi hz1 rfl v xs.length _ h (AppSrc.of_src Try.underlying52 hi hz0 hz1 hsrc) (by simp only [maxLen]; omega) (by rw [hz2]; omega) (Nat.zero_le _)
  have hn : xs.length + 1 = (xs ++ [x]).length := by simp
  rw [hn] at h2
  obtain ⟨A, c, rfl⟩ := own_slice h2
  subst hN
  refine ⟨A, c, w', h1, ?_, h3, h4⟩
  rw [List.map_append]
  exact h2

theorem mem_ofoot {b k : Nat} {dv sv : Value} : k ∈ ofoot b dv sv ↔ k = b ∨ dv.ownBlock = some k ∨ sv.ownBlock = some k := by
  simp [ofoot, Option.mem_toList]

set_option maxHeartbeats 2000000 in
theorem write_any (w : World) (b : Nat) (o : Ob) (dv sv : Value) (h : OBox w b o dv sv) (s : ByteArray) (fin : Bool) (hs : s.size ≤ 9223372036854700000) :
    Calls Try.prog 17 #[.pointer (some ⟨b, 0, none⟩), .string s, .bool fin] w fun e w' =>
      e = .returned (.int .i64 (o.writeErr s.data.toList)) ∧ OStep w b dv sv (o.write s.data.toList fin) w' := by
  have hc1 := h.c1
  have hc2 := h.c2
  have hc4 := h.c4
  have hc5 := h.c5
  have hsz := h.wf.size
  have hsl : s.data.toList.length = s.size := by rw [Array.length_toList]; rfl
  by_cases h0 : o.writeErr s.data.toList = 0
  · obtain ⟨he, hr, hl⟩ := Ob.writeErr_zero h0
    rw [he] at hc4
    rw [hr] at hc5
    rw [hsl] at hl
    have hst := h.wf.stl
    rw [he] at hst
    simp only [Bool.toNat_false, Nat.add_zero] at hst
    obtain ⟨A, c, rfl, _, _⟩ := h.dv_form
    have hE : ∀ v : Bool, Hid (o.writeErr s.data.toList = 0 ∧ o.write s.data.toList v = { o with data := o.data ++ s.data.toList, st := o.st ++ List.replicate s.size 0 ++ (if v then [0] else []), ended := v }) := fun v => hide (by
      refine ⟨h0, ?_⟩
      unfold Ob.write
      rw [if_pos h0, hsl])
    have hE := hE fin
    have hW := h.wf.write s.data.toList fin
    rw [hE.out.2] at hW
    -- the first append, and its store
    obtain ⟨n1, hn1⟩ : ∃ n1, n1 = (o.data ++ s.data.toList).length := ⟨_, rfl⟩
    obtain ⟨A1, c1, w1, hr1, ho1, hg1, hb1⟩ := app_string w 52 (.slice A o.data.length c) o.data s h.dat (by omega) n1 hn1
    have m1 : Mod (Value.slice A o.data.length c).ownBlock.toList w w1 := Mod.of_grown hg1
    have hbd : b ∉ (Value.slice A o.data.length c).ownBlock.toList := fun hm => own_blk_ne h.dat h.blk (by decide) b (by simpa [Option.mem_toList] using hm) rfl
    have hbs : ∀ k, sv.ownBlock = some k → k ≠ b := own_blk_ne h.sta h.blk (by decide)
    have hblt := h.blk.lt
    have k1 := m1.blk h.blk hbd
    have s1 := m1.own h.sta (fun k hk hm => h.dis k (by simpa [Option.mem_toList] using hm) hk)
    obtain ⟨V1, hV1⟩ : ∃ V1, V1 = Value.slice A1 n1 c1 := ⟨_, rfl⟩
    rw [← hV1] at ho1 hb1
    have hv1b : ∀ k, V1.ownBlock = some k → k ≠ b := fun k hk => by
      rcases hb1 with e | e
      · exact own_blk_ne h.dat h.blk (by decide) k (by rw [← e, hk])
      · rw [e] at hk; cases hk; omega
    have hv1s : ∀ k, V1.ownBlock = some k → sv.ownBlock ≠ some k := fun k hk hk2 => by
      rcases hb1 with e | e
      · exact h.dis k (by rw [← e, hk]) hk2
      · rw [e] at hk; cases hk; exact absurd (own_lt h.sta _ hk2) (by omega)
    have k2 := k1.set_ 1 V1
    have d2 := own_far (p := ⟨b, 1, none⟩) ho1 hv1b V1
    have s2 := own_far (p := ⟨b, 1, none⟩) s1 hbs V1
    have m2 : Mod (ofoot b (.slice A o.data.length c) sv) w (w1.setCell ⟨b, 1, none⟩ V1) := (m1.mono (fun x hx => .inl (mem_ofoot.2 (.inr (.inl (by simpa [Option.mem_toList] using hx)))))).setCell (.inl (by simp [ofoot])) V1
    -- the second
    obtain ⟨n2, hn2⟩ : ∃ n2, n2 = (o.st ++ List.replicate s.size 0).length := ⟨_, rfl⟩
    obtain ⟨A2, c2, w3, hr2, ho2, hg2, hb2⟩ := app_zeros (w1.setCell ⟨b, 1, none⟩ V1) 52 sv o.st s.size s2 (by omega) n2 hn2
    have m3 : Mod sv.ownBlock.toList (w1.setCell ⟨b, 1, none⟩ V1) w3 := Mod.of_grown hg2
    have k3 := m3.blk k2 (fun hm => hbs b (by simpa [Option.mem_toList] using hm) rfl)
    have d3 := m3.own d2 (fun k hk hm => hv1s k hk (by simpa [Option.mem_toList] using hm))
    obtain ⟨V2, hV2⟩ : ∃ V2, V2 = Value.slice A2 n2 c2 := ⟨_, rfl⟩
    rw [← hV2] at ho2 hb2
    have hsz2 : w.heap.size ≤ (w1.setCell ⟨b, 1, none⟩ V1).heap.size := m2.size
    have hv2b : ∀ k, V2.ownBlock = some k → k ≠ b := fun k hk => by
      rcases hb2 with e | e
      · exact hbs k (by rw [← e, hk])
      · rw [e] at hk; cases hk; omega
    have hv12 : ∀ k, V1.ownBlock = some k → V2.ownBlock ≠ some k := fun k hk hk2 => by
      rcases hb2 with e | e
      · exact hv1s k hk (by rw [← e, hk2])
      · rw [e] at hk2; cases hk2; exact absurd (own_lt d2 _ hk) (by omega)
    have k4 := k3.set_ 2 V2
    have d4 := own_far (p := ⟨b, 2, none⟩) d3 hv1b V2
    have s4 := own_far (p := ⟨b, 2, none⟩) ho2 hv2b V2
    have m4 : Mod (ofoot b (.slice A o.data.length c) sv) w (w3.setCell ⟨b, 2, none⟩ V2) := (m2.trans m3 (fun x hx => .inl (mem_ofoot.2 (.inr (.inr (by simpa [Option.mem_toList] using hx)))))).setCell (.inl (by simp [ofoot])) V2
    have f1 := k1.frozen 1
    have g1 : w1.cell? ⟨b, 1, none⟩ = some (.slice A o.data.length c) := k1.cell 1
    have g2 : w1.cell? ⟨b, 2, none⟩ = some sv := k1.cell 2
    have f3 := k3.frozen 2
    have g3 : w3.cell? ⟨b, 2, none⟩ = some sv := k3.cell 2
    have hf1 : ∀ k, V1.ownBlock = some k → k ∈ ofoot b (.slice A o.data.length c) sv ∨ w.heap.size ≤ k := fun k hk => by
      rcases hb1 with e | e
      · exact .inl (mem_ofoot.2 (.inr (.inl (by rw [← e, hk]))))
      · rw [e] at hk; cases hk; exact .inr (Nat.le_refl _)
    have hf2 : ∀ k, V2.ownBlock = some k → k ∈ ofoot b (.slice A o.data.length c) sv ∨ w.heap.size ≤ k := fun k hk => by
      rcases hb2 with e | e
      · exact .inl (mem_ofoot.2 (.inr (.inr (by rw [← e, hk]))))
      · rw [e] at hk; cases hk; exact .inr hsz2
    clear hbd m1 m2 m3 s1 s2 d2 d3 k1 k2 ho1 ho2 hg1 hg2 hb1 hb2 hv1s
    have Hr1 := hide hr1
    have Hr2 := hide hr2
    clear hr1 hr2
    have Hs := hide hsl
    have Ho := hide h0
    have Hst := hide hst
    clear hsl h0 hst
    have Hn1 := hide hn1
    have Hn2 := hide hn2
    cases fin
    · have hfin : OStep w b (.slice A o.data.length c) sv (o.write s.data.toList false) (w3.setCell ⟨b, 2, none⟩ V2) := by
        rw [hE.out.2]
        rw [if_neg (by simp), List.append_nil] at hW ⊢
        refine ⟨V1, V2, ⟨?_, by rw [hn1] at d4; exact d4, by rw [hn2] at s4; exact s4, hv12, hW⟩, m4, fun k hk => ?_⟩
        · rw [he] at k4
          exact k4
        · rcases mem_ofoot.1 hk with e | e | e
          · exact .inl (mem_ofoot.2 (.inl e))
          · exact hf1 k e
          · exact hf2 k e
      have Hf := hide hfin
      clear hfin h d4 s4 k4 m4 hv12 hv2b hv1b hf1 hf2 k3 hW hn1 hn2
      subst hV1 hV2
      go_enter Try.func17, Try.ntmps17
      go_wp2_with (first
        | (at_builtin; refine Lib.wpList_append_run _ rfl (.tmp 32) (.tmp 33) 52 9 rfl (.slice A o.data.length c) (.string s) rfl rfl _ w1 Hr1.out ?_)
        | (at_builtin; refine Lib.wpList_append_run _ rfl (.tmp 41) (.tmp 43) 52 3 rfl sv (.int .i64 s.size) rfl rfl _ w3 Hr2.out ?_))
      go_ret
      exact ⟨by rw [hE.out.1]; rfl, Hf.out⟩
    · have f4 := k3.frozen 4
      have g4 : w3.cell? ⟨b, 4, none⟩ = some (.bool false) := (k3.cell 4).trans (by rw [he]; rfl)
      -- the end is set; its byte lies in a new block; the third append
      have k5 := k4.set_ 4 (.bool true)
      have d5 := own_far (p := ⟨b, 4, none⟩) d4 hv1b (.bool true)
      have s5 := own_far (p := ⟨b, 4, none⟩) s4 hv2b (.bool true)
      obtain ⟨w5, hw5⟩ : ∃ w5, w5 = (w3.setCell ⟨b, 2, none⟩ V2).setCell ⟨b, 4, none⟩ (.bool true) := ⟨_, rfl⟩
      rw [← hw5] at k5 d5 s5
      have hz5 : w5.heap.size = w3.heap.size := by rw [hw5]; simp [World.setCell]
      have m5 : Mod (ofoot b (.slice A o.data.length c) sv) w w5 := by rw [hw5]; exact m4.setCell (.inl (by simp [ofoot])) _
      have m6 := m5.alloc (.cells #[.int .u8 0] 5)
      have k6 := k5.alloc (.cells #[.int .u8 0] 5)
      have d6 := d5.alloc (.cells #[.int .u8 0] 5)
      have s6 := s5.alloc (.cells #[.int .u8 0] 5)
      obtain ⟨n3, hn3⟩ : ∃ n3, n3 = (o.st ++ List.replicate s.size 0 ++ [0]).length := ⟨_, rfl⟩
      obtain ⟨A3, c3, w7, hr3, ho3, hg3, hb3⟩ := app_one (w5.alloc (.cells #[.int .u8 0] 5)) 52 V2 (o.st ++ List.replicate s.size 0) 0 (by rw [← hn2]; exact s6) (by simp only [List.length_append, List.length_replicate]; rw [Hst.out]; omega) w3.heap.size (by rw [← hz5]; exact World.cell?_alloc_new _ _ _ _) n3 hn3
      have m7 : Mod V2.ownBlock.toList (w5.alloc (.cells #[.int .u8 0] 5)) w7 := Mod.of_grown hg3
      have k7 := m7.blk k6 (fun hm => hv2b b (by simpa [Option.mem_toList] using hm) rfl)
      have d7 := m7.own d6 (fun k hk hm => hv12 k hk (by simpa [Option.mem_toList] using hm))
      obtain ⟨V3, hV3⟩ : ∃ V3, V3 = Value.slice A3 n3 c3 := ⟨_, rfl⟩
      rw [← hV3] at ho3 hb3
      have hsz6 : w.heap.size ≤ (w5.alloc (.cells #[.int .u8 0] 5)).heap.size := m6.size
      have hv3b : ∀ k, V3.ownBlock = some k → k ≠ b := fun k hk => by
        rcases hb3 with e | e
        · exact hv2b k (by rw [← e, hk])
        · rw [e] at hk; cases hk; omega
      have hv13 : ∀ k, V1.ownBlock = some k → V3.ownBlock ≠ some k := fun k hk hk2 => by
        rcases hb3 with e | e
        · exact hv12 k hk (by rw [← e, hk2])
        · rw [e] at hk2; cases hk2; exact absurd (own_lt d6 _ hk) (by omega)
      have hf3 : ∀ k, V3.ownBlock = some k → k ∈ ofoot b (.slice A o.data.length c) sv ∨ w.heap.size ≤ k := fun k hk => by
        rcases hb3 with e | e
        · exact hf2 k (by rw [← e, hk])
        · rw [e] at hk; cases hk; exact .inr hsz6
      have k8 := k7.set_ 2 V3
      have d8 := own_far (p := ⟨b, 2, none⟩) d7 hv1b V3
      have s8 := own_far (p := ⟨b, 2, none⟩) ho3 hv3b V3
      have m8 : Mod (ofoot b (.slice A o.data.length c) sv) w (w7.setCell ⟨b, 2, none⟩ V3) := (m6.trans m7 (fun x hx => hf2 x (by simpa [Option.mem_toList] using hx))).setCell (.inl (by simp [ofoot])) V3
      have f7 := k7.frozen 2
      have g7 : w7.cell? ⟨b, 2, none⟩ = some V2 := k7.cell 2
      have hfin : OStep w b (.slice A o.data.length c) sv (o.write s.data.toList true) (w7.setCell ⟨b, 2, none⟩ V3) := by
        rw [hE.out.2]
        rw [if_pos rfl] at hW ⊢
        refine ⟨V1, V3, ⟨k8, by rw [hn1] at d8; exact d8, by rw [hn3] at s8; exact s8, hv13, hW⟩, m8, fun k hk => ?_⟩
        rcases mem_ofoot.1 hk with e | e | e
        · exact .inl (mem_ofoot.2 (.inl e))
        · exact hf1 k e
        · exact hf3 k e
      have Hf := hide hfin
      have Hr3 := hide hr3
      clear hfin h d4 s4 k4 m4 hv12 hv2b hv1b hf1 hf2 k3 hW hn1 hn2 k5 d5 s5 m5 m6 k6 d6 s6 hn3 ho3 hg3 hb3 m7 k7 d7 hz5 hsz6 hv3b hv13 hf3 k8 d8 s8 m8 hr3
      subst hV1 hV2 hV3 hw5
      go_enter Try.func17, Try.ntmps17
      go_wp2_with (first
        | (at_builtin; refine Lib.wpList_append_run _ rfl (.tmp 32) (.tmp 33) 52 9 rfl (.slice A o.data.length c) (.string s) rfl rfl _ w1 Hr1.out ?_)
        | (at_builtin; refine Lib.wpList_append_run _ rfl (.tmp 41) (.tmp 43) 52 3 rfl sv (.int .i64 s.size) rfl rfl _ w3 Hr2.out ?_)
        | (at_builtin; refine Lib.wpList_append_run _ rfl (.tmp 55) (.tmp 56) 52 52 rfl (.slice A2 n2 c2) (.slice (some ⟨w3.heap.size, 0, none⟩) 1 1) rfl rfl _ w7 Hr3.out ?_))
      go_ret
      exact ⟨by rw [hE.out.1]; rfl, Hf.out⟩
  · have hE : Hid (o.writeErr s.data.toList = (if o.ended || o.reset then 22 else 4) ∧ o.write s.data.toList fin = o) := hide (by
      constructor
      · unfold Ob.writeErr at h0 ⊢
        split
        · rfl
        · rename_i h1
          rw [if_neg h1] at h0
          split
          · rfl
          · rename_i h2; rw [if_neg h2] at h0; exact absurd rfl h0
      · unfold Ob.write; rw [if_neg h0])
    have Hf := hide (OStep.of_mod h (Mod.refl [] w))
    obtain ⟨A, c, rfl, _, _⟩ := h.dv_form
    have hlong : Hid (o.ended = false → o.reset = false → 65536 < o.data.length + s.size) := hide (fun he hr => by
      unfold Ob.writeErr at h0
      rw [he, hr, hsl] at h0
      simp at h0
      omega)
    clear h0 h hsl
    cases he : o.ended <;> cases hr : o.reset <;> rw [he] at hc4 <;> rw [hr] at hc5
    · have hlong2 := hlong.out he hr
      simp only [he, hr] at hE
      clear he hr
      go_enter Try.func17, Try.ntmps17
      go_wp2_with fail
      go_ret
      exact ⟨by rw [hE.out.1]; rfl, by rw [hE.out.2]; exact Hf.out⟩
    all_goals
      simp only [he, hr] at hE
      clear he hr
      go_enter Try.func17, Try.ntmps17
      go_wp2_with fail
      go_ret
      exact ⟨by rw [hE.out.1]; rfl, by rw [hE.out.2]; exact Hf.out⟩
end Go.Proofs.Ytnkhdipbljfohaa
