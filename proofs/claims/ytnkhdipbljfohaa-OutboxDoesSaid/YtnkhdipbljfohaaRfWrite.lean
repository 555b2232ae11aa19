/-
  the document's outbox: New, Write.
-/
import Derived.Test.YtnkhdipbljfohaaRfFrom
namespace Go.Proofs.Ytnkhdipbljfohaa
open Go.RowKit

theorem infoInt : (Try.prog.info? 3).map (fun i => (i.zero, i.size, i.bytes)) = some (some (.int .i64 0), 1, 8) := by kernel_rfl

/-- append(xs, x): x lies in a new block -/
theorem rapp_one (w : World) (ty : TypeId) (v : Value) (xs : List UInt8) (x : UInt8) (h : w.ownsRow 0 3 1 v xs.length (xs.map iv)) (hl : xs.length + 1 ≤ 17592186044416) (g : Nat) (hc : w.cell? ⟨g, 0, none⟩ = some (iv x)) (N : Nat) (hN : N = (xs ++ [x]).length) :
    ∃ A c w', (Builtin.append_ #[48, 48] ty #[v, .slice (some ⟨g, 0, none⟩) 1 1]).run Try.prog w = .ok (.slice A N c) w' ∧
      w'.ownsRow 0 3 1 (.slice A N c) N ((xs ++ [x]).map iv) ∧ w.grownBy w' v.ownBlock ∧
      ((Value.slice A N c).ownBlock = v.ownBlock ∨ (Value.slice A N c).ownBlock = some w.heap.size) := by
  obtain ⟨i0, hi, hz0, hz1, hz2⟩ := info_parts infoInt
  have hsrc : Src Try.prog 1 48 (.slice (some ⟨g, 0, none⟩) 1 1) 1 [iv x] w := Src.ofSlice w Try.underlying48 _ 1 1 _ rfl (fun j u hu => by
    match j, hu with
    | 0, hu => simp at hu; subst hu; simpa [Addr.add] using hc) (fun u hu => by simp at hu; subst hu; rfl)
  obtain ⟨v', w', h1, h2, h3, h4⟩ := run_app (P := Try.prog) ty 0 hi hz1 rfl v xs.length _ h (AppSrc.of_src Try.underlying48 hi hz0 hz1 hsrc) (by simp only [maxLen]; omega) (by rw [hz2]; omega) (Nat.zero_le _)
  have hn : xs.length + 1 = (xs ++ [x]).length := by simp
  rw [hn] at h2
  obtain ⟨A, c, rfl⟩ := own_slice h2
  subst hN
  refine ⟨A, c, w', h1, ?_, h3, h4⟩
  rw [List.map_append]
  exact h2

set_option maxHeartbeats 1000000 in
theorem rnew_any (w : World) (l : Nat) (hl : l ≤ 18446744073709551615) :
    Calls Try.prog 25 #[.int .u64 l] w fun e w' =>
      ∃ r, e = .returned (.pointer (some ⟨r, 0, none⟩)) ∧ RBox w' r (Ob.fresh l) (.slice none 0 0) ∧ Mod [] w w' ∧ w.heap.size ≤ r := by
  go_enter Try.func25, Try.ntmps25
  go_wp2
  go_ret
  refine ⟨w.heap.size, rfl, ⟨?_, World.ownsRow_nil _ _ _ _, Ob.Good.fresh l⟩, (Mod.refl _ _).alloc _, Nat.le_refl _⟩
  have e : ((Ob.fresh l).limit : Int) = min (l : Int) 4611686018427387903 := by simp only [Ob.fresh]; omega
  have := Blk.new w 50 #[.int .u64 ((Ob.fresh l).limit : Int), str (Ob.fresh l).data, .slice none 0 0, .int .i64 (Ob.fresh l).endv, .bool (Ob.fresh l).reset]
  rw [e] at this ⊢
  exact this

theorem Ob.Good.end_low {o : Ob} (h : o.Good) : if o.ended then o.endv < 4 else o.endv = 4 := by
  have hst := h.wf.stl
  unfold Ob.endv
  cases he : o.ended
  · rfl
  · rw [he] at hst
    simp only [Bool.toNat_true] at hst
    simp only [if_true, List.getD_eq_getElem?_getD, List.getElem?_eq_getElem (show o.data.length < o.st.length by omega)]
    have := h.wf.low _ (List.getElem_mem (show o.data.length < o.st.length by omega))
    have h2 : (o.st[o.data.length]).toNat < (4 : UInt8).toNat := UInt8.lt_iff_toNat_lt.1 this
    have : (4 : UInt8).toNat = 4 := rfl
    simp only [Option.getD_some]
    omega

set_option maxHeartbeats 4000000 in
theorem rwrite_any (w : World) (r : Nat) (o : Ob) (H : Value) (h : RBox w r o H) (s : ByteArray) (fin : Bool) (hs : s.size ≤ 200) :
    Calls Try.prog 39 #[.pointer (some ⟨r, 0, none⟩), .string s, .bool fin] w fun e w' =>
      e = .returned (.int .i64 (o.writeErr s.data.toList)) ∧ RStep w r H (o.write s.data.toList fin) w' := by
  have hc1 := h.c1
  have hc2 := h.c2
  have hc3 := h.c3
  have hc4 := h.c4
  have hsz := h.size
  have hsl : s.data.toList.length = s.size := by rw [Array.length_toList]; rfl
  have hlow := h.good.end_low
  have hst := h.good.wf.stl
  by_cases h0 : o.writeErr s.data.toList = 0
  · obtain ⟨he, hr, hl⟩ := Ob.writeErr_zero h0
    rw [he] at hlow hst
    rw [hr] at hc4
    simp only [Bool.false_eq_true, if_false] at hlow
    rw [hlow] at hc3
    rw [hsl] at hl
    simp only [Bool.toNat_false, Nat.add_zero] at hst
    have hhl : o.hows = o.st := by unfold Ob.hows; rw [← hst, List.take_length]
    have hf1 := h.blk.frozen 1
    have hg' := h.good.write s.data.toList fin
    have hE : o.write s.data.toList fin = { o with data := o.data ++ s.data.toList, st := o.st ++ List.replicate s.size 0 ++ (if fin then [0] else []), ended := fin } := by
      unfold Ob.write
      rw [if_pos h0, hsl]
    have H0 := hide h0
    have hst' : (o.st ++ List.replicate s.size (0 : UInt8)).length = (o.data ++ s.data.toList).length := by simp [hst, hsl]
    have Hhow : Hid ((o.write s.data.toList fin).hows = o.st ++ List.replicate s.size 0) := hide (by
      rw [hE]
      unfold Ob.hows
      simp only
      rw [← hst', List.take_left])
    have Hend : Hid ((o.write s.data.toList fin).endv = if fin then 0 else 4) := hide (by
      rw [hE]
      unfold Ob.endv
      cases fin
      · rfl
      · simp only [if_true, List.getD_eq_getElem?_getD]
        rw [← hst', List.getElem?_append_right (Nat.le_refl _)]
        simp)
    have Hdat : Hid ((o.write s.data.toList fin).data = o.data ++ s.data.toList ∧ (o.write s.data.toList fin).limit = o.limit ∧ (o.write s.data.toList fin).reset = false) := hide (by
      rw [hE]; exact ⟨rfl, rfl, hr⟩)
    have Hst' := hide hst'
    clear hst'
    have Hg' := hide hg'
    obtain ⟨D, hD⟩ : ∃ D : ByteArray, D = (⟨o.data.toArray⟩ : ByteArray) ++ s := ⟨_, rfl⟩
    have HD : Hid (D = ⟨(o.data ++ s.data.toList).toArray⟩) := hide (by
      rw [hD]
      apply ByteArray.ext
      apply Array.ext'
      simp)
    have Hlow := hide hlow
    have hbl := h.blk
    rw [hlow, hr] at hbl
    have Hb0 : Hid (Blk (w.setCell ⟨r, 1, none⟩ (.string D)) r 50 #[.int .u64 (o.limit : Int), .string D, H, .int .i64 4, .bool false]) := hide (hbl.set_ 1 (.string D))
    have Hw0 : Hid ((w.setCell ⟨r, 1, none⟩ (.string D)).ownsRow 0 3 1 H (o.st ++ List.replicate 0 (0 : UInt8)).length ((o.st ++ List.replicate 0 0).map iv)) := hide (by
      have := own_far h.how (own_blk_ne h.how h.blk (by decide)) (p := ⟨r, 1, none⟩) (.string D)
      rw [hhl, ← hst] at this
      simpa using this)
    have Hm0 : Hid (Mod (rfoot r H) w (w.setCell ⟨r, 1, none⟩ (.string D))) := hide ((Mod.refl _ _).setCell (.inl (by simp [rfoot])) _)
    have hf2 := h.blk.frozen 2
    have hst2 : o.st.length ≤ 65536 := by omega
    clear h h0 hE hg' hlow hbl hst hhl he hr
    have hDs : (⟨o.data.toArray⟩ : ByteArray).size = o.data.length := rfl
    go_enter Try.func39, Try.ntmps39
    go_wp2
    rw [← hD]
    clear hD hc1 hc2 hc3 hc4 hf1 hf2
    go_loopw [7] (fun i wr => ∃ (k : Nat) (V : Value), k ≤ s.size ∧ i = .int .i64 (k : Int) ∧ Blk wr r 50 #[.int .u64 (o.limit : Int), .string D, V, .int .i64 4, .bool false] ∧
        wr.ownsRow 0 3 1 V (o.st ++ List.replicate k (0 : UInt8)).length ((o.st ++ List.replicate k 0).map iv) ∧ Mod (rfoot r H) w wr ∧ ∀ j, V.ownBlock = some j → j ∈ rfoot r H ∨ w.heap.size ≤ j) (fun i _ => 70000 - (intOf i).toNat)
    case atStart => exact ⟨0, H, by omega, rfl, Hb0.out, Hw0.out, Hm0.out, fun j hj => .inl (by simp [rfoot, hj])⟩
    case round =>
      clear Hb0 Hw0 Hm0
      obtain ⟨k, V, hk, rfl, hb, hown, hmod, hfoot⟩ := hrel
      have hc2 : wr.cell? ⟨r, 2, none⟩ = some V := hb.cell 2
      have hc3 : wr.cell? ⟨r, 3, none⟩ = some (.int .i64 4) := hb.cell 3
      have hf2 := hb.frozen 2
      have hf3 := hb.frozen 3
      by_cases hlt : k < s.size
      · obtain ⟨N, hN⟩ : ∃ N, N = (o.st ++ List.replicate k (0 : UInt8) ++ [0]).length := ⟨_, rfl⟩
        obtain ⟨A3, c3, w7, hr3, ho3, hg3, hb3⟩ := rapp_one (wr.alloc (.cells #[.int .i64 0] 3)) 48 V (o.st ++ List.replicate k 0) 0 (hown.alloc _) (by simp only [List.length_append, List.length_replicate]; omega) wr.heap.size (World.cell?_alloc_new _ _ _ _) N hN
        have hbV : ∀ j, V.ownBlock = some j → j ≠ r := own_blk_ne hown hb (by decide)
        have hblt := hb.lt
        have m7 : Mod V.ownBlock.toList (wr.alloc (.cells #[.int .i64 0] 3)) w7 := Mod.of_grown hg3
        have k7 := m7.blk (hb.alloc (.cells #[.int .i64 0] 3)) (fun hm => hbV r (by simpa [Option.mem_toList] using hm) rfl)
        obtain ⟨V3, hV3⟩ : ∃ V3, V3 = Value.slice A3 N c3 := ⟨_, rfl⟩
        rw [← hV3] at ho3 hb3
        have hv3b : ∀ j, V3.ownBlock = some j → j ≠ r := fun j hj => by
          rcases hb3 with e | e
          · exact hbV j (by rw [← e, hj])
          · rw [e] at hj; cases hj; simp; omega
        have hms := hmod.size
        have hf' : ∀ j, V3.ownBlock = some j → j ∈ rfoot r H ∨ w.heap.size ≤ j := fun j hj => by
          rcases hb3 with e | e
          · exact hfoot j (by rw [← e, hj])
          · rw [e] at hj; cases hj; right; simp; omega
        have k8 := k7.set_ 2 V3
        have d8 := own_far (p := ⟨r, 2, none⟩) ho3 hv3b V3
        have m8 : Mod (rfoot r H) w (w7.setCell ⟨r, 2, none⟩ V3) := ((hmod.alloc _).trans m7 (fun x hx => hfoot x (by simpa [Option.mem_toList] using hx))).setCell (.inl (by simp [rfoot])) V3
        have g7 : w7.cell? ⟨r, 2, none⟩ = some V := k7.cell 2
        have f7 := k7.frozen 2
        have hN2 : o.st ++ List.replicate k (0 : UInt8) ++ [0] = o.st ++ List.replicate (k + 1) 0 := by rw [List.append_assoc, ← List.replicate_succ']
        rw [hN2] at d8 hN
        rw [hN] at d8
        have Hr3 := hide hr3
        have D8 := hide d8
        have K8 := hide k8
        have M8 := hide m8
        have F8 := hide hf'
        clear hN hr3 d8 k8 m8 hf' hv3b hms k7 m7 hbV ho3 hg3 hb3 hown hmod hfoot hb hN2 hc3 hf3
        subst hV3
        go_wp2_with (at_builtin; refine Lib.wpList_append_run _ rfl (.tmp 46) (.tmp 47) 48 48 rfl V (.slice (some ⟨wr.heap.size, 0, none⟩) 1 1) rfl rfl _ w7 Hr3.out ?_)
        go_roundw
        case rel => exact ⟨k + 1, _, by omega, by go_num, K8.out, D8.out, M8.out, F8.out⟩
        case measure => simp [intOf]; omega
      · obtain rfl : s.size = k := by omega
        have Hb := hide hb
        have Hown := hide hown
        have Hmod := hide hmod
        have Hfoot : Hid (∀ j ∈ rfoot r V, j ∈ rfoot r H ∨ w.heap.size ≤ j) := hide (fun j hj => by
          rcases List.mem_cons.1 hj with e | e
          · exact .inl (by simp [rfoot, e])
          · exact hfoot j (by simpa [Option.mem_toList] using e))
        clear hb hown hmod hfoot
        cases fin
        · go_wp2
          go_ret
          refine ⟨by rw [H0.out]; rfl, V, ⟨?_, ?_, Hg'.out⟩, Hmod.out, Hfoot.out⟩
          · rw [Hend.out, Hdat.out.1, Hdat.out.2.1, Hdat.out.2.2]; unfold str; rw [← HD.out]; exact Hb.out
          · rw [Hhow.out, Hdat.out.1, ← Hst'.out]; exact Hown.out
        · go_wp2
          go_ret
          refine ⟨by rw [H0.out]; rfl, V, ⟨?_, ?_, Hg'.out⟩, (Hmod.out).setCell (.inl (by simp [rfoot])) _, Hfoot.out⟩
          · rw [Hend.out, Hdat.out.1, Hdat.out.2.1, Hdat.out.2.2]; unfold str; rw [← HD.out]; exact Hb.out.set_ 3 _
          · rw [Hhow.out, Hdat.out.1, ← Hst'.out]; exact own_far Hown.out (own_blk_ne Hown.out Hb.out (by decide)) _
  · have hE : Hid (o.writeErr s.data.toList = (if o.ended || o.reset then 22 else 4) ∧ o.write s.data.toList fin = o) := hide (by
      constructor
      · unfold Ob.writeErr at h0 ⊢
        split
        · rfl
        · rename_i h1
          rw [if_neg h1] at h0
          split
          · rfl
          · rename_i h2; rw [if_neg h2] at h0; exact absurd rfl h0
      · unfold Ob.write; rw [if_neg h0])
    have Hf := hide (RStep.of_mod h (Mod.refl [] w))
    have hlong : o.ended = false → o.reset = false → 65536 < o.data.length + s.size := fun he hr => by
      unfold Ob.writeErr at h0
      rw [he, hr, hsl] at h0
      simp at h0
      omega
    have Hlong := hide hlong
    have hDs : (⟨o.data.toArray⟩ : ByteArray).size = o.data.length := rfl
    clear h0 h hsl hst hlong
    cases he : o.ended <;> rw [he] at hlow hE
    · simp only [Bool.false_eq_true, if_false] at hlow
      rw [hlow] at hc3
      cases hr : o.reset <;> rw [hr] at hc4 hE
      · have hlong := Hlong.out he hr
        clear he hr
        go_enter Try.func39, Try.ntmps39
        go_wp2
        go_ret
        exact ⟨by rw [hE.out.1]; rfl, by rw [hE.out.2]; exact Hf.out⟩
      · clear he hr
        go_enter Try.func39, Try.ntmps39
        go_wp2
        go_ret
        exact ⟨by rw [hE.out.1]; rfl, by rw [hE.out.2]; exact Hf.out⟩
    · simp only [if_true] at hlow
      obtain ⟨v, hv⟩ : ∃ v, o.endv = v := ⟨_, rfl⟩
      rw [hv] at hc3 hlow
      clear he hv
      go_enter Try.func39, Try.ntmps39
      go_wp2
      go_ret
      exact ⟨by rw [hE.out.1]; rfl, by rw [hE.out.2]; exact Hf.out⟩
end Go.Proofs.Ytnkhdipbljfohaa
