/-
  parameters: set.
-/
import Derived.Test.YtampdiplodhkbaaPmIds
namespace Go.Proofs.Ytampdiplodhkbaa
open Go.RowKit

def PP.setN (p : PP) (id v : Nat) : PP := { p with N := fun x => if x = id then v else p.N x }
def PP.set (p : PP) (id : Nat) (v : List UInt8) : PP × Bool :=
  if id = 0 ∨ id = 2 ∨ id = 13 ∨ id = 16 then (p, false)
  else if id = 12 then ({ p with mig := true }, v.isEmpty)
  else if id = 15 then ({ p with src := ⟨v.toArray⟩ }, true)
  else match pidx id with
    | none => (p, true)
    | some _ => (p.setN id (short v).n, (short v).ok && (short v).rest.isEmpty)
theorem pcells_setN (p : PP) (t v : Nat) (ht : t < 11) : (pcells p).setIfInBounds t (.int .u64 (v : Nat)) = pcells (p.setN (nkey t) v) := by
  have : t = 0 ∨ t = 1 ∨ t = 2 ∨ t = 3 ∨ t = 4 ∨ t = 5 ∨ t = 6 ∨ t = 7 ∨ t = 8 ∨ t = 9 ∨ t = 10 := by omega
  rcases this with rfl | rfl | rfl | rfl | rfl | rfl | rfl | rfl | rfl | rfl | rfl <;> simp [pcells, PP.setN, nkey]
theorem pcells_mig (p : PP) : (pcells p).setIfInBounds 11 (.bool true) = pcells { p with mig := true } := by simp [pcells]
theorem pcells_src (p : PP) (v : ByteArray) : (pcells p).setIfInBounds 12 (.string v) = pcells { p with src := v } := by simp [pcells]
theorem pcells_size (p : PP) : (pcells p).size = 13 := rfl
theorem eta_bytes (v : ByteArray) : (⟨v.data.toList.toArray⟩ : ByteArray) = v := by
  apply ByteArray.ext; simp

def SetPost (w : World) (b : Nat) (p : PP) (id : Nat) (v : ByteArray) (e : Ending) (w' : World) : Prop :=
  e = .returned (.bool (p.set id v.data.toList).2) ∧ Blk w' b 25 (pcells (p.set id v.data.toList).1) ∧ Mod [b] w w'
theorem SetPost.mk {w w' : World} {b : Nat} {p q : PP} {r s : Bool} {id : Nat} {v : ByteArray} (h : p.set id v.data.toList = (q, r)) (hs : s = r) (hb : Blk w' b 25 (pcells q)) (hm : Mod [b] w w') : SetPost w b p id v (.returned (.bool s)) w' := by
  subst hs
  unfold SetPost; rw [h]; exact ⟨rfl, hb, hm⟩

theorem numbers_keep (w a : World) (b k : Nat) (u : Value) (h : w.cell? ⟨k, 0, none⟩ = some u ∧ Mod [] a w) (hk : k < a.heap.size) :
    Calls Try.prog 28 #[.pointer (some ⟨b, 0, none⟩)] w fun e w' => ∃ m, e = .returned (.map (some m)) ∧ (w'.cell? ⟨k, 0, none⟩ = some u ∧ Mod [] a w') ∧ IMap w' m .u64 (numMap b) :=
  (numbers_any w b).mono fun e w' ⟨m, he, _, hmap, hm⟩ => ⟨m, he, ⟨(hm.cell (p := ⟨k, 0, none⟩) (Nat.lt_of_lt_of_le hk h.2.size) (by simp)).trans h.1, h.2.trans hm (by simp)⟩, hmap⟩
theorem ptrZero (w : World) : (zeroValue 68).run Try.prog w = .ok (.pointer none) w := by kernel_rfl

set_option maxRecDepth 100000 in
set_option maxHeartbeats 4000000 in
theorem set_any (w : World) (b : Nat) (p : PP) (id : Nat) (v : ByteArray) (hb : Blk w b 25 (pcells p)) (hv : v.size ≤ 4611686018427387903) :
    Calls Try.prog 25 #[.pointer (some ⟨b, 0, none⟩), .agg #[.int .u64 id, .string v]] w (SetPost w b p id v) := by
  have hb1 : Blk (w.alloc (.cells #[.int .u64 id, .string v] 60)) b 25 (pcells p) := hb.alloc _
  have hm1 : Mod [b] w (w.alloc (.cells #[.int .u64 id, .string v] 60)) := (Mod.refl _ _).alloc _
  have hbl := hb.lt
  have hf11 := hb.frozen 11
  have hf12 := hb.frozen 12
  have c11 : w.cell? ⟨b, 11, none⟩ = some (.bool p.mig) := hb.cell 11
  have c12 : w.cell? ⟨b, 12, none⟩ = some (.string p.src) := hb.cell 12
  have e1 : v.data.toList.length = v.size := Array.length_toList
  have hes := empty_size v
  have hve : v.data.toList.isEmpty = decide (v.size = 0) := by rw [← hes, Lib.toList_data]
  have HVE := hide hve
  clear hve e1
  by_cases h0 : id = 0 ∨ id = 2 ∨ id = 13 ∨ id = 16
  · have H : Hid (p.set id v.data.toList = (p, false)) := hide (by unfold PP.set; rw [if_pos h0])
    have HB := hide hb1
    clear hb1 hb hes
    rcases h0 with rfl | rfl | rfl | rfl
    all_goals
      go_enter Try.func25, Try.ntmps25
      go_wp2_with fail
      go_ret
      exact SetPost.mk H.out rfl HB.out hm1
  by_cases h12 : id = 12
  · subst h12
    have H : Hid (p.set 12 v.data.toList = ({ p with mig := true }, decide (v.size = 0))) := hide (by rw [← HVE.out]; rfl)
    have hb2 := hb.set_ 11 (.bool true)
    rw [pcells_mig] at hb2
    have HB := hide (hb2.alloc (.cells #[.int .u64 12, .string v] 60))
    have hm2 := ((Mod.refl [b] w).setCell (p := ⟨b, 11, none⟩) (.inl (by simp)) (.bool true)).alloc (.cells #[.int .u64 12, .string v] 60)
    clear hb1 hb hm1 hb2
    cases hd : decide (v.size = 0)
    all_goals
      rw [hd] at hes H
      clear hd
      go_enter Try.func25, Try.ntmps25
      go_wp2_with fail
      go_ret
      exact SetPost.mk H.out rfl HB.out hm2
  by_cases h15 : id = 15
  · subst h15
    have H : Hid (p.set 15 v.data.toList = ({ p with src := v }, true)) := hide (by
      show ({ p with src := ⟨v.data.toList.toArray⟩ }, true) = _
      rw [eta_bytes])
    have hb2 := hb.set_ 12 (.string v)
    rw [pcells_src] at hb2
    have HB := hide (hb2.alloc (.cells #[.int .u64 15, .string v] 60))
    have hm2 := ((Mod.refl [b] w).setCell (p := ⟨b, 12, none⟩) (.inl (by simp)) (.string v)).alloc (.cells #[.int .u64 15, .string v] 60)
    clear hb1 hb hm1 hb2 hes
    go_enter Try.func25, Try.ntmps25
    go_wp2_with fail
    go_ret
    exact SetPost.mk H.out rfl HB.out hm2
  have H : Hid (p.set id v.data.toList = match pidx id with
    | none => (p, true)
    | some _ => (p.setN id (short v.data.toList).n, (short v.data.toList).ok && (short v.data.toList).rest.isEmpty)) := hide (by
      unfold PP.set; rw [if_neg h0, if_neg h12, if_neg h15])
  have n0 : ((id : Int) == 0) = false := by simp; omega
  have n2 : ((id : Int) == 2) = false := by simp; omega
  have n13 : ((id : Int) == 13) = false := by simp; omega
  have n16 : ((id : Int) == 16) = false := by simp; omega
  have n12 : ((id : Int) == 12) = false := by simp; omega
  have n15 : ((id : Int) == 15) = false := by simp; omega
  have hx : Blk (w.alloc (.cells #[.int .u64 id, .string v] 60)) w.heap.size 60 #[.int .u64 id, .string v] := Blk.new _ _ _
  have hN := num_any
  have HX := hide hx
  have HB0 := hide hb
  have HB := hide hb1
  have HN := hide hN
  clear h0 h12 h15 hb hb1 hx hf11 hf12 c11 c12 hes hN
  cases hp : pidx id with
  | none =>
    rw [hp] at H
    have HE : Hid (numMap b id = none) := hide (by unfold numMap; rw [hp]; rfl)
    clear hp HN
    go_enter Try.func25, Try.ntmps25
    go_wp2_with fail
    have hS : (w.alloc (.cells #[.int .u64 id, .string v] 60)).drew.cell? ⟨w.heap.size, 0, none⟩ = some (.int .u64 id) ∧ Mod [] (w.alloc (.cells #[.int .u64 id, .string v] 60)) (w.alloc (.cells #[.int .u64 id, .string v] 60)).drew := ⟨HX.out.cell 0, (Mod.refl _ _).drew⟩
    obtain ⟨wa, hwa⟩ : ∃ wa, w.alloc (.cells #[.int .u64 id, .string v] 60) = wa := ⟨_, rfl⟩
    rw [hwa] at hS HX HB hm1 ⊢
    have hwl := HX.out.lt
    clear hwa
    have HS := hide hS
    clear hS
    go_region_held3 (fun w' => w'.cell? ⟨w.heap.size, 0, none⟩ = some (.int .u64 id) ∧ Mod [] wa w')
      (first | exact HS.out | assumption)
      (first
        | (go_at_call 28; refine (numbers_keep _ wa b w.heap.size (.int .u64 id) (by assumption) (by assumption)).mono ?_; rintro e w' ⟨m, rfl, hS', hmap⟩; have hlk := hmap.lookup_ok (P := Try.prog) Try.underlying65 Try.underlying23 (ptrZero w') id; rw [HE.out] at hlk; simp only [Option.getD_none, Option.isSome_none] at hlk))
    obtain ⟨c0, hm2⟩ := hS'
    have hb3 := hm2.blk HB.out (by simp)
    replace hm2 := hm1.trans hm2 (by simp)
    clear hlk hmap
    have HB3 := hide hb3
    clear hb3
    go_wp2_with fail
    go_ret
    exact SetPost.mk H.out rfl HB3.out hm2
  | some t =>
    obtain ⟨ht, hk⟩ := pidx_some hp
    have hidn : id = nkey t := by omega
    have hset := pcells_setN p t (short v.data.toList).n ht
    have hat := pcells_at p t ht
    rw [← hidn] at hset hat
    rw [hp] at H
    have HE : Hid (numMap b id = some (pptr b t)) := hide (by unfold numMap; rw [hp]; rfl)
    have HSet := hide hset
    have HAt := hide hat
    clear hp hk hidn hset hat
    go_enter Try.func25, Try.ntmps25
    go_wp2_with fail
    have hS : (w.alloc (.cells #[.int .u64 id, .string v] 60)).drew.cell? ⟨w.heap.size, 0, none⟩ = some (.int .u64 id) ∧ Mod [] (w.alloc (.cells #[.int .u64 id, .string v] 60)) (w.alloc (.cells #[.int .u64 id, .string v] 60)).drew := ⟨HX.out.cell 0, (Mod.refl _ _).drew⟩
    obtain ⟨wa, hwa⟩ : ∃ wa, w.alloc (.cells #[.int .u64 id, .string v] 60) = wa := ⟨_, rfl⟩
    rw [hwa] at hS HX HB hm1 ⊢
    have hwl := HX.out.lt
    clear hwa
    have HS := hide hS
    clear hS
    go_region_held3 (fun w' => w'.cell? ⟨w.heap.size, 0, none⟩ = some (.int .u64 id) ∧ Mod [] wa w')
      (first | exact HS.out | assumption)
      (first
        | (go_at_call 28; refine (numbers_keep _ wa b w.heap.size (.int .u64 id) (by assumption) (by assumption)).mono ?_; rintro e w' ⟨m, rfl, hS', hmap⟩; have hlk := hmap.lookup_ok (P := Try.prog) Try.underlying65 Try.underlying23 (ptrZero w') id; rw [HE.out] at hlk; simp only [Option.getD_some, Option.isSome_some, pptr] at hlk))
    obtain ⟨c0, hm2⟩ := hS'
    have hb3 := hm2.blk HB.out (by simp)
    have hx3 := hm2.blk HX.out (by simp)
    replace hm2 := hm1.trans hm2 (by simp)
    clear hlk hmap
    have c1 : w'.cell? ⟨w.heap.size, 1, none⟩ = some (.string v) := hx3.cell 1
    have HB3 := hide hb3
    clear hb3 hx3
    obtain ⟨n, hn⟩ : ∃ n, (short v.data.toList).n = n := ⟨_, rfl⟩
    obtain ⟨R, hR⟩ : ∃ R : ByteArray, R = ⟨(short v.data.toList).rest.toArray⟩ := ⟨_, rfl⟩
    obtain ⟨k, hk⟩ : ∃ k, (short v.data.toList).ok = k := ⟨_, rfl⟩
    have hRe : (short v.data.toList).rest.isEmpty = R.toList.isEmpty := by rw [Lib.toList_data, hR]
    have hR2 : str (short v.data.toList).rest = .string R := by rw [hR]; rfl
    have hNv := fun w => HN.out w v hv
    rw [hn, hR2, hk] at hNv
    rw [hn, hk, hRe] at H
    rw [hn] at HSet
    have HNv := hide hNv
    clear hNv hR hR2 hRe hn hk HN
    go_wp2_with fail
    refine (HNv.out w').mono ?_
    rintro e w2 ⟨rfl, m2⟩
    have hb4 := m2.blk HB3.out (by simp)
    replace hm2 := hm2.trans m2 (by simp)
    have c2 := (hb4.cell t).trans HAt.out
    have hf := hb4.frozen t
    have hbl2 := hb4.lt
    have hb5 := hb4.set_ t (.int .u64 (n : Nat))
    rw [HSet.out] at hb5
    have HB5 := hide hb5
    have hm5 := hm2.setCell (p := ⟨b, t, none⟩) (.inl (by simp)) (.int .u64 (n : Nat))
    clear hb4 hb5 m2
    cases k
    all_goals
      cases hre : R.toList.isEmpty
      all_goals
        rw [hre] at H
        go_wp2_with fail
        go_ret
        exact SetPost.mk H.out rfl HB5.out hm5
end Go.Proofs.Ytampdiplodhkbaa
