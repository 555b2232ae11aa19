/-
  parameters: same; the document's Write.
-/
import Derived.Test.YtampdiplodhkbaaPmRef2
namespace Go.Proofs.Ytampdiplodhkbaa
open Go.RowKit

theorem ppart_0 (p : PP) : ppart p 0 = [] := rfl
theorem pone_12 : pone 12 [] = [12, 0] := by decide +kernel
theorem pone_15 (v : List UInt8) : pone 15 v = 15 :: (vputS v.length ++ v) := by
  unfold pone
  have : vputS 15 = [15] := by decide +kernel
  rw [this]; rfl
theorem ppart_15 (p : PP) : ppart p 15 = pone 15 p.src.data.toList := rfl
theorem ppart_12 (p : PP) (b : Bool) (h : p.mig = b) : ppart p 12 = if b then [12, 0] else [] := by
  have : pbytes p (12 : Nat) = if p.mig then some [] else none := rfl
  unfold ppart
  rw [this, h]
  cases b
  · rfl
  · show pone 12 [] = _
    rw [pone_12]; rfl
theorem ppart_num {p : PP} {id t : Nat} (h : pidx id = some t) : ppart p id = if p.N id = (pfirst ⟨#[]⟩).N id then [] else pone id (vputS (p.N id)) := by
  obtain ⟨ht, he⟩ := pidx_some h
  have e : id = nkey t := by omega
  obtain ⟨n0, n2, n13, n16, n12, n15⟩ := pidx_not h
  have : pbytes p (id : Int) = if p.N id = (pfirst ⟨#[]⟩).N id then none else some (vputS (p.N id)) := by
    unfold pbytes
    rw [if_neg (by omega), if_neg (by omega), h]
    simp only
    rw [← e]
  unfold ppart
  rw [this]
  split <;> simp_all
theorem ppart_out {p : PP} {id : Nat} (h : pidx id = none) (h12 : id ≠ 12) (h15 : id ≠ 15) : ppart p id = [] := by
  have : pbytes p (id : Int) = none := by
    unfold pbytes
    rw [if_neg (by omega), if_neg (by omega), h]
  unfold ppart
  rw [this]
theorem range_step (p : PP) (id : Nat) : (List.range (id + 1)).flatMap (ppart p) = (List.range id).flatMap (ppart p) ++ ppart p id := by
  rw [List.range_succ, List.flatMap_append]; simp
theorem pwrite_last (p : PP) : pwrite p = (List.range 15).flatMap (ppart p) ++ pone 15 p.src.data.toList := by
  unfold pwrite
  rw [range_step, ppart_15]
theorem acc_le (p : PP) (hs : p.src.size ≤ 65536) (id : Nat) (hid : id ≤ 15) : ((List.range id).flatMap (ppart p)).length ≤ 1000000 := by
  have e1 := flat_le (ppart p) 65600 (List.range id) (fun x _ => by have := ppart_le p x; omega)
  rw [List.length_range] at e1
  have : id * 65600 ≤ 15 * 65600 := Nat.mul_le_mul_right _ hid
  omega

theorem rpput_keep (w a : World) (n k : Nat) (u : Value) (V : ByteArray) (hV : str (vputS n) = .string V) (h : w.cell? ⟨k, 2, none⟩ = some u ∧ Mod [] a w) (hk : k < a.heap.size) :
    Calls Try.prog 35 #[.int .u64 n] w fun e w' => e = .returned (.string V) ∧ (w'.cell? ⟨k, 2, none⟩ = some u ∧ Mod [] a w') :=
  (rpput_any w n).mono fun e w' ⟨he, hm⟩ => ⟨by rw [he, hV], ⟨(hm.cell (p := ⟨k, 2, none⟩) (Nat.lt_of_lt_of_le hk h.2.size) (by simp)).trans h.1, h.2.trans hm (by simp)⟩⟩

set_option maxRecDepth 100000 in
set_option maxHeartbeats 8000000 in
theorem rwrite_any (w : World) (g : Nat) (p : PP) (hs : p.Std) (hsz : p.src.size ≤ 65536) (hb : Blk w g 23 (rcells p)) :
    Calls Try.prog 16 #[rval g p] w (WritePost w (may p) (pwrite p)) := by
  have hmay := rmay_any (w.alloc (.cells #[.slice (some ⟨g, 0, none⟩) 15 15, .bool p.mig, .string p.src] 31)) g p hs (hb.alloc _)
  have HMay := hide hmay
  have HStd := hide hs
  have HB := hide hb
  have hgl := hb.lt
  have hx0 : Blk (w.alloc (.cells #[.slice (some ⟨g, 0, none⟩) 15 15, .bool p.mig, .string p.src] 31)) w.heap.size 31 #[.slice (some ⟨g, 0, none⟩) 15 15, .bool p.mig, .string p.src] := Blk.new _ _ _
  have HX0 := hide hx0
  clear hmay hs hb hx0
  unfold rval at *
  go_enter Try.func16, Try.ntmps16
  go_wp2_with fail
  refine HMay.out.mono ?_
  rintro e w1 ⟨rfl, m1⟩
  have hm : Mod [] w w1 := ((Mod.refl [] w).alloc _).trans m1 (by simp)
  have hx := m1.blk HX0.out (by simp)
  have hb := hm.blk HB.out (by simp)
  clear HX0 HB HMay m1
  cases hmy : may p
  · have Hmy := hide hmy
    clear hmy
    go_wp2_with fail
    go_ret2
    exact WritePost.no Hmy.out hm rfl
  have Hmy := hide hmy
  have HX := hide hx
  have HB := hide hb
  clear hmy hx hb
  go_wp2_with fail
  refine (rfirst_any _ _).mono ?_
  rintro e w2 ⟨g2, rfl, hf, hg2, m2⟩
  replace hm := hm.trans m2 (by simp)
  have hx := m2.blk HX.out (by simp)
  have hb := m2.blk HB.out (by simp)
  clear HX HB
  unfold rval
  go_wp2_with fail
  have hfb : Blk (w2.alloc (.cells #[.slice (some ⟨g2, 0, none⟩) 15 15, .bool (pfirst ⟨#[]⟩).mig, .string (pfirst ⟨#[]⟩).src] 31)) w2.heap.size 31 #[.slice (some ⟨g2, 0, none⟩) 15 15, .bool (pfirst ⟨#[]⟩).mig, .string (pfirst ⟨#[]⟩).src] := Blk.new _ _ _
  replace hm := hm.alloc (.cells #[.slice (some ⟨g2, 0, none⟩) 15 15, .bool (pfirst ⟨#[]⟩).mig, .string (pfirst ⟨#[]⟩).src] 31)
  replace hx := hx.alloc (.cells #[.slice (some ⟨g2, 0, none⟩) 15 15, .bool (pfirst ⟨#[]⟩).mig, .string (pfirst ⟨#[]⟩).src] 31)
  replace hb := hb.alloc (.cells #[.slice (some ⟨g2, 0, none⟩) 15 15, .bool (pfirst ⟨#[]⟩).mig, .string (pfirst ⟨#[]⟩).src] 31)
  replace hf := hf.alloc (.cells #[.slice (some ⟨g2, 0, none⟩) 15 15, .bool (pfirst ⟨#[]⟩).mig, .string (pfirst ⟨#[]⟩).src] 31)
  obtain ⟨w3, hw3⟩ : ∃ w3, w2.alloc (.cells #[.slice (some ⟨g2, 0, none⟩) 15 15, .bool (pfirst ⟨#[]⟩).mig, .string (pfirst ⟨#[]⟩).src] 31) = w3 := ⟨_, rfl⟩
  rw [hw3] at hfb hm hx hb hf ⊢
  obtain ⟨fb, hfbe⟩ : ∃ fb, w2.heap.size = fb := ⟨_, rfl⟩
  rw [hfbe] at hfb ⊢
  have HX := hide hx
  have HB := hide hb
  have HF := hide hf
  have HFB := hide hfb
  have HM := hide hm
  clear hx hb hf hfb hm hw3 hfbe m2 hg2
  go_loopw [4, 6] (fun ov iv wr => ∃ (id : Nat) (O : ByteArray), 1 ≤ id ∧ id ≤ 15 ∧ iv = .int .u64 (id : Int) ∧ ov = .string O ∧ O.data.toList = (List.range id).flatMap (ppart p) ∧ Mod [] w3 wr) (fun _ iv _ => 15 - (intOf iv).toNat)
  case atStart => exact ⟨1, ⟨#[]⟩, by omega, by omega, rfl, rfl, rfl, Mod.refl _ _⟩
  case round =>
    obtain ⟨id, O, h1, h15, rfl, rfl, hO, hm⟩ := hrel
    have hOs : O.size ≤ 1000000 := by rw [← bytes_len, hO]; exact acc_le p hsz id h15
    have hx := hm.blk HX.out (by simp)
    have hb := hm.blk HB.out (by simp)
    have hf := hm.blk HF.out (by simp)
    have hfb := hm.blk HFB.out (by simp)
    have hxl := hx.lt
    have hbl := hb.lt
    have hfl := hf.lt
    have hfbl := hfb.lt
    have x0 : wr.cell? ⟨w.heap.size, 0, none⟩ = some (.slice (some ⟨g, 0, none⟩) 15 15) := hx.cell 0
    have x1 : wr.cell? ⟨w.heap.size, 1, none⟩ = some (.bool p.mig) := hx.cell 1
    have x2 : wr.cell? ⟨w.heap.size, 2, none⟩ = some (.string p.src) := hx.cell 2
    have y0 : wr.cell? ⟨fb, 0, none⟩ = some (.slice (some ⟨g2, 0, none⟩) 15 15) := hfb.cell 0
    by_cases h : id < 15
    · have z0 := (hb.cell id).trans (rcells_at HStd.out h)
      have z1 := (hf.cell id).trans (rcells_at (first_std _) h)
      have hstep := range_step p id
      obtain ⟨n, hn⟩ : ∃ n, p.N id = n := ⟨_, rfl⟩
      obtain ⟨m, hmn⟩ : ∃ n, (pfirst ⟨#[]⟩).N id = n := ⟨_, rfl⟩
      rw [hn] at z0
      rw [hmn] at z1
      have hlt : (id : Int) < 15 := by omega
      cases hp : pidx (id : Int) with
      | none =>
        have hnum := fun w => rnumber_any w id false (by rw [hp]; rfl)
        have HNum := hide hnum
        by_cases h12 : id = 12
        · subst h12
          obtain ⟨mg, hmg⟩ : ∃ b, p.mig = b := ⟨_, rfl⟩
          rw [ppart_12 p mg hmg, ← hO] at hstep
          rw [hmg] at x1
          have HS := hide hstep
          clear hnum hp hmg hn hmn hO hstep hx hb hf hfb
          cases mg
          · go_wp2_with fail
            go_quiet ((go_at_call 26; exact Calls.quiet_of_same (HNum.out _)))
            go_wp2_with fail
            go_roundw
            case rel => exact ⟨13, O, by omega, by omega, by go_num, by trivial, by rw [HS.out]; simp, hm.drewN _⟩
            case measure => simp [intOf]
          · have hq : O.size + (⟨#[12, 0]⟩ : ByteArray).size ≤ 9223372036854775807 := by show O.size + 2 ≤ _; omega
            go_wp2_with fail
            go_quiet ((go_at_call 26; exact Calls.quiet_of_same (HNum.out _)))
            go_wp2_with fail
            go_roundw
            case rel => exact ⟨13, O ++ ⟨#[12, 0]⟩, by omega, by omega, by go_num, by trivial, by rw [HS.out]; simp, hm.drewN _⟩
            case measure => simp [intOf]
        · rw [ppart_out hp h12 (by omega), ← hO] at hstep
          have HS := hide hstep
          have b12 : ((id : Int) == 12) = false := by simp; omega
          clear hnum hp hn hmn hO hstep hx hb hf hfb h12
          go_wp2_with fail
          go_quiet ((go_at_call 26; exact Calls.quiet_of_same (HNum.out _)))
          go_wp2_with fail
          go_roundw
          case rel => exact ⟨id + 1, O, by omega, by omega, by go_num, by trivial, by rw [HS.out]; simp, hm.drewN _⟩
          case measure => simp [intOf]; omega
      | some t =>
        have hnum := fun w => rnumber_any w id true (by rw [hp]; rfl)
        have HNum := hide hnum
        have h12 : id ≠ 12 := (pidx_not hp).2.2.2.2.1
        have b12 : ((id : Int) == 12) = false := by simp; omega
        rw [ppart_num hp, hn, hmn, ← hO] at hstep
        by_cases hnm : n = m
        · subst hnm
          rw [if_pos rfl] at hstep
          have HS := hide hstep
          clear hnum hp hn hmn hO hstep hx hb hf hfb h12
          go_wp2_with fail
          go_quiet ((go_at_call 26; exact Calls.quiet_of_same (HNum.out _)))
          go_wp2_with fail
          go_roundw
          case rel => exact ⟨id + 1, O, by omega, by omega, by go_num, by trivial, by rw [HS.out]; simp, hm.drewN _⟩
          case measure => simp [intOf]; omega
        · rw [if_neg hnm] at hstep
          have hb1 : ((n : Int) != (m : Int)) = true := by simp; omega
          have hb2 : (n != m) = true := by simpa using hnm
          obtain ⟨V, hV⟩ : ∃ V : ByteArray, V = ⟨(vputS n).toArray⟩ := ⟨_, rfl⟩
          obtain ⟨A1, hA⟩ : ∃ A : ByteArray, A = ⟨(vputS id).toArray⟩ := ⟨_, rfl⟩
          obtain ⟨B1, hB⟩ : ∃ A : ByteArray, A = ⟨(vputS V.size).toArray⟩ := ⟨_, rfl⟩
          have hVs : V.size ≤ 8 := by rw [hV]; exact vputS_le _
          have hAs : A1.size ≤ 8 := by rw [hA]; exact vputS_le _
          have hBs : B1.size ≤ 8 := by rw [hB]; exact vputS_le _
          have P1 := hide (fun w => rpput_any w n)
          have P2 := hide (fun w => rpput_any w id)
          have P3 := hide (fun w => rpput_any w V.size)
          have HV : Hid (str (vputS n) = .string V) := hide (by rw [hV]; rfl)
          have HA : Hid (str (vputS id) = .string A1) := hide (by rw [hA]; rfl)
          have HBB : Hid (str (vputS V.size) = .string B1) := hide (by rw [hB]; rfl)
          have hVl : (vputS n).length = V.size := by rw [hV]; rfl
          have HS : Hid ((List.range (id + 1)).flatMap (ppart p) = (O ++ (A1 ++ B1 ++ V)).data.toList) := hide (by
            rw [hstep]
            unfold pone
            rw [hVl, hA, hB]
            simp [hV])
          have hq1 : A1.size + B1.size ≤ 9223372036854775807 := by omega
          have hq2 : (A1 ++ B1).size + V.size ≤ 9223372036854775807 := by simp; omega
          have hq3 : O.size + (A1 ++ B1 ++ V).size ≤ 9223372036854775807 := by simp; omega
          clear hnum hp hn hmn hO hstep h12 hV hA hB hVl hnm
          go_wp2_with fail
          go_quiet ((go_at_call 26; exact Calls.quiet_of_same (HNum.out _)))
          go_wp2_with fail
          have hm0 := hm.drewN nq
          refine (P1.out _).mono ?_
          rintro e w5 ⟨rfl, m5⟩
          rw [HV.out]
          replace hm0 := hm0.trans m5 (by simp)
          clear x0 x1 x2 y0 z0 z1
          have hx5 := hm0.blk HX.out (by simp)
          have x1 : w5.cell? ⟨w.heap.size, 1, none⟩ = some (.bool p.mig) := hx5.cell 1
          clear m5 hx hb hf hfb hx5
          go_wp2_with fail
          refine (P2.out _).mono ?_
          rintro e w6 ⟨rfl, m6⟩
          rw [HA.out]
          go_wp2_with fail
          refine (P3.out _).mono ?_
          rintro e w7 ⟨rfl, m7⟩
          rw [HBB.out]
          replace hm0 := (hm0.trans m6 (by simp)).trans m7 (by simp)
          clear m6 m7 x1
          go_wp2_with fail
          go_roundw
          case rel => exact ⟨id + 1, O ++ (A1 ++ B1 ++ V), by omega, by omega, by go_num, by trivial, HS.out.symm, hm0⟩
          case measure => simp [intOf]; omega
    · have e15 : id = 15 := by omega
      subst e15
      have hps : p.src.data.toList.length = p.src.size := bytes_len _
      obtain ⟨B1, hB⟩ : ∃ A : ByteArray, A = ⟨(vputS p.src.size).toArray⟩ := ⟨_, rfl⟩
      have hBs : B1.size ≤ 8 := by rw [hB]; exact vputS_le _
      have HBB : Hid (str (vputS p.src.size) = .string B1) := hide (by rw [hB]; rfl)
      have hfin : pwrite p = (O ++ ⟨#[15]⟩ ++ B1 ++ p.src).data.toList := by
        rw [pwrite_last, ← hO, pone_15, hps, hB]
        simp
      have hq1 : O.size + (⟨#[15]⟩ : ByteArray).size ≤ 9223372036854775807 := by show O.size + 1 ≤ _; omega
      have hq2 : (O ++ ⟨#[15]⟩ : ByteArray).size + B1.size ≤ 9223372036854775807 := by
        have : (O ++ ⟨#[15]⟩ : ByteArray).size = O.size + 1 := by rw [ByteArray.size_append]; rfl
        omega
      have hq3 : (O ++ ⟨#[15]⟩ ++ B1 : ByteArray).size + p.src.size ≤ 9223372036854775807 := by
        have : (O ++ ⟨#[15]⟩ ++ B1 : ByteArray).size = O.size + 1 + B1.size := by rw [ByteArray.size_append, ByteArray.size_append]; rfl
        omega
      have hq4 : ¬ 9223372036854775807 < O.size + 1 := by omega
      have hq5 : ¬ 9223372036854775807 < O.size + 1 + B1.size := by omega
      have hq6 : ¬ 9223372036854775807 < O.size + 1 + B1.size + p.src.size := by omega
      have hwl : IntKind.u64.wrap (p.src.size : Int) = p.src.size := IntWalk.u64_in _ (by omega)
      have HFin := hide hfin
      have hS : wr.drew.cell? ⟨w.heap.size, 2, none⟩ = some (.string p.src) ∧ Mod [] wr wr.drew := ⟨x2, (Mod.refl _ _).drew⟩
      have HS := hide hS
      clear hO hps hB hfin hx hb hf hfb hS x0 x1 y0
      go_wp2_with fail
      go_region_held3 (fun w' => w'.cell? ⟨w.heap.size, 2, none⟩ = some (.string p.src) ∧ Mod [] wr w')
        (first | exact HS.out | assumption)
        (first
          | (go_at_call 35; refine (rpput_keep _ wr p.src.size w.heap.size (.string p.src) B1 HBB.out (by assumption) (by assumption)).mono ?_; rintro e w' ⟨rfl, hS'⟩))
      all_goals
        go_wp2_with fail
        go_ret2
        refine WritePost.yes Hmy.out ((HM.out.trans hm (by simp)).trans hS'.2 (by simp)) ?_
        rw [HFin.out]
        unfold str
        rw [eta_bytes]
        rfl

set_option maxRecDepth 100000 in
set_option maxHeartbeats 4000000 in
theorem same_zero (w : World) : Calls Try.prog 14 #[pval pzero, .agg #[.slice none 0 0, .bool false, .string ⟨#[]⟩]] w fun e w' => e = .returned (.bool true) ∧ Mod [] w w' := by
  rw [pz_val]
  go_enter Try.func14, Try.ntmps14
  go_wp2_with fail
  go_ret
  exact ⟨rfl, ((Mod.refl _ _).alloc _).alloc _⟩

set_option maxRecDepth 100000 in
set_option maxHeartbeats 4000000 in
theorem same_any (w : World) (g : Nat) (p : PP) (hs : p.Std) (hb : Blk w g 23 (rcells p)) :
    Calls Try.prog 14 #[pval p, rval g p] w fun e w' => e = .returned (.bool true) ∧ Mod [] w w' := by
  have HStd := hide hs
  have hb1 := (hb.alloc (.cells (pcells p) 25)).alloc (.cells #[.slice (some ⟨g, 0, none⟩) 15 15, .bool p.mig, .string p.src] 31)
  have hx : Blk ((w.alloc (.cells (pcells p) 25)).alloc (.cells #[.slice (some ⟨g, 0, none⟩) 15 15, .bool p.mig, .string p.src] 31)) (w.heap.size + 1) 31 #[.slice (some ⟨g, 0, none⟩) 15 15, .bool p.mig, .string p.src] := by
    have := Blk.new (w.alloc (.cells (pcells p) 25)) 31 #[.slice (some ⟨g, 0, none⟩) 15 15, .bool p.mig, .string p.src]
    rw [World.size_alloc] at this
    exact this
  have hm : Mod [] w ((w.alloc (.cells (pcells p) 25)).alloc (.cells #[.slice (some ⟨g, 0, none⟩) 15 15, .bool p.mig, .string p.src] 31)) := ((Mod.refl _ _).alloc _).alloc _
  have HB1 := hide hb1
  have HX := hide hx
  have HM := hide hm
  have hgl := hb.lt
  clear hs hb hb1 hx hm
  unfold pval rval
  unfold pcells at *
  go_enter Try.func14, Try.ntmps14
  go_wp2_with fail
  obtain ⟨w1, hw1⟩ : ∃ w1, (w.alloc (.cells (pcells p) 25)).alloc (.cells #[.slice (some ⟨g, 0, none⟩) 15 15, .bool p.mig, .string p.src] 31) = w1 := ⟨_, rfl⟩
  unfold pcells at hw1
  rw [hw1] at HB1 HX HM ⊢
  refine (own_any w1 p).mono ?_
  rintro e w2 ⟨g2, rfl, hb2, hg2, m2⟩
  have hm := HM.out.trans m2 (by simp)
  have hb1 := m2.blk HB1.out (by simp)
  have hx := m2.blk HX.out (by simp)
  clear hw1 HB1 HX HM
  unfold rval
  have HB1 := hide hb1
  have HX := hide hx
  have HB2 := hide hb2
  have HM := hide hm
  clear hb1 hx hb2 hm m2
  go_wp2_with fail
  have hfb : Blk (w2.alloc (.cells #[.slice (some ⟨g2, 0, none⟩) 15 15, .bool p.mig, .string p.src] 31)) w2.heap.size 31 #[.slice (some ⟨g2, 0, none⟩) 15 15, .bool p.mig, .string p.src] := Blk.new _ _ _
  have hm := HM.out.alloc (.cells #[.slice (some ⟨g2, 0, none⟩) 15 15, .bool p.mig, .string p.src] 31)
  have hb1 := HB1.out.alloc (.cells #[.slice (some ⟨g2, 0, none⟩) 15 15, .bool p.mig, .string p.src] 31)
  have hb2 := HB2.out.alloc (.cells #[.slice (some ⟨g2, 0, none⟩) 15 15, .bool p.mig, .string p.src] 31)
  have hx := HX.out.alloc (.cells #[.slice (some ⟨g2, 0, none⟩) 15 15, .bool p.mig, .string p.src] 31)
  obtain ⟨w3, hw3⟩ : ∃ w3, w2.alloc (.cells #[.slice (some ⟨g2, 0, none⟩) 15 15, .bool p.mig, .string p.src] 31) = w3 := ⟨_, rfl⟩
  rw [hw3] at hfb hm hb1 hb2 hx ⊢
  obtain ⟨fb, hfe⟩ : ∃ fb, w2.heap.size = fb := ⟨_, rfl⟩
  rw [hfe] at hfb ⊢
  have hl1 := hb1.lt
  have hl2 := hb2.lt
  have hlx := hx.lt
  have hlf := hfb.lt
  have x0 : w3.cell? ⟨w.heap.size + 1, 0, none⟩ = some (.slice (some ⟨g, 0, none⟩) 15 15) := hx.cell 0
  have x1 : w3.cell? ⟨w.heap.size + 1, 1, none⟩ = some (.bool p.mig) := hx.cell 1
  have x2 : w3.cell? ⟨w.heap.size + 1, 2, none⟩ = some (.string p.src) := hx.cell 2
  have y0 : w3.cell? ⟨fb, 0, none⟩ = some (.slice (some ⟨g2, 0, none⟩) 15 15) := hfb.cell 0
  have y1 : w3.cell? ⟨fb, 1, none⟩ = some (.bool p.mig) := hfb.cell 1
  have y2 : w3.cell? ⟨fb, 2, none⟩ = some (.string p.src) := hfb.cell 2
  have H1 := hide (fun i hi => (hb1.cell i).trans (rcells_at HStd.out (i := i) hi))
  have H2 := hide (fun i hi => (hb2.cell i).trans (rcells_at HStd.out (i := i) hi))
  have HM3 := hide hm
  clear HB1 HX HB2 HM hfb hm hb1 hb2 hx hw3 hfe hg2
  go_wp2_with fail
  go_loopw [19] (fun iv wr => ∃ j : Nat, j ≤ 15 ∧ iv = .int .i64 (j : Int) ∧ ∃ k, wr = w3.drewN k) (fun iv _ => 15 - (intOf iv).toNat)
  case atStart => exact ⟨0, by omega, rfl, 0, rfl⟩
  case round =>
    obtain ⟨j, hj, rfl, k, rfl⟩ := hrel
    by_cases h : j < 15
    · have c1 := H1.out j h
      have c2 := H2.out j h
      obtain ⟨n, hn⟩ : ∃ n, p.N j = n := ⟨_, rfl⟩
      rw [hn] at c1 c2
      clear hn
      go_wp2_with fail
      go_quiet (fail)
      go_wp2_with fail
      go_roundw
      case rel => exact ⟨j + 1, by omega, by go_num, by first | exact ⟨_, rfl⟩ | exact ⟨_, World.drewN_drewN _ _ _⟩⟩
      case measure => simp [intOf]; omega
    · have hj15 : j = 15 := by omega
      subst hj15
      go_wp2_with fail
      go_ret
      exact ⟨rfl, HM3.out.drewN _⟩
end Go.Proofs.Ytampdiplodhkbaa
