/-
  Contracts and plain laws that the proofs of this seat share, part 6 of 8: VarR, FrRdF, FrRdS, FrRdSh, FrRdR, FrRdR2.
-/
import Derived.Test.YtbjmcnmcodbkdaaDoorG1
import Derived.Test.YtbjmcnmcodbkdaaDoorG2
import Derived.Test.YtbjmcnmcodbkdaaDoorG5

/-
  varints: the walks of the document's package: bytes, laid, most, Put, Take.
-/
namespace Go.Proofs.YtbjmcnmcodbkdaaDoor
open Go.RowKit

set_option maxRecDepth 100000 in
set_option maxHeartbeats 1000000 in
theorem rbytes_any (w : World) (n : Nat) (hn : n ≤ 18446744073709551615) (k : Nat) (hk : k ≤ 8) :
    Calls Tryd.prog 88 #[.int .u64 n, .int .i64 k] w fun e w' => e = .returned (str (be n k)) ∧ Mod [] w w' := by
  have hmk := fun w => (Go.run_make_row' (P := Tryd.prog) 55 5 (.int .u8 0) 1 Tryd.underlying55 u8info rfl .i64 .i64 k (by omega) (by omega) w).trans (by rw [madeCells_one])
  go_enter Tryd.func88, Tryd.ntmps88
  go_wp2_with fail
  have hb0 : Blk (w.alloc (.cells (Array.replicate k (.int .u8 0)) 5)) w.heap.size 5 (hcells n k 0) := by rw [hcells_zero]; exact Blk.new w _ _
  have hm0 : Mod [] w (w.alloc (.cells (Array.replicate k (.int .u8 0)) 5)) := (Mod.refl _ _).alloc _
  go_loopw [0, 6] (fun x i wr => ∃ j : Nat, j ≤ k ∧ i = .int .i64 ((k : Int) - 1 - j) ∧ x = .int .u64 ((n / 256 ^ j : Nat) : Int) ∧ Blk wr w.heap.size 5 (hcells n k j) ∧ Mod [] w wr) (fun _ i _ => (intOf i + 1).toNat)
  case atStart => exact ⟨0, by omega, by go_num, by simp, hb0, hm0⟩
  case round =>
    obtain ⟨j, hj, rfl, rfl, hb, hm⟩ := hrel
    clear hb0 hm0
    have c0 := hb.cell (k - 1 - j)
    have hlt := hb.lt
    have hfz := hb.frozen (k - 1 - j)
    by_cases h : j < k
    · have h1 : ((k : Int) - 1 - j) = ((k - 1 - j : Nat) : Int) := by omega
      have hc : (hcells n k j)[k - 1 - j]? = some ((hcells n k j)[k - 1 - j]'(by rw [hcells_size]; omega)) := Array.getElem?_eq_getElem _
      rw [hc] at c0
      replace c0 : ∃ v, wr.cell? ⟨w.heap.size, k - 1 - j, none⟩ = some v := ⟨_, c0⟩
      obtain ⟨v0, c0⟩ := c0
      have hset := hb.set_ (k - 1 - j) (.int .u8 ((n / 256 ^ j % 256 : Nat) : Int))
      rw [hcells_set n k j h] at hset
      have hpw : n / 256 ^ (j + 1) = n / 256 ^ j / 256 := by rw [Nat.pow_succ, Nat.div_div_eq_div_mul]
      obtain ⟨N, hN⟩ : ∃ N, n / 256 ^ j = N := ⟨_, rfl⟩
      have hNn : N ≤ 18446744073709551615 := by rw [← hN]; exact Nat.le_trans (Nat.div_le_self _ _) hn
      rw [hN] at hset hpw ⊢
      have HPw := hide hpw
      have HSet := hide (show Blk (wr.setCell ⟨w.heap.size, k - 1 - j, none⟩ (.int .u8 ((N : Int) % 256))) w.heap.size 5 (hcells n k (j + 1)) by
        rw [show ((N : Int) % 256) = ((N % 256 : Nat) : Int) by omega]; exact hset)
      obtain ⟨q, hq⟩ : ∃ q, k - 1 - j = q := ⟨_, rfl⟩
      rw [hq] at c0 hfz HSet h1
      have hkq : (k : Int) - 1 - j = q := h1
      rw [hkq]
      have hq1 : (q : Int) - 1 = (k : Int) - 1 - ((j + 1 : Nat) : Int) := by omega
      have Hq1 := hide hq1
      have hqk : (q : Int) < k := by omega
      clear hN hpw hset hb hc h1 hq hkq hq1 
      go_wp2_with fail
      go_roundw
      case rel => exact ⟨j + 1, by omega, by rw [Hq1.out], by rw [HPw.out]; congr 1, HSet.out, hm.setCell (.inr (Nat.le_refl _)) _⟩
      case measure => simp [intOf]
    · have : j = k := by omega
      subst this
      rw [hcells_all] at hb
      have hcv := conv_bytes _ _ _ [] j (by rw [List.append_nil]; exact hb)
      rw [be_length] at hcv
      have hneg : (j : Int) - 1 - j = -1 := by omega
      clear hb c0 h
      go_wp2_with fail
      go_ret
      exact ⟨rfl, hm⟩

set_option maxRecDepth 100000 in
set_option maxHeartbeats 1000000 in
theorem rmost_any (w : World) (k : Nat) (hk : k ≤ 3) :
    Calls Tryd.prog 76 #[.int .i64 k] w fun e w' => e = .returned (.int .u64 (vbound k : Nat)) ∧ Mod [] w w' := by
  match k, hk with
  | 0, _ =>
    go_enter Tryd.func76, Tryd.ntmps76
    go_wp2_with fail
    go_ret
    exact ⟨rfl, (Mod.refl _ _).alloc _⟩
  | 1, _ =>
    go_enter Tryd.func76, Tryd.ntmps76
    go_wp2_with fail
    go_ret
    exact ⟨rfl, (Mod.refl _ _).alloc _⟩
  | 2, _ =>
    go_enter Tryd.func76, Tryd.ntmps76
    go_wp2_with fail
    go_ret
    exact ⟨rfl, (Mod.refl _ _).alloc _⟩
  | 3, _ =>
    go_enter Tryd.func76, Tryd.ntmps76
    go_wp2_with fail
    go_ret
    exact ⟨rfl, (Mod.refl _ _).alloc _⟩

theorem blk_frz (w : World) (g : Nat) (cs : Array Value) (e : TypeId) (fr : Nat × Nat) (h : w.heap[g]? = some (.cells cs e fr)) (i : Nat) (hf : i < fr.1 ∨ fr.2 ≤ i) : w.frozen? ⟨g, i, none⟩ = false := by
  simp [World.frozen?, h]; omega
set_option maxRecDepth 100000 in
set_option maxHeartbeats 1000000 in
theorem rlaid_any (w : World) (n : Nat) (k : Nat) (hk : k ≤ 3) (hn : n < 4611686018427387904) (hv : vk n ≤ k) :
    Calls Tryd.prog 77 #[.int .u64 n, .int .i64 k] w fun e w' => e = .returned (str (vlay n k)) ∧ Mod [] w w' := by
  obtain ⟨m, b, hm, hm7, hb, hb64, hlay⟩ := vlay_eq hk hv hn
  have hsh : (2 : Nat) ^ k = m + 1 := by
    match k, hk, hm with
    | 0, _, hm => obtain rfl : m = 0 := by simp [vmany] at hm; omega
                  rfl
    | 1, _, hm => obtain rfl : m = 1 := by simp [vmany] at hm; omega
                  rfl
    | 2, _, hm => obtain rfl : m = 3 := by simp [vmany] at hm; omega
                  rfl
    | 3, _, hm => obtain rfl : m = 7 := by simp [vmany] at hm; omega
                  rfl
  have hby := fun w => rbytes_any w n (by omega) (m + 1) (by omega)
  have hk64 : IntKind.u8.wrap ((k : Int) * 64) = ((k : Int) * 64) := IntWalk.u8_in _ (by omega)
  have hk65 : IntKind.u8.wrap ((b : Int) + (k : Int) * 64) = ((b : Int) + (k : Int) * 64) := IntWalk.u8_in _ (by omega)
  have HBy := hide hby
  have HLay := hide hlay
  have HB := hide hb
  have Hm := hide hm
  have HSh := hide hsh
  clear hby hlay hb hv hm hsh
  go_enter Tryd.func77, Tryd.ntmps77
  go_wp2_with fail
  go_loopw [5, 6] (fun x i wr => ∃ j : Nat, j ≤ k ∧ i = .int .i64 (j : Int) ∧ x = .int .i64 ((2 ^ j : Nat) : Int) ∧ wr = w) (fun _ i _ => k - (intOf i).toNat)
  case atStart => exact ⟨0, by omega, rfl, rfl, by trivial⟩
  case round =>
    obtain ⟨j, hj, rfl, rfl, rfl⟩ := hrel
    by_cases h : j < k
    · have hp : 2 ^ (j + 1) = 2 ^ j * 2 := Nat.pow_succ 2 j
      have hp4 : 2 ^ j ≤ 2 ^ 3 := Nat.pow_le_pow_right (by omega) (by omega)
      obtain ⟨N, hN⟩ : ∃ N, 2 ^ j = N := ⟨_, rfl⟩
      rw [hN] at hp hp4 ⊢
      have HP := hide hp
      have hp5 : N ≤ 8 := hp4
      clear hp hN hp4
      go_wp2_with fail
      go_roundw
      case rel => exact ⟨j + 1, by omega, by go_num, by rw [HP.out]; go_num, by trivial⟩
      case measure => simp [intOf]; omega
    · have : j = k := by omega
      subst this
      rw [HSh.out]
      obtain ⟨Y, hY⟩ : ∃ Y : ByteArray, Y = ⟨(be n (m + 1)).toArray⟩ := ⟨_, rfl⟩
      have hYl : Y.data.toList = be n (m + 1) := by rw [hY]
      have hYs : Y.size = m + 1 := by rw [hY]; exact be_length n (m + 1)
      have HY : Hid (str (be n (m + 1)) = .string Y) := hide (by rw [hY]; rfl)
      go_wp2_with fail
      refine (HBy.out _).mono ?_
      rintro e w1 ⟨rfl, m1⟩
      rw [HY.out]
      have hcv := Lib.run_convert_string_bytes (P := Tryd.prog) w1 9 55 5 Y Tryd.underlying9 Tryd.underlying55 Tryd.underlying5
      obtain ⟨cap, hcap⟩ : ∃ cap, grownCap w1 Y.size 0 5 = cap := ⟨_, rfl⟩
      rw [hcap, hYs] at hcv
      have hcell : ∀ j (h : j < (be n (m + 1)).length), (Lib.bytesWorld w1 5 Y).cell? ⟨w1.heap.size, j, none⟩ = some (.int .u8 ((be n (m + 1))[j].toNat : Int)) := fun j h => by
        rw [Lib.bytesWorld_cell w1 _ _ _ (by rw [be_length] at h; omega), hYl]
        simp [h]
      have hfrz : (Lib.bytesWorld w1 5 Y).frozen? ⟨w1.heap.size, 0, none⟩ = false :=
        blk_frz _ _ _ _ _ (Lib.bytesWorld_at_new w1 5 Y) 0 (.inl (by simp [Lib.bytesCells]; omega))
      have hmod : Mod [] w1 (Lib.bytesWorld w1 5 Y) := ⟨rfl, rfl, rfl, by rw [Lib.bytesWorld_size]; omega, fun j hj _ => Lib.bytesWorld_at_old w1 _ _ j hj⟩
      have hszb := Lib.bytesWorld_size w1 5 Y
      obtain ⟨wb, hwb⟩ : ∃ wb, Lib.bytesWorld w1 5 Y = wb := ⟨_, rfl⟩
      rw [hwb] at hcv hcell hmod hszb hfrz
      have c0 := hcell 0 (by rw [be_length]; omega)
      have c0' : wb.cell? ⟨w1.heap.size, 0, none⟩ = some (.int .u8 (b : Int)) := by
        rw [c0]
        simp [be, HB.out, UInt8.toNat_ofNat']; omega
      have hlt : w1.heap.size < wb.heap.size := by omega
      have hlast := run_convert_bytes_back (P := Tryd.prog) (wb.setCell ⟨w1.heap.size, 0, none⟩ (.int .u8 ((b : Int) + (j : Int) * 64))) 55 9 5 ⟨w1.heap.size, 0, none⟩ cap (vlay n j) Tryd.underlying55 Tryd.underlying5 Tryd.underlying9 (fun i hi => by
        have hll : (vlay n j).length = m + 1 := by unfold vlay; rw [be_length, Hm.out]
        rw [Addr.add_lit, Nat.zero_add]
        cases i with
        | zero =>
          rw [World.cell?_setCell_same' _ _ _ (by rw [c0]; rfl)]
          simp [HLay.out, UInt8.toNat_ofNat']; omega
        | succ i =>
          rw [World.cell?_setCell_other _ _ _ _ (by intro e; cases e), hcell (i + 1) (by rw [be_length]; omega)]
          simp [HLay.out, be])
      have hll : (vlay n j).length = m + 1 := by unfold vlay; rw [be_length, Hm.out]
      rw [hll] at hlast
      clear hcell c0 hszb hwb hcap HY hYl hY hYs hll
      go_wp2_with fail
      go_ret
      exact ⟨rfl, (m1.trans hmod (by simp)).setCell (.inr m1.size) _⟩

set_option maxRecDepth 100000 in
set_option maxHeartbeats 1000000 in
theorem rput_any (w : World) (n : Nat) :
    Calls Tryd.prog 58 #[.int .u64 n] w fun e w' => e = .returned (.tuple #[str (vputS n), .int .i64 (vputE n)]) ∧ Mod [] w w' := by
  go_enter Tryd.func58, Tryd.ntmps58
  go_wp2_with fail
  go_loopw [4] (fun i wr => ∃ j : Nat, (j ≤ vk n ∨ (j = 4 ∧ 4611686018427387903 < n)) ∧ i = .int .i64 (j : Int) ∧ Mod [] w wr) (fun i _ => 4 - (intOf i).toNat)
  case atStart => exact ⟨0, .inl (by omega), rfl, Mod.refl _ _⟩
  case round =>
    obtain ⟨j, hj, rfl, hm⟩ := hrel
    have h3 := vk_le n
    by_cases h : j < 4
    · have hjk : j ≤ vk n := by omega
      obtain ⟨B, hB⟩ : ∃ B, vbound j = B := ⟨_, rfl⟩
      have hmo := fun w => rmost_any w j (by omega)
      rw [hB] at hmo
      have HMo := hide hmo
      by_cases hb : n < B
      · have hk : vk n = j := by
          by_cases h2 : j < 3
          · exact (vk_step h2 hjk).1 (by rw [hB]; exact hb)
          · omega
        have hn : n < 4611686018427387904 := by
          have : B ≤ 4611686018427387904 := by
            rw [← hB]
            have h4 : j = 0 ∨ j = 1 ∨ j = 2 ∨ j = 3 := by omega
            rcases h4 with rfl | rfl | rfl | rfl <;> decide
          omega
        have hly := fun w => rlaid_any w n j (by omega) hn (by omega)
        have hv : Hid (vputS n = vlay n j ∧ vputE n = 0) := hide ⟨by unfold vputS; rw [if_neg (by omega)]; unfold vput; rw [hk], by unfold vputE; rw [if_neg (by omega)]⟩
        have HLy := hide hly
        clear hmo hB hjk hj h3 hk hly
        go_wp2_with fail
        refine (HMo.out _).mono ?_
        rintro e w1 ⟨rfl, m1⟩
        go_wp2_with fail
        refine (HLy.out _).mono ?_
        rintro e w2 ⟨rfl, m2⟩
        go_wp2_with fail
        go_ret2
        exact ⟨by rw [hv.out.1, hv.out.2]; rfl, (hm.trans m1 (by simp)).trans m2 (by simp)⟩
      · have hnext : j + 1 ≤ vk n ∨ (j + 1 = 4 ∧ 4611686018427387903 < n) := by
          by_cases h2 : j < 3
          · exact .inl ((vk_step h2 hjk).2 (by rw [hB]; exact hb))
          · right
            obtain rfl : j = 3 := by omega
            simp [vbound] at hB
            omega
        have HN := hide hnext
        clear hmo hB hjk hj h3 hnext
        go_wp2_with fail
        refine (HMo.out _).mono ?_
        rintro e w1 ⟨rfl, m1⟩
        go_wp2_with fail
        go_roundw
        case rel => exact ⟨j + 1, HN.out, by go_num, hm.trans m1 (by simp)⟩
        case measure => simp [intOf]; omega
    · have hj4 : j = 4 ∧ 4611686018427387903 < n := by omega
      obtain ⟨rfl, hb⟩ := hj4
      have hv : Hid (vputS n = [] ∧ vputE n = 3) := hide ⟨if_pos hb, if_pos hb⟩
      clear hb
      go_wp2_with fail
      go_ret2
      exact ⟨by rw [hv.out.1, hv.out.2]; rfl, hm⟩

theorem getElem_list (x : ByteArray) (i : Nat) (h : i < x.size) (d : UInt8) (hd : x.data.toList[i]? = some d) : x[i]'h = d := by
  rw [List.getElem?_eq_getElem (by have e : x.data.toList.length = x.size := Array.length_toList
                                   omega)] at hd
  have e2 := Option.some.inj hd
  rw [← e2]
  simp [ByteArray.getElem_eq_getElem_data]

set_option maxRecDepth 100000 in
set_option maxHeartbeats 2000000 in
theorem rtake_any (w : World) (x : ByteArray) :
    Calls Tryd.prog 49 #[.string x] w fun e w' => e = .returned (.tuple #[.int .u64 ((vtake x.data.toList).n : Nat), str (vtake x.data.toList).rest, .int .i64 (vtake x.data.toList).e]) ∧ Mod [] w w' := by
  by_cases h0 : x.size = 0
  · have H1 : Hid (vtake x.data.toList = ⟨0, [], 2⟩) := hide (by
      have e : x.data.toList.length = x.size := Array.length_toList
      have hn : x.data.toList = [] := List.eq_nil_of_length_eq_zero (by omega)
      rw [hn]; rfl)
    go_enter Tryd.func49, Tryd.ntmps49
    go_wp2_with fail
    refine bodyPost_ret (results_tmp3 rfl _ _ _) rfl ?_
    exact ⟨by rw [H1.out]; rfl, Mod.refl _ _⟩
  · obtain ⟨c, t, hx⟩ : ∃ c t, x.data.toList = c :: t := by
      cases hl : x.data.toList with
      | nil =>
        have e : x.data.toList.length = x.size := Array.length_toList
        rw [hl] at e; simp at e; omega
      | cons c t => exact ⟨c, t, rfl⟩
    have hsz : x.size = t.length + 1 := by
      have e : x.data.toList.length = x.size := Array.length_toList
      rw [hx] at e; simp at e; omega
    have hsz0 : (0 : Int) < x.size := by omega
    have hx0 : x[0]'(by omega) = c := getElem_list x 0 _ c (by rw [hx]; rfl)
    have hcl := c.toNat_lt
    obtain ⟨k, hk⟩ : ∃ k, c.toNat / 64 = k := ⟨_, rfl⟩
    obtain ⟨r, hr⟩ : ∃ r, c.toNat % 64 = r := ⟨_, rfl⟩
    have hk3 : k ≤ 3 := by omega
    have hr63 : r ≤ 63 := by omega
    have hk' : (c.toNat : Int) / 64 = k := by omega
    have hr' : (c.toNat : Int) % 64 = r := by omega
    obtain ⟨m, hm, hm7⟩ : ∃ m, vmany k = m + 1 ∧ m ≤ 7 := by
      match k, hk3 with
      | 0, _ => exact ⟨0, rfl, by omega⟩
      | 1, _ => exact ⟨1, rfl, by omega⟩
      | 2, _ => exact ⟨3, rfl, by omega⟩
      | 3, _ => exact ⟨7, rfl, by omega⟩
    have HV : Hid (vtake x.data.toList = if t.length + 1 < m + 1 then ⟨0, [], 2⟩ else ⟨numF r (t.take m), t.drop m, 0⟩) := hide (by
      rw [hx]
      unfold vtake
      simp only [hk, hr, hm, Nat.add_sub_cancel, List.length_cons])
    have tbl : ∀ w : World, (w.alloc (.cells #[.int .i64 1, .int .i64 2, .int .i64 4, .int .i64 8] 3)).cell? ⟨w.heap.size, k, none⟩ = some (.int .i64 ((m : Int) + 1)) := fun w => by
      rw [(Blk.new w _ _).cell k]
      match k, hk3, hm with
      | 0, _, hm => obtain rfl : m = 0 := by simp [vmany] at hm; omega
                    rfl
      | 1, _, hm => obtain rfl : m = 1 := by simp [vmany] at hm; omega
                    rfl
      | 2, _, hm => obtain rfl : m = 3 := by simp [vmany] at hm; omega
                    rfl
      | 3, _, hm => obtain rfl : m = 7 := by simp [vmany] at hm; omega
                    rfl
    have t0 := tbl w
    clear hk hr tbl
    by_cases htm : t.length < m
    · have HV2 : Hid (vtake x.data.toList = ⟨0, [], 2⟩) := hide (by rw [HV.out, if_pos (by omega)])
      clear HV hm
      go_enter Tryd.func49, Tryd.ntmps49
      go_wp2_with fail
      refine bodyPost_ret (results_tmp3 rfl _ _ _) rfl ?_
      exact ⟨by rw [HV2.out]; rfl, (Mod.refl _ _).alloc _⟩
    · have HV2 : Hid (vtake x.data.toList = ⟨numF r (t.take m), t.drop m, 0⟩) := hide (by rw [HV.out, if_neg (by omega)])
      obtain ⟨D, hD⟩ : ∃ D, t.take m = D := ⟨_, rfl⟩
      have hDl : D.length = m := by rw [← hD, List.length_take]; omega
      have hrest : x.extract (m + 1) (t.length + 1) = ⟨(t.drop m).toArray⟩ := by
        apply ByteArray.ext
        apply Array.ext'
        rw [Lib.extract_data, hx, List.drop_succ_cons, List.take_of_length_le (by rw [List.length_drop]; omega)]
      have hat : ∀ j (h : j < D.length) (h2 : j + 1 < x.size), x[j + 1]'h2 = D[j] := fun j h h2 => getElem_list x (j + 1) _ _ (by
        rw [hx, List.getElem?_cons_succ, ← List.getElem?_eq_getElem h, ← hD, List.getElem?_take, if_pos (by omega)])
      rw [hD] at HV2
      have HAt := hide hat
      have HRest := hide hrest
      have htm' : m ≤ t.length := by omega
      clear HV htm hD hrest hm hat hx
      go_enter Tryd.func49, Tryd.ntmps49
      go_wp2_with fail
      go_loopw [7, 8] (fun n i wr => ∃ j : Nat, j ≤ m ∧ i = .int .i64 ((j : Int) + 1) ∧ n = .int .u64 (numF r (D.take j) : Nat) ∧ Mod [] w wr) (fun _ i _ => m + 1 - (intOf i).toNat)
      case atStart => exact ⟨0, by omega, rfl, rfl, (Mod.refl _ _).alloc _⟩
      case round =>
        obtain ⟨j, hj, rfl, rfl, hmw⟩ := hrel
        by_cases h : j < m
        · have hxj := HAt.out j (by omega) (by omega)
          obtain ⟨d, hd⟩ : ∃ d, D[j]'(by omega) = d := ⟨_, rfl⟩
          rw [hd] at hxj
          have hnext : numF r (D.take (j + 1)) = numF r (D.take j) * 256 + d.toNat := by
            rw [← List.take_append_getElem (by omega), hd]
            simp [numF]
          have hbound : numF r (D.take j) < 64 * 256 ^ j := by
            rw [numF_eq]
            have h1 := numF_lt (D.take j)
            have h2 : (D.take j).length = j := by rw [List.length_take]; omega
            rw [h2] at h1 ⊢
            have h3 : r * 256 ^ j ≤ 63 * 256 ^ j := Nat.mul_le_mul_right _ hr63
            omega
          have hp : (256 : Nat) ^ j ≤ 256 ^ 6 := Nat.pow_le_pow_right (by omega) (by omega)
          obtain ⟨N, hN⟩ : ∃ N, numF r (D.take j) = N := ⟨_, rfl⟩
          rw [hN] at hnext hbound ⊢
          have hNb : N < 18014398509481984 := by
            have : (256 : Nat) ^ 6 = 281474976710656 := rfl
            omega
          have hd256 := d.toNat_lt
          have HNext := hide hnext
          clear hnext hbound hp hN hd
          go_wp2_with fail
          go_roundw
          case rel => exact ⟨j + 1, by omega, by go_num, by rw [HNext.out]; go_num, hmw⟩
          case measure => simp [intOf]; omega
        · have hjm : j = m := by omega
          subst hjm
          rw [List.take_of_length_le (by omega)]
          obtain ⟨N, hN⟩ : ∃ N, numF r D = N := ⟨_, rfl⟩
          rw [hN] at HV2 ⊢
          clear hN
          go_wp2_with fail
          go_quiet (fail)
          go_wp2_with fail
          refine bodyPost_ret (results_tmp3 rfl _ _ _) rfl ?_
          exact ⟨by rw [HV2.out, HRest.out]; rfl, hmw.drewN _⟩
end Go.Proofs.YtbjmcnmcodbkdaaDoor

/-
  frames: the reader's newCid, stream.
-/
namespace Go.Proofs.YtbjmcnmcodbkdaaDoor
open Go.RowKit

/-- the reader stands in R, the frame in F -/
structure RF (w : World) (R F : Nat) (A : Option Addr) (n c : Nat) (f : Fr) (st : RS) : Prop where
  blk : Blk w F 26 (fcs A n c f)
  rd : RdO w R st
theorem RF.ne {w : World} {R F : Nat} {A : Option Addr} {n c : Nat} {f : Fr} {st : RS} (h : RF w R F A n c f st) : F ≠ R := by
  obtain ⟨s, h1, _⟩ := h.rd
  exact h.blk.ne_ h1 (by decide)
theorem RdO.setF {w : World} {R F i : Nat} {st : RS} {v : Value} (h : RdO w R st) (hn : F ≠ R) : RdO (w.setCell ⟨F, i, none⟩ v) R st := by
  obtain ⟨s, h1, h2⟩ := h
  exact ⟨s, h1.far (Ne.symm hn) v, h2⟩
section
variable {w : World} {R F : Nat} {A : Option Addr} {n c : Nat} {f : Fr} {st : RS}
theorem RF.drewN (h : RF w R F A n c f st) (k : Nat) : RF (w.drewN k) R F A n c f st := ⟨h.blk, h.rd⟩
theorem RF.set_kind (h : RF w R F A n c f st) (x : Nat) : RF (w.setCell ⟨F, 0, none⟩ (.int .u64 x)) R F A n c { f with kind := x } st := ⟨h.blk.set_ 0 _, h.rd.setF h.ne⟩
theorem RF.set_a (h : RF w R F A n c f st) (x : Nat) : RF (w.setCell ⟨F, 1, none⟩ (.int .u64 x)) R F A n c { f with a := x } st := ⟨h.blk.set_ 1 _, h.rd.setF h.ne⟩
theorem RF.set_b (h : RF w R F A n c f st) (x : Nat) : RF (w.setCell ⟨F, 2, none⟩ (.int .u64 x)) R F A n c { f with b := x } st := ⟨h.blk.set_ 2 _, h.rd.setF h.ne⟩
theorem RF.set_c (h : RF w R F A n c f st) (x : Nat) : RF (w.setCell ⟨F, 3, none⟩ (.int .u64 x)) R F A n c { f with c := x } st := ⟨h.blk.set_ 3 _, h.rd.setF h.ne⟩
theorem RF.set_fin (h : RF w R F A n c f st) (x : Bool) : RF (w.setCell ⟨F, 4, none⟩ (.bool x)) R F A n c { f with fin := x } st := ⟨h.blk.set_ 4 _, h.rd.setF h.ne⟩
theorem RF.set_data (h : RF w R F A n c f st) (x : ByteArray) : RF (w.setCell ⟨F, 5, none⟩ (.string x)) R F A n c { f with data := x } st := ⟨h.blk.set_ 5 _, h.rd.setF h.ne⟩
theorem RF.set_more (h : RF w R F A n c f st) (x : ByteArray) : RF (w.setCell ⟨F, 6, none⟩ (.string x)) R F A n c { f with more := x } st := ⟨h.blk.set_ 6 _, h.rd.setF h.ne⟩
/-- the mark that something was wrong -/
theorem RF.set_bad (h : RF w R F A n c f st) (b : Bool) (st' : RS) (hs : (b = true ∧ st' = none) ∨ (b = false ∧ st' = st ∧ st.isNone = false)) : RF (w.setCell ⟨R, 1, none⟩ (.bool b)) R F A n c f st' := by
  refine ⟨h.blk.far h.ne _, ?_⟩
  obtain ⟨s, h1, h2, h3⟩ := h.rd
  rcases hs with ⟨rfl, rfl⟩ | ⟨rfl, rfl, hn⟩
  · exact RdO.mk' (h1.set_ 1 _) h2 rfl (fun l h => by cases h)
  · exact RdO.mk' (h1.set_ 1 _) h2 hn.symm h3
theorem RF.num (h : RF w R F A n c f st) {x : Nat} {s1 : RS} (e : rnum st = (x, s1)) :
    Calls Tryd.prog 43 #[.pointer (some ⟨R, 0, none⟩)] w fun e w' => e = .returned (.int .u64 (x : Nat)) ∧ RF w' R F A n c f s1 ∧ Mod [R, F] w w' := by
  refine (rnum_any w R st h.rd).mono ?_
  rintro e' w1 ⟨rfl, h1, m1⟩
  rw [e] at h1
  exact ⟨by rw [e], ⟨m1.blk h.blk (by simpa using h.ne), h1⟩, m1.mono (by simp)⟩
theorem RF.take (h : RF w R F A n c f st) {k : Nat} (hk : k ≤ 18446744073709551615) {x : ByteArray} {s1 : RS} (e : rtake k st = (x.data.toList, s1)) :
    Calls Tryd.prog 63 #[.pointer (some ⟨R, 0, none⟩), .int .u64 k] w fun e w' => e = .returned (.string x) ∧ RF w' R F A n c f s1 ∧ Mod [R, F] w w' := by
  refine (rtake_any' w R st h.rd k hk).mono ?_
  rintro e' w1 ⟨rfl, h1, m1⟩
  rw [e] at h1
  refine ⟨?_, ⟨m1.blk h.blk (by simpa using h.ne), h1⟩, m1.mono (by simp)⟩
  rw [e]; unfold str; rw [eta_bytes]
theorem RF.text (h : RF w R F A n c f st) {x : ByteArray} {s1 : RS} (e : rtext st = (x.data.toList, s1)) :
    Calls Tryd.prog 62 #[.pointer (some ⟨R, 0, none⟩)] w fun e w' => e = .returned (.string x) ∧ RF w' R F A n c f s1 ∧ Mod [R, F] w w' := by
  refine (rtext_any w R st h.rd).mono ?_
  rintro e' w1 ⟨rfl, h1, m1⟩
  rw [e] at h1
  refine ⟨?_, ⟨m1.blk h.blk (by simpa using h.ne), h1⟩, m1.mono (by simp)⟩
  rw [e]; unfold str; rw [eta_bytes]
end
theorem numE (st : RS) : ∃ x s1, rnum st = (x, s1) ∧ x < 4611686018427387904 := ⟨_, _, rfl, rnum_lt st⟩
theorem takeE (k : Nat) (st : RS) : ∃ (x : ByteArray) (s1 : RS), rtake k st = (x.data.toList, s1) := ⟨⟨(rtake k st).1.toArray⟩, (rtake k st).2, by simp⟩
theorem textE (st : RS) : ∃ (x : ByteArray) (s1 : RS), rtext st = (x.data.toList, s1) := ⟨⟨(rtext st).1.toArray⟩, (rtext st).2, by simp⟩
theorem take1 {st : RS} {x : ByteArray} {s1 : RS} (e : rtake 1 st = (x.data.toList, s1)) : x.size ≤ 1 := by
  have := congrArg (fun y => y.1.length) e
  simp only [bytes_len] at this
  rw [← this]
  cases st with
  | none => simp [rtake]
  | some l =>
    unfold rtake
    simp only
    split <;> simp; omega

set_option maxRecDepth 100000 in
set_option maxHeartbeats 4000000 in
theorem rcid_any (w : World) (R F : Nat) (A : Option Addr) (n c : Nat) (f : Fr) (st : RS) (h : RF w R F A n c f st) :
    Calls Tryd.prog 48 #[.pointer (some ⟨R, 0, none⟩), .pointer (some ⟨F, 0, none⟩)] w fun e w' => e = .returned (.tuple #[]) ∧ RF w' R F A n c (rcid f st).1 (rcid f st).2 ∧ Mod [R, F] w w' := by
  obtain ⟨x1, s1, e1, b1⟩ := numE st
  obtain ⟨x2, s2, e2, b2⟩ := numE s1
  obtain ⟨x3, s3, e3⟩ := takeE 1 s2
  have hx3 := take1 e3
  have H := hide h
  by_cases h0 : x3.size = 0
  · have hE : rcid f st = ({ f with a := x1, b := x2 }, s3) := by
      unfold rcid
      simp only [e1, e2, e3, size0 h0]
    have HE := hide hE
    have he0 := empty_true h0
    have E1 := hide e1
    have E2 := hide e2
    have E3 := hide e3
    clear h hE e1 e2 e3 hx3 h0
    go_enter Tryd.func48, Tryd.ntmps48
    go_wp2_with fail
    refine (H.out.num E1.out).mono ?_
    rintro e w1 ⟨rfl, h1, m1⟩
    go_wp2_with fail
    refine (h1.num E2.out).mono ?_
    rintro e w2 ⟨rfl, h2, m2⟩
    obtain ⟨p0, p1, p2, p3, p4, p5, p6, p7⟩ := fcells h2.blk
    have hlF := h2.blk.lt
    have q0 := h2.blk.frozen 0
    have q1 := h2.blk.frozen 1
    have q2 := h2.blk.frozen 2
    have q3 := h2.blk.frozen 3
    have q4 := h2.blk.frozen 4
    have q5 := h2.blk.frozen 5
    have q6 := h2.blk.frozen 6
    have h3 := hide ((h2.set_a x1).set_b x2)
    have m3 := hide (((m1.trans m2 (by simp)).setCell (p := ⟨F, 1, none⟩) (.inl (by simp)) (.int .u64 x1)).setCell (p := ⟨F, 2, none⟩) (.inl (by simp)) (.int .u64 x2))
    clear h1 h2 m1 m2
    go_wp2_with fail
    clear p0 p1 p2 p3 p4 p5 p6 p7 hlF q0 q1 q2 q3 q4 q5 q6
    refine (h3.out.take (by omega) E3.out).mono ?_
    rintro e w4 ⟨rfl, h4, m4⟩
    go_wp2_with fail
    refine bodyPost_ret (results_none rfl _ _ _) rfl ?_
    rw [HE.out]
    exact ⟨rfl, h4, m3.out.trans m4 (by simp)⟩
  · have h1 : x3.size = 1 := by omega
    obtain ⟨y, hy⟩ : ∃ y, x3.data.toList = [y] := List.length_eq_one_iff.1 (by rw [bytes_len, h1])
    obtain ⟨x4, s4, e4⟩ := takeE y.toNat s3
    obtain ⟨x5, s5, e5⟩ := takeE 16 s4
    have hE : rcid f st = ({ f with a := x1, b := x2, data := x4, more := x5 }, s5) := by
      unfold rcid
      simp only [e1, e2, e3, e4, e5, hy, eta_bytes]
    have HE := hide hE
    have he0 := empty_false h0
    have hg : x3[0]'(by omega) = y := getElem_list x3 0 (by omega) y (by rw [hy]; rfl)
    have hsz0 : (0 : Int) < x3.size := by omega
    have hyl := y.toNat_lt
    have E1 := hide e1
    have E2 := hide e2
    have E3 := hide e3
    have E4 := hide e4
    have E5 := hide e5
    clear h hE e1 e2 e3 e4 e5 hx3 h0 hy
    go_enter Tryd.func48, Tryd.ntmps48
    go_wp2_with fail
    refine (H.out.num E1.out).mono ?_
    rintro e w1 ⟨rfl, h1, m1⟩
    go_wp2_with fail
    refine (h1.num E2.out).mono ?_
    rintro e w2 ⟨rfl, h2, m2⟩
    obtain ⟨p0, p1, p2, p3, p4, p5, p6, p7⟩ := fcells h2.blk
    have hlF := h2.blk.lt
    have q0 := h2.blk.frozen 0
    have q1 := h2.blk.frozen 1
    have q2 := h2.blk.frozen 2
    have q3 := h2.blk.frozen 3
    have q4 := h2.blk.frozen 4
    have q5 := h2.blk.frozen 5
    have q6 := h2.blk.frozen 6
    have h3 := hide ((h2.set_a x1).set_b x2)
    have m3 := hide (((m1.trans m2 (by simp)).setCell (p := ⟨F, 1, none⟩) (.inl (by simp)) (.int .u64 x1)).setCell (p := ⟨F, 2, none⟩) (.inl (by simp)) (.int .u64 x2))
    clear h1 h2 m1 m2
    go_wp2_with fail
    clear p0 p1 p2 p3 p4 p5 p6 p7 hlF q0 q1 q2 q3 q4 q5 q6
    refine (h3.out.take (by omega) E3.out).mono ?_
    rintro e w4 ⟨rfl, h4, m4⟩
    go_wp2_with fail
    refine (h4.take (by omega) E4.out).mono ?_
    rintro e w5 ⟨rfl, h5, m5⟩
    obtain ⟨p0, p1, p2, p3, p4, p5, p6, p7⟩ := fcells h5.blk
    have hlF := h5.blk.lt
    have q0 := h5.blk.frozen 0
    have q1 := h5.blk.frozen 1
    have q2 := h5.blk.frozen 2
    have q3 := h5.blk.frozen 3
    have q4 := h5.blk.frozen 4
    have q5 := h5.blk.frozen 5
    have q6 := h5.blk.frozen 6
    have h6 := hide (h5.set_data x4)
    have m6 := hide (((m3.out.trans m4 (by simp)).trans m5 (by simp)).setCell (p := ⟨F, 5, none⟩) (.inl (by simp)) (.string x4))
    clear h4 h5 m4 m5 h3 m3
    go_wp2_with fail
    clear p0 p1 p2 p3 p4 p5 p6 p7 hlF q0 q1 q2 q3 q4 q5 q6
    refine (h6.out.take (by omega) E5.out).mono ?_
    rintro e w7 ⟨rfl, h7, m7⟩
    obtain ⟨p0, p1, p2, p3, p4, p5, p6, p7⟩ := fcells h7.blk
    have hlF := h7.blk.lt
    have q0 := h7.blk.frozen 0
    have q1 := h7.blk.frozen 1
    have q2 := h7.blk.frozen 2
    have q3 := h7.blk.frozen 3
    have q4 := h7.blk.frozen 4
    have q5 := h7.blk.frozen 5
    have q6 := h7.blk.frozen 6
    have h8 := hide (h7.set_more x5)
    have m8 := hide ((m6.out.trans m7 (by simp)).setCell (p := ⟨F, 6, none⟩) (.inl (by simp)) (.string x5))
    clear h7 m7 h6 m6
    go_wp2_with fail
    go_end0
    rw [HE.out]
    exact ⟨rfl, h8.out, m8.out⟩
end Go.Proofs.YtbjmcnmcodbkdaaDoor

/-
  frames: the reader's stream.
-/
namespace Go.Proofs.YtbjmcnmcodbkdaaDoor
open Go.RowKit

theorem and_bits {k : Nat} (h1 : 8 ≤ k) (h2 : k < 16) : bits .and .u64 (k : Int) 4 = ((k / 4 % 2 * 4 : Nat) : Int) ∧ bits .and .u64 (k : Int) 2 = ((k / 2 % 2 * 2 : Nat) : Int) ∧ bits .and .u64 (k : Int) 1 = ((k % 2 : Nat) : Int) := by
  have : k = 8 ∨ k = 9 ∨ k = 10 ∨ k = 11 ∨ k = 12 ∨ k = 13 ∨ k = 14 ∨ k = 15 := by omega
  rcases this with rfl | rfl | rfl | rfl | rfl | rfl | rfl | rfl <;> exact ⟨by decide +kernel, by decide +kernel, by decide +kernel⟩
section
variable {w : World} {R F : Nat} {A : Option Addr} {n c : Nat} {f : Fr} {st : RS}
/-- the reader's two cells -/
theorem RF.cells (h : RF w R F A n c f st) : ∃ s : ByteArray, w.cell? ⟨R, 0, none⟩ = some (.string s) ∧ w.cell? ⟨R, 1, none⟩ = some (.bool st.isNone) ∧ w.frozen? ⟨R, 0, none⟩ = false ∧ w.frozen? ⟨R, 1, none⟩ = false ∧ R < w.heap.size ∧ s.size ≤ 1000000 ∧ ∀ l, st = some l → s.data.toList = l := by
  obtain ⟨s, h1, h2, h3⟩ := h.rd
  exact ⟨s, h1.cell 0, h1.cell 1, h1.frozen 0, h1.frozen 1, h1.lt, h2, h3⟩
end
/-- the second half: the number's flag, the end's flag, the text -/
def rstr2 (k : Nat) (f : Fr) (st : RS) : Fr × RS :=
  ({ f with fin := decide (k % 2 = 1), data := ⟨(rtext (if k / 2 % 2 = 0 then none else st)).1.toArray⟩ }, (rtext (if k / 2 % 2 = 0 then none else st)).2)

set_option maxRecDepth 100000 in
set_option maxHeartbeats 8000000 in
theorem rstream_any (w : World) (R F : Nat) (A : Option Addr) (n c : Nat) (f : Fr) (st : RS) (h : RF w R F A n c f st) (hk1 : 8 ≤ f.kind) (hk2 : f.kind < 16) :
    Calls Tryd.prog 47 #[.pointer (some ⟨R, 0, none⟩), .pointer (some ⟨F, 0, none⟩)] w fun e w' => e = .returned (.tuple #[]) ∧ RF w' R F A n c (rstream f st).1 (rstream f st).2 ∧ Mod [R, F] w w' := by
  obtain ⟨k4, k2, k1⟩ := and_bits hk1 hk2
  obtain ⟨x1, s1, e1, b1⟩ := numE st
  obtain ⟨x2, s2, e2, b2⟩ := numE s1
  have hfin : (((f.kind % 2 : Nat) : Int) != 0) = decide (f.kind % 2 = 1) := by
    rcases Nat.mod_two_eq_zero_or_one f.kind with h | h <;> rw [h] <;> rfl
  obtain ⟨fb, hfb⟩ : ∃ b, decide (f.kind % 2 = 1) = b := ⟨_, rfl⟩
  obtain ⟨s5, hs5⟩ : ∃ s5 : RS, (if f.kind / 4 % 2 = 1 then (if x2 = 0 then none else s2) else s1) = s5 := ⟨_, rfl⟩
  obtain ⟨s6, hs6⟩ : ∃ s6 : RS, (if f.kind / 2 % 2 = 0 then none else s5) = s6 := ⟨_, rfl⟩
  obtain ⟨x7, s7, e7⟩ := textE s6
  have hE : rstream f st = ({ f with kind := 8, a := x1, b := if f.kind / 4 % 2 = 1 then x2 else f.b, fin := fb, data := x7 }, s7) := by
    unfold rstream
    have a1 : (if f.kind / 4 % 2 = 1 then (x2, if x2 = 0 then none else s2) else (f.b, s1)) = ((if f.kind / 4 % 2 = 1 then x2 else f.b), s5) := by
      rw [← hs5]; split <;> rfl
    simp only [e1, e2, a1, hs6, e7, eta_bytes, hfb]
  rw [hfb] at hfin
  rw [Int.natCast_emod] at hfin
  replace hfin : ((f.kind : Int) % 2 != 0) = fb := hfin
  have H := hide h
  have HE := hide hE
  have E1 := hide e1
  have E2 := hide e2
  have E7 := hide e7
  have HS5 := hide hs5
  have HS6 := hide hs6
  clear h hE e1 e2 e7 hs5 hs6 hfb
  by_cases h4 : f.kind / 4 % 2 = 1
  · have HB4 := hide h4
    have j4 : (((f.kind / 4 % 2 * 4 : Nat) : Int) != 0) = true := by rw [h4]; rfl
    clear h4
    cases s2 with
    | none =>
      obtain rfl : s5 = none := by rw [← HS5.out, if_pos HB4.out]; split <;> rfl
      obtain rfl : s6 = none := by rw [← HS6.out]; split <;> rfl
      go_enter Tryd.func47, Tryd.ntmps47
      obtain ⟨p0, p1, p2, p3, p4, p5, p6, p7⟩ := fcells H.out.blk
      have hlF := H.out.blk.lt
      have q0 := H.out.blk.frozen 0
      have q1 := H.out.blk.frozen 1
      have q2 := H.out.blk.frozen 2
      have q3 := H.out.blk.frozen 3
      have q4 := H.out.blk.frozen 4
      have q5 := H.out.blk.frozen 5
      have q6 := H.out.blk.frozen 6
      have h1 := hide (H.out.set_kind 8)
      have m1 := hide ((Mod.refl [R, F] w).setCell (p := ⟨F, 0, none⟩) (.inl (by simp)) (.int .u64 (8 : Nat)))
      go_wp2_with fail
      clear p0 p1 p2 p3 p4 p5 p6 p7 hlF q0 q1 q2 q3 q4 q5 q6
      refine (h1.out.num E1.out).mono ?_
      rintro e w2 ⟨rfl, h2, m2⟩
      obtain ⟨p0, p1, p2, p3, p4, p5, p6, p7⟩ := fcells h2.blk
      have hlF := h2.blk.lt
      have q0 := h2.blk.frozen 0
      have q1 := h2.blk.frozen 1
      have q2 := h2.blk.frozen 2
      have q3 := h2.blk.frozen 3
      have q4 := h2.blk.frozen 4
      have q5 := h2.blk.frozen 5
      have q6 := h2.blk.frozen 6
      have h3 := hide (h2.set_a x1)
      have m3 := hide ((m1.out.trans m2 (by simp)).setCell (p := ⟨F, 1, none⟩) (.inl (by simp)) (.int .u64 x1))
      clear h1 m1 h2 m2
      go_wp2_with fail
      clear p0 p1 p2 p3 p4 p5 p6 p7 hlF q0 q1 q2 q3 q4 q5 q6
      refine (h3.out.num E2.out).mono ?_
      rintro e w4 ⟨rfl, h4, m4⟩
      obtain ⟨p0, p1, p2, p3, p4, p5, p6, p7⟩ := fcells h4.blk
      have hlF := h4.blk.lt
      have q0 := h4.blk.frozen 0
      have q1 := h4.blk.frozen 1
      have q2 := h4.blk.frozen 2
      have q3 := h4.blk.frozen 3
      have q4 := h4.blk.frozen 4
      have q5 := h4.blk.frozen 5
      have q6 := h4.blk.frozen 6
      obtain ⟨sr, r0, r1, u0, u1, hlR, _, _⟩ := h4.cells
      first | simp only [Option.isNone_some] at r1 | simp only [Option.isNone_none] at r1
      have hne := h4.ne
      have hne2 := Ne.symm hne
      have h5 := (h4.set_b x2).set_bad true none (.inl ⟨rfl, rfl⟩)
      have m5 := ((m3.out.trans m4 (by simp)).setCell (p := ⟨F, 2, none⟩) (.inl (by simp)) (.int .u64 x2)).setCell (p := ⟨R, 1, none⟩) (.inl (by simp)) (.bool true)
      clear h3 m3 h4 m4
      have h7 := hide ((h5.set_bad true none (.inl ⟨rfl, rfl⟩)).set_fin fb)
      have m7 := hide ((m5.setCell (p := ⟨R, 1, none⟩) (.inl (by simp)) (.bool true)).setCell (p := ⟨F, 4, none⟩) (.inl (by simp)) (.bool fb))
      clear h5 m5
      go_wp2_with fail
      clear p0 p1 p2 p3 p4 p5 p6 p7 hlF q0 q1 q2 q3 q4 q5 q6
      clear r0 r1 u0 u1 hlR
      refine (h7.out.text E7.out).mono ?_
      rintro e w8 ⟨rfl, h8, m8⟩
      obtain ⟨p0, p1, p2, p3, p4, p5, p6, p7⟩ := fcells h8.blk
      have hlF := h8.blk.lt
      have q0 := h8.blk.frozen 0
      have q1 := h8.blk.frozen 1
      have q2 := h8.blk.frozen 2
      have q3 := h8.blk.frozen 3
      have q4 := h8.blk.frozen 4
      have q5 := h8.blk.frozen 5
      have q6 := h8.blk.frozen 6
      have h9 := hide (h8.set_data x7)
      have m9 := hide ((m7.out.trans m8 (by simp)).setCell (p := ⟨F, 5, none⟩) (.inl (by simp)) (.string x7))
      clear h7 m7 h8 m8
      go_wp2_with fail
      go_end0
      rw [HE.out]
      rw [if_pos HB4.out]
      exact ⟨rfl, h9.out, m9.out⟩
    | some l2 =>
      by_cases hx2 : x2 = 0
      · have hxb : ((x2 : Int) == 0) = true := by simp; omega
        obtain rfl : s5 = none := by rw [← HS5.out, if_pos HB4.out, if_pos hx2]
        clear hx2
        obtain rfl : s6 = none := by rw [← HS6.out]; split <;> rfl
        go_enter Tryd.func47, Tryd.ntmps47
        obtain ⟨p0, p1, p2, p3, p4, p5, p6, p7⟩ := fcells H.out.blk
        have hlF := H.out.blk.lt
        have q0 := H.out.blk.frozen 0
        have q1 := H.out.blk.frozen 1
        have q2 := H.out.blk.frozen 2
        have q3 := H.out.blk.frozen 3
        have q4 := H.out.blk.frozen 4
        have q5 := H.out.blk.frozen 5
        have q6 := H.out.blk.frozen 6
        have h1 := hide (H.out.set_kind 8)
        have m1 := hide ((Mod.refl [R, F] w).setCell (p := ⟨F, 0, none⟩) (.inl (by simp)) (.int .u64 (8 : Nat)))
        go_wp2_with fail
        clear p0 p1 p2 p3 p4 p5 p6 p7 hlF q0 q1 q2 q3 q4 q5 q6
        refine (h1.out.num E1.out).mono ?_
        rintro e w2 ⟨rfl, h2, m2⟩
        obtain ⟨p0, p1, p2, p3, p4, p5, p6, p7⟩ := fcells h2.blk
        have hlF := h2.blk.lt
        have q0 := h2.blk.frozen 0
        have q1 := h2.blk.frozen 1
        have q2 := h2.blk.frozen 2
        have q3 := h2.blk.frozen 3
        have q4 := h2.blk.frozen 4
        have q5 := h2.blk.frozen 5
        have q6 := h2.blk.frozen 6
        have h3 := hide (h2.set_a x1)
        have m3 := hide ((m1.out.trans m2 (by simp)).setCell (p := ⟨F, 1, none⟩) (.inl (by simp)) (.int .u64 x1))
        clear h1 m1 h2 m2
        go_wp2_with fail
        clear p0 p1 p2 p3 p4 p5 p6 p7 hlF q0 q1 q2 q3 q4 q5 q6
        refine (h3.out.num E2.out).mono ?_
        rintro e w4 ⟨rfl, h4, m4⟩
        obtain ⟨p0, p1, p2, p3, p4, p5, p6, p7⟩ := fcells h4.blk
        have hlF := h4.blk.lt
        have q0 := h4.blk.frozen 0
        have q1 := h4.blk.frozen 1
        have q2 := h4.blk.frozen 2
        have q3 := h4.blk.frozen 3
        have q4 := h4.blk.frozen 4
        have q5 := h4.blk.frozen 5
        have q6 := h4.blk.frozen 6
        obtain ⟨sr, r0, r1, u0, u1, hlR, _, _⟩ := h4.cells
        first | simp only [Option.isNone_some] at r1 | simp only [Option.isNone_none] at r1
        have hne := h4.ne
        have hne2 := Ne.symm hne
        have h5 := (h4.set_b x2).set_bad true none (.inl ⟨rfl, rfl⟩)
        have m5 := ((m3.out.trans m4 (by simp)).setCell (p := ⟨F, 2, none⟩) (.inl (by simp)) (.int .u64 x2)).setCell (p := ⟨R, 1, none⟩) (.inl (by simp)) (.bool true)
        clear h3 m3 h4 m4
        have h7 := hide ((h5.set_bad true none (.inl ⟨rfl, rfl⟩)).set_fin fb)
        have m7 := hide ((m5.setCell (p := ⟨R, 1, none⟩) (.inl (by simp)) (.bool true)).setCell (p := ⟨F, 4, none⟩) (.inl (by simp)) (.bool fb))
        clear h5 m5
        go_wp2_with fail
        clear p0 p1 p2 p3 p4 p5 p6 p7 hlF q0 q1 q2 q3 q4 q5 q6
        clear r0 r1 u0 u1 hlR
        refine (h7.out.text E7.out).mono ?_
        rintro e w8 ⟨rfl, h8, m8⟩
        obtain ⟨p0, p1, p2, p3, p4, p5, p6, p7⟩ := fcells h8.blk
        have hlF := h8.blk.lt
        have q0 := h8.blk.frozen 0
        have q1 := h8.blk.frozen 1
        have q2 := h8.blk.frozen 2
        have q3 := h8.blk.frozen 3
        have q4 := h8.blk.frozen 4
        have q5 := h8.blk.frozen 5
        have q6 := h8.blk.frozen 6
        have h9 := hide (h8.set_data x7)
        have m9 := hide ((m7.out.trans m8 (by simp)).setCell (p := ⟨F, 5, none⟩) (.inl (by simp)) (.string x7))
        clear h7 m7 h8 m8
        go_wp2_with fail
        go_end0
        rw [HE.out]
        rw [if_pos HB4.out]
        exact ⟨rfl, h9.out, m9.out⟩
      · have hxb : ((x2 : Int) == 0) = false := by simp; omega
        obtain rfl : s5 = some l2 := by rw [← HS5.out, if_pos HB4.out, if_neg hx2]
        clear hx2
        by_cases h2 : f.kind / 2 % 2 = 0
        · have j2 : (((f.kind / 2 % 2 * 2 : Nat) : Int) == 0) = true := by rw [h2]; rfl
          replace j2 : ((f.kind : Int) / 2 % 2 * 2 == 0) = true := j2
          obtain rfl : s6 = none := by rw [← HS6.out, if_pos h2]
          clear h2
          go_enter Tryd.func47, Tryd.ntmps47
          obtain ⟨p0, p1, p2, p3, p4, p5, p6, p7⟩ := fcells H.out.blk
          have hlF := H.out.blk.lt
          have q0 := H.out.blk.frozen 0
          have q1 := H.out.blk.frozen 1
          have q2 := H.out.blk.frozen 2
          have q3 := H.out.blk.frozen 3
          have q4 := H.out.blk.frozen 4
          have q5 := H.out.blk.frozen 5
          have q6 := H.out.blk.frozen 6
          have h1 := hide (H.out.set_kind 8)
          have m1 := hide ((Mod.refl [R, F] w).setCell (p := ⟨F, 0, none⟩) (.inl (by simp)) (.int .u64 (8 : Nat)))
          go_wp2_with fail
          clear p0 p1 p2 p3 p4 p5 p6 p7 hlF q0 q1 q2 q3 q4 q5 q6
          refine (h1.out.num E1.out).mono ?_
          rintro e w2 ⟨rfl, h2, m2⟩
          obtain ⟨p0, p1, p2, p3, p4, p5, p6, p7⟩ := fcells h2.blk
          have hlF := h2.blk.lt
          have q0 := h2.blk.frozen 0
          have q1 := h2.blk.frozen 1
          have q2 := h2.blk.frozen 2
          have q3 := h2.blk.frozen 3
          have q4 := h2.blk.frozen 4
          have q5 := h2.blk.frozen 5
          have q6 := h2.blk.frozen 6
          have h3 := hide (h2.set_a x1)
          have m3 := hide ((m1.out.trans m2 (by simp)).setCell (p := ⟨F, 1, none⟩) (.inl (by simp)) (.int .u64 x1))
          clear h1 m1 h2 m2
          go_wp2_with fail
          clear p0 p1 p2 p3 p4 p5 p6 p7 hlF q0 q1 q2 q3 q4 q5 q6
          refine (h3.out.num E2.out).mono ?_
          rintro e w4 ⟨rfl, h4, m4⟩
          obtain ⟨p0, p1, p2, p3, p4, p5, p6, p7⟩ := fcells h4.blk
          have hlF := h4.blk.lt
          have q0 := h4.blk.frozen 0
          have q1 := h4.blk.frozen 1
          have q2 := h4.blk.frozen 2
          have q3 := h4.blk.frozen 3
          have q4 := h4.blk.frozen 4
          have q5 := h4.blk.frozen 5
          have q6 := h4.blk.frozen 6
          obtain ⟨sr, r0, r1, u0, u1, hlR, _, _⟩ := h4.cells
          first | simp only [Option.isNone_some] at r1 | simp only [Option.isNone_none] at r1
          have hne := h4.ne
          have hne2 := Ne.symm hne
          have h5 := (h4.set_b x2).set_bad false (some l2) (.inr ⟨rfl, rfl, rfl⟩)
          have m5 := ((m3.out.trans m4 (by simp)).setCell (p := ⟨F, 2, none⟩) (.inl (by simp)) (.int .u64 x2)).setCell (p := ⟨R, 1, none⟩) (.inl (by simp)) (.bool false)
          clear h3 m3 h4 m4
          have h7 := hide ((h5.set_bad true none (.inl ⟨rfl, rfl⟩)).set_fin fb)
          have m7 := hide ((m5.setCell (p := ⟨R, 1, none⟩) (.inl (by simp)) (.bool true)).setCell (p := ⟨F, 4, none⟩) (.inl (by simp)) (.bool fb))
          clear h5 m5
          go_wp2_with fail
          clear p0 p1 p2 p3 p4 p5 p6 p7 hlF q0 q1 q2 q3 q4 q5 q6
          clear r0 r1 u0 u1 hlR
          refine (h7.out.text E7.out).mono ?_
          rintro e w8 ⟨rfl, h8, m8⟩
          obtain ⟨p0, p1, p2, p3, p4, p5, p6, p7⟩ := fcells h8.blk
          have hlF := h8.blk.lt
          have q0 := h8.blk.frozen 0
          have q1 := h8.blk.frozen 1
          have q2 := h8.blk.frozen 2
          have q3 := h8.blk.frozen 3
          have q4 := h8.blk.frozen 4
          have q5 := h8.blk.frozen 5
          have q6 := h8.blk.frozen 6
          have h9 := hide (h8.set_data x7)
          have m9 := hide ((m7.out.trans m8 (by simp)).setCell (p := ⟨F, 5, none⟩) (.inl (by simp)) (.string x7))
          clear h7 m7 h8 m8
          go_wp2_with fail
          go_end0
          rw [HE.out]
          rw [if_pos HB4.out]
          exact ⟨rfl, h9.out, m9.out⟩
        · have j2 : (((f.kind / 2 % 2 * 2 : Nat) : Int) == 0) = false := by rw [show f.kind / 2 % 2 = 1 by omega]; rfl
          replace j2 : ((f.kind : Int) / 2 % 2 * 2 == 0) = false := j2
          obtain rfl : s6 = some l2 := by rw [← HS6.out, if_neg h2]
          clear h2
          go_enter Tryd.func47, Tryd.ntmps47
          obtain ⟨p0, p1, p2, p3, p4, p5, p6, p7⟩ := fcells H.out.blk
          have hlF := H.out.blk.lt
          have q0 := H.out.blk.frozen 0
          have q1 := H.out.blk.frozen 1
          have q2 := H.out.blk.frozen 2
          have q3 := H.out.blk.frozen 3
          have q4 := H.out.blk.frozen 4
          have q5 := H.out.blk.frozen 5
          have q6 := H.out.blk.frozen 6
          have h1 := hide (H.out.set_kind 8)
          have m1 := hide ((Mod.refl [R, F] w).setCell (p := ⟨F, 0, none⟩) (.inl (by simp)) (.int .u64 (8 : Nat)))
          go_wp2_with fail
          clear p0 p1 p2 p3 p4 p5 p6 p7 hlF q0 q1 q2 q3 q4 q5 q6
          refine (h1.out.num E1.out).mono ?_
          rintro e w2 ⟨rfl, h2, m2⟩
          obtain ⟨p0, p1, p2, p3, p4, p5, p6, p7⟩ := fcells h2.blk
          have hlF := h2.blk.lt
          have q0 := h2.blk.frozen 0
          have q1 := h2.blk.frozen 1
          have q2 := h2.blk.frozen 2
          have q3 := h2.blk.frozen 3
          have q4 := h2.blk.frozen 4
          have q5 := h2.blk.frozen 5
          have q6 := h2.blk.frozen 6
          have h3 := hide (h2.set_a x1)
          have m3 := hide ((m1.out.trans m2 (by simp)).setCell (p := ⟨F, 1, none⟩) (.inl (by simp)) (.int .u64 x1))
          clear h1 m1 h2 m2
          go_wp2_with fail
          clear p0 p1 p2 p3 p4 p5 p6 p7 hlF q0 q1 q2 q3 q4 q5 q6
          refine (h3.out.num E2.out).mono ?_
          rintro e w4 ⟨rfl, h4, m4⟩
          obtain ⟨p0, p1, p2, p3, p4, p5, p6, p7⟩ := fcells h4.blk
          have hlF := h4.blk.lt
          have q0 := h4.blk.frozen 0
          have q1 := h4.blk.frozen 1
          have q2 := h4.blk.frozen 2
          have q3 := h4.blk.frozen 3
          have q4 := h4.blk.frozen 4
          have q5 := h4.blk.frozen 5
          have q6 := h4.blk.frozen 6
          obtain ⟨sr, r0, r1, u0, u1, hlR, _, _⟩ := h4.cells
          first | simp only [Option.isNone_some] at r1 | simp only [Option.isNone_none] at r1
          have hne := h4.ne
          have hne2 := Ne.symm hne
          have h5 := (h4.set_b x2).set_bad false (some l2) (.inr ⟨rfl, rfl, rfl⟩)
          have m5 := ((m3.out.trans m4 (by simp)).setCell (p := ⟨F, 2, none⟩) (.inl (by simp)) (.int .u64 x2)).setCell (p := ⟨R, 1, none⟩) (.inl (by simp)) (.bool false)
          clear h3 m3 h4 m4
          have h7 := hide ((h5.set_bad false (some l2) (.inr ⟨rfl, rfl, rfl⟩)).set_fin fb)
          have m7 := hide ((m5.setCell (p := ⟨R, 1, none⟩) (.inl (by simp)) (.bool false)).setCell (p := ⟨F, 4, none⟩) (.inl (by simp)) (.bool fb))
          clear h5 m5
          go_wp2_with fail
          clear p0 p1 p2 p3 p4 p5 p6 p7 hlF q0 q1 q2 q3 q4 q5 q6
          clear r0 r1 u0 u1 hlR
          refine (h7.out.text E7.out).mono ?_
          rintro e w8 ⟨rfl, h8, m8⟩
          obtain ⟨p0, p1, p2, p3, p4, p5, p6, p7⟩ := fcells h8.blk
          have hlF := h8.blk.lt
          have q0 := h8.blk.frozen 0
          have q1 := h8.blk.frozen 1
          have q2 := h8.blk.frozen 2
          have q3 := h8.blk.frozen 3
          have q4 := h8.blk.frozen 4
          have q5 := h8.blk.frozen 5
          have q6 := h8.blk.frozen 6
          have h9 := hide (h8.set_data x7)
          have m9 := hide ((m7.out.trans m8 (by simp)).setCell (p := ⟨F, 5, none⟩) (.inl (by simp)) (.string x7))
          clear h7 m7 h8 m8
          go_wp2_with fail
          go_end0
          rw [HE.out]
          rw [if_pos HB4.out]
          exact ⟨rfl, h9.out, m9.out⟩
  · have HB4 := hide h4
    have j4 : (((f.kind / 4 % 2 * 4 : Nat) : Int) != 0) = false := by rw [show f.kind / 4 % 2 = 0 by omega]; rfl
    clear h4
    cases s1 with
    | none =>
      obtain rfl : s5 = none := by rw [← HS5.out, if_neg HB4.out]
      obtain rfl : s6 = none := by rw [← HS6.out]; split <;> rfl
      go_enter Tryd.func47, Tryd.ntmps47
      obtain ⟨p0, p1, p2, p3, p4, p5, p6, p7⟩ := fcells H.out.blk
      have hlF := H.out.blk.lt
      have q0 := H.out.blk.frozen 0
      have q1 := H.out.blk.frozen 1
      have q2 := H.out.blk.frozen 2
      have q3 := H.out.blk.frozen 3
      have q4 := H.out.blk.frozen 4
      have q5 := H.out.blk.frozen 5
      have q6 := H.out.blk.frozen 6
      have h1 := hide (H.out.set_kind 8)
      have m1 := hide ((Mod.refl [R, F] w).setCell (p := ⟨F, 0, none⟩) (.inl (by simp)) (.int .u64 (8 : Nat)))
      go_wp2_with fail
      clear p0 p1 p2 p3 p4 p5 p6 p7 hlF q0 q1 q2 q3 q4 q5 q6
      refine (h1.out.num E1.out).mono ?_
      rintro e w2 ⟨rfl, h2, m2⟩
      obtain ⟨p0, p1, p2, p3, p4, p5, p6, p7⟩ := fcells h2.blk
      have hlF := h2.blk.lt
      have q0 := h2.blk.frozen 0
      have q1 := h2.blk.frozen 1
      have q2 := h2.blk.frozen 2
      have q3 := h2.blk.frozen 3
      have q4 := h2.blk.frozen 4
      have q5 := h2.blk.frozen 5
      have q6 := h2.blk.frozen 6
      have h3 := hide (h2.set_a x1)
      have m3 := hide ((m1.out.trans m2 (by simp)).setCell (p := ⟨F, 1, none⟩) (.inl (by simp)) (.int .u64 x1))
      obtain ⟨sr, r0, r1, u0, u1, hlR, _, _⟩ := h2.cells
      first | simp only [Option.isNone_some] at r1 | simp only [Option.isNone_none] at r1
      have hne := h2.ne
      have hne2 := Ne.symm hne
      have h5 := h3.out
      have m5 := m3.out
      clear h3 m3 h1 m1 h2 m2
      have h7 := hide ((h5.set_bad true none (.inl ⟨rfl, rfl⟩)).set_fin fb)
      have m7 := hide ((m5.setCell (p := ⟨R, 1, none⟩) (.inl (by simp)) (.bool true)).setCell (p := ⟨F, 4, none⟩) (.inl (by simp)) (.bool fb))
      clear h5 m5
      go_wp2_with fail
      clear p0 p1 p2 p3 p4 p5 p6 p7 hlF q0 q1 q2 q3 q4 q5 q6
      clear r0 r1 u0 u1 hlR
      refine (h7.out.text E7.out).mono ?_
      rintro e w8 ⟨rfl, h8, m8⟩
      obtain ⟨p0, p1, p2, p3, p4, p5, p6, p7⟩ := fcells h8.blk
      have hlF := h8.blk.lt
      have q0 := h8.blk.frozen 0
      have q1 := h8.blk.frozen 1
      have q2 := h8.blk.frozen 2
      have q3 := h8.blk.frozen 3
      have q4 := h8.blk.frozen 4
      have q5 := h8.blk.frozen 5
      have q6 := h8.blk.frozen 6
      have h9 := hide (h8.set_data x7)
      have m9 := hide ((m7.out.trans m8 (by simp)).setCell (p := ⟨F, 5, none⟩) (.inl (by simp)) (.string x7))
      clear h7 m7 h8 m8
      go_wp2_with fail
      go_end0
      rw [HE.out]
      rw [if_neg HB4.out]
      exact ⟨rfl, h9.out, m9.out⟩
    | some l1 =>
      obtain rfl : s5 = some l1 := by rw [← HS5.out, if_neg HB4.out]
      by_cases h2 : f.kind / 2 % 2 = 0
      · have j2 : (((f.kind / 2 % 2 * 2 : Nat) : Int) == 0) = true := by rw [h2]; rfl
        replace j2 : ((f.kind : Int) / 2 % 2 * 2 == 0) = true := j2
        obtain rfl : s6 = none := by rw [← HS6.out, if_pos h2]
        clear h2
        go_enter Tryd.func47, Tryd.ntmps47
        obtain ⟨p0, p1, p2, p3, p4, p5, p6, p7⟩ := fcells H.out.blk
        have hlF := H.out.blk.lt
        have q0 := H.out.blk.frozen 0
        have q1 := H.out.blk.frozen 1
        have q2 := H.out.blk.frozen 2
        have q3 := H.out.blk.frozen 3
        have q4 := H.out.blk.frozen 4
        have q5 := H.out.blk.frozen 5
        have q6 := H.out.blk.frozen 6
        have h1 := hide (H.out.set_kind 8)
        have m1 := hide ((Mod.refl [R, F] w).setCell (p := ⟨F, 0, none⟩) (.inl (by simp)) (.int .u64 (8 : Nat)))
        go_wp2_with fail
        clear p0 p1 p2 p3 p4 p5 p6 p7 hlF q0 q1 q2 q3 q4 q5 q6
        refine (h1.out.num E1.out).mono ?_
        rintro e w2 ⟨rfl, h2, m2⟩
        obtain ⟨p0, p1, p2, p3, p4, p5, p6, p7⟩ := fcells h2.blk
        have hlF := h2.blk.lt
        have q0 := h2.blk.frozen 0
        have q1 := h2.blk.frozen 1
        have q2 := h2.blk.frozen 2
        have q3 := h2.blk.frozen 3
        have q4 := h2.blk.frozen 4
        have q5 := h2.blk.frozen 5
        have q6 := h2.blk.frozen 6
        have h3 := hide (h2.set_a x1)
        have m3 := hide ((m1.out.trans m2 (by simp)).setCell (p := ⟨F, 1, none⟩) (.inl (by simp)) (.int .u64 x1))
        obtain ⟨sr, r0, r1, u0, u1, hlR, _, _⟩ := h2.cells
        first | simp only [Option.isNone_some] at r1 | simp only [Option.isNone_none] at r1
        have hne := h2.ne
        have hne2 := Ne.symm hne
        have h5 := h3.out
        have m5 := m3.out
        clear h3 m3 h1 m1 h2 m2
        have h7 := hide ((h5.set_bad true none (.inl ⟨rfl, rfl⟩)).set_fin fb)
        have m7 := hide ((m5.setCell (p := ⟨R, 1, none⟩) (.inl (by simp)) (.bool true)).setCell (p := ⟨F, 4, none⟩) (.inl (by simp)) (.bool fb))
        clear h5 m5
        go_wp2_with fail
        clear p0 p1 p2 p3 p4 p5 p6 p7 hlF q0 q1 q2 q3 q4 q5 q6
        clear r0 r1 u0 u1 hlR
        refine (h7.out.text E7.out).mono ?_
        rintro e w8 ⟨rfl, h8, m8⟩
        obtain ⟨p0, p1, p2, p3, p4, p5, p6, p7⟩ := fcells h8.blk
        have hlF := h8.blk.lt
        have q0 := h8.blk.frozen 0
        have q1 := h8.blk.frozen 1
        have q2 := h8.blk.frozen 2
        have q3 := h8.blk.frozen 3
        have q4 := h8.blk.frozen 4
        have q5 := h8.blk.frozen 5
        have q6 := h8.blk.frozen 6
        have h9 := hide (h8.set_data x7)
        have m9 := hide ((m7.out.trans m8 (by simp)).setCell (p := ⟨F, 5, none⟩) (.inl (by simp)) (.string x7))
        clear h7 m7 h8 m8
        go_wp2_with fail
        go_end0
        rw [HE.out]
        rw [if_neg HB4.out]
        exact ⟨rfl, h9.out, m9.out⟩
      · have j2 : (((f.kind / 2 % 2 * 2 : Nat) : Int) == 0) = false := by rw [show f.kind / 2 % 2 = 1 by omega]; rfl
        replace j2 : ((f.kind : Int) / 2 % 2 * 2 == 0) = false := j2
        obtain rfl : s6 = some l1 := by rw [← HS6.out, if_neg h2]
        clear h2
        go_enter Tryd.func47, Tryd.ntmps47
        obtain ⟨p0, p1, p2, p3, p4, p5, p6, p7⟩ := fcells H.out.blk
        have hlF := H.out.blk.lt
        have q0 := H.out.blk.frozen 0
        have q1 := H.out.blk.frozen 1
        have q2 := H.out.blk.frozen 2
        have q3 := H.out.blk.frozen 3
        have q4 := H.out.blk.frozen 4
        have q5 := H.out.blk.frozen 5
        have q6 := H.out.blk.frozen 6
        have h1 := hide (H.out.set_kind 8)
        have m1 := hide ((Mod.refl [R, F] w).setCell (p := ⟨F, 0, none⟩) (.inl (by simp)) (.int .u64 (8 : Nat)))
        go_wp2_with fail
        clear p0 p1 p2 p3 p4 p5 p6 p7 hlF q0 q1 q2 q3 q4 q5 q6
        refine (h1.out.num E1.out).mono ?_
        rintro e w2 ⟨rfl, h2, m2⟩
        obtain ⟨p0, p1, p2, p3, p4, p5, p6, p7⟩ := fcells h2.blk
        have hlF := h2.blk.lt
        have q0 := h2.blk.frozen 0
        have q1 := h2.blk.frozen 1
        have q2 := h2.blk.frozen 2
        have q3 := h2.blk.frozen 3
        have q4 := h2.blk.frozen 4
        have q5 := h2.blk.frozen 5
        have q6 := h2.blk.frozen 6
        have h3 := hide (h2.set_a x1)
        have m3 := hide ((m1.out.trans m2 (by simp)).setCell (p := ⟨F, 1, none⟩) (.inl (by simp)) (.int .u64 x1))
        obtain ⟨sr, r0, r1, u0, u1, hlR, _, _⟩ := h2.cells
        first | simp only [Option.isNone_some] at r1 | simp only [Option.isNone_none] at r1
        have hne := h2.ne
        have hne2 := Ne.symm hne
        have h5 := h3.out
        have m5 := m3.out
        clear h3 m3 h1 m1 h2 m2
        have h7 := hide ((h5.set_bad false (some l1) (.inr ⟨rfl, rfl, rfl⟩)).set_fin fb)
        have m7 := hide ((m5.setCell (p := ⟨R, 1, none⟩) (.inl (by simp)) (.bool false)).setCell (p := ⟨F, 4, none⟩) (.inl (by simp)) (.bool fb))
        clear h5 m5
        go_wp2_with fail
        clear p0 p1 p2 p3 p4 p5 p6 p7 hlF q0 q1 q2 q3 q4 q5 q6
        clear r0 r1 u0 u1 hlR
        refine (h7.out.text E7.out).mono ?_
        rintro e w8 ⟨rfl, h8, m8⟩
        obtain ⟨p0, p1, p2, p3, p4, p5, p6, p7⟩ := fcells h8.blk
        have hlF := h8.blk.lt
        have q0 := h8.blk.frozen 0
        have q1 := h8.blk.frozen 1
        have q2 := h8.blk.frozen 2
        have q3 := h8.blk.frozen 3
        have q4 := h8.blk.frozen 4
        have q5 := h8.blk.frozen 5
        have q6 := h8.blk.frozen 6
        have h9 := hide (h8.set_data x7)
        have m9 := hide ((m7.out.trans m8 (by simp)).setCell (p := ⟨F, 5, none⟩) (.inl (by simp)) (.string x7))
        clear h7 m7 h8 m8
        go_wp2_with fail
        go_end0
        rw [HE.out]
        rw [if_neg HB4.out]
        exact ⟨rfl, h9.out, m9.out⟩
end Go.Proofs.YtbjmcnmcodbkdaaDoor

/-
  frames: the reader's shaped.
-/
namespace Go.Proofs.YtbjmcnmcodbkdaaDoor
open Go.RowKit

section
variable {w : World} {R F : Nat} {A : Option Addr} {n c : Nat} {f : Fr} {st : RS}
theorem RF.alloc (h : RF w R F A n c f st) (o : Obj) : RF (w.alloc o) R F A n c f st := ⟨h.blk.alloc o, h.rd.mod ((Mod.refl [] w).alloc o) (by simp)⟩
end
theorem rshN_ge {j n : Nat} (f : Fr) (st : RS) (h : ¬ j < n) : rshN (j + 1) n f st = rshN j n f st := by
  have a1 : (0 < j + 1 ∧ 0 < n) ↔ (0 < j ∧ 0 < n) := by omega
  have a2 : (1 < j + 1 ∧ 1 < n) ↔ (1 < j ∧ 1 < n) := by omega
  have a3 : (2 < j + 1 ∧ 2 < n) ↔ (2 < j ∧ 2 < n) := by omega
  unfold rshN
  simp only [a1, a2, a3]
theorem rshN0 {n : Nat} (f : Fr) (st : RS) : rshN 0 n f st = (f, st) := by
  unfold rshN
  simp
theorem rshN1 {n : Nat} (f : Fr) (st : RS) (h : 0 < n) : rshN 1 n f st = ({ (rshN 0 n f st).1 with a := (rnum (rshN 0 n f st).2).1 }, (rnum (rshN 0 n f st).2).2) := by
  unfold rshN
  simp [h]
theorem rshN2 {n : Nat} (f : Fr) (st : RS) (h : 1 < n) : rshN 2 n f st = ({ (rshN 1 n f st).1 with b := (rnum (rshN 1 n f st).2).1 }, (rnum (rshN 1 n f st).2).2) := by
  unfold rshN
  simp [h, show 0 < n by omega]
theorem rshN3 {n : Nat} (f : Fr) (st : RS) (h : 2 < n) : rshN 3 n f st = ({ (rshN 2 n f st).1 with c := (rnum (rshN 2 n f st).2).1 }, (rnum (rshN 2 n f st).2).2) := by
  unfold rshN
  simp [h, show 0 < n by omega, show 1 < n by omega]

set_option maxRecDepth 100000 in
set_option maxHeartbeats 8000000 in
theorem rshaped_any (w : World) (R F : Nat) (s : Shp) (hs : s.n ≤ 3) (hx : s.x ≤ 8) (A : Option Addr) (m c : Nat) (f : Fr) (st : RS) (h : RF w R F A m c f st) :
    Calls Tryd.prog 44 #[.pointer (some ⟨R, 0, none⟩), .pointer (some ⟨F, 0, none⟩), shval s] w fun e w' => e = .returned (.tuple #[]) ∧ RF w' R F A m c (rshaped s f st).1 (rshaped s f st).2 ∧ Mod [R, F] w w' := by
  obtain ⟨n, t, x⟩ := s
  simp only at hs hx
  have h1 := h.alloc (.cells #[.int .i64 (n : Nat), .bool t, .int .i64 (x : Nat)] 72)
  have hsb : Blk (w.alloc (.cells #[.int .i64 (n : Nat), .bool t, .int .i64 (x : Nat)] 72)) w.heap.size 72 #[.int .i64 (n : Nat), .bool t, .int .i64 (x : Nat)] := Blk.new _ _ _
  have hm : Mod [R, F] w (w.alloc (.cells #[.int .i64 (n : Nat), .bool t, .int .i64 (x : Nat)] 72)) := (Mod.refl _ _).alloc _
  have h2 := h1.alloc (.cells #[.pointer (some ⟨F, 1, none⟩), .pointer (some ⟨F, 2, none⟩), .pointer (some ⟨F, 3, none⟩)] 92)
  have hsb2 := hsb.alloc (.cells #[.pointer (some ⟨F, 1, none⟩), .pointer (some ⟨F, 2, none⟩), .pointer (some ⟨F, 3, none⟩)] 92)
  have hm2 := hm.alloc (.cells #[.pointer (some ⟨F, 1, none⟩), .pointer (some ⟨F, 2, none⟩), .pointer (some ⟨F, 3, none⟩)] 92)
  have hpb : Blk ((w.alloc (.cells #[.int .i64 (n : Nat), .bool t, .int .i64 (x : Nat)] 72)).alloc (.cells #[.pointer (some ⟨F, 1, none⟩), .pointer (some ⟨F, 2, none⟩), .pointer (some ⟨F, 3, none⟩)] 92)) (w.heap.size + 1) 92 #[.pointer (some ⟨F, 1, none⟩), .pointer (some ⟨F, 2, none⟩), .pointer (some ⟨F, 3, none⟩)] := by
    have := Blk.new (w.alloc (.cells #[.int .i64 (n : Nat), .bool t, .int .i64 (x : Nat)] 72)) 92 #[.pointer (some ⟨F, 1, none⟩), .pointer (some ⟨F, 2, none⟩), .pointer (some ⟨F, 3, none⟩)]
    rw [World.size_alloc] at this
    exact this
  have hFl := h.blk.lt
  have hRl := h.rd.lt
  have H2 := hide h2
  have HSB2 := hide hsb2
  have HPB := hide hpb
  have HM2 := hide hm2
  clear h h1 hsb hm h2 hsb2 hm2 hpb
  unfold shval
  go_enter Tryd.func44, Tryd.ntmps44
  go_wp2_with fail
  go_region
  obtain ⟨w4, hw4⟩ : ∃ w4, ((w.alloc (.cells #[.int .i64 (n : Nat), .bool t, .int .i64 (x : Nat)] 72)).alloc (.cells #[.pointer (some ⟨F, 1, none⟩), .pointer (some ⟨F, 2, none⟩), .pointer (some ⟨F, 3, none⟩)] 92)).drew = w4 := ⟨_, rfl⟩
  have h4 : RF w4 R F A m c f st := by rw [← hw4]; exact H2.out.drewN 1
  have hs4 : Blk w4 w.heap.size 72 #[.int .i64 (n : Nat), .bool t, .int .i64 (x : Nat)] := by rw [← hw4]; exact HSB2.out
  have hp4 : Blk w4 (w.heap.size + 1) 92 #[.pointer (some ⟨F, 1, none⟩), .pointer (some ⟨F, 2, none⟩), .pointer (some ⟨F, 3, none⟩)] := by rw [← hw4]; exact HPB.out
  have hm4 : Mod [R, F] w w4 := by rw [← hw4]; exact HM2.out.drew
  rw [hw4]
  obtain ⟨sb, hse⟩ : ∃ sb, w.heap.size = sb := ⟨_, rfl⟩
  have hsw : w.heap.size ≤ sb := by omega
  rw [hse] at hs4 hp4 hFl hRl
  simp only [hse]
  have H4 := hide h4
  have HS4 := hide hs4
  have HP4 := hide hp4
  have HM4 := hide hm4
  clear H2 HSB2 HPB HM2 h4 hs4 hp4 hm4 hw4 hse hsw
  go_wp2_with fail
  go_loopw [19] (fun iv wr => ∃ j : Nat, j ≤ 3 ∧ iv = .int .i64 (j : Int) ∧ RF wr R F A m c (rshN j n f st).1 (rshN j n f st).2 ∧ Mod [R, F] w4 wr) (fun iv _ => 3 - (intOf iv).toNat)
  case atStart => exact ⟨0, by omega, rfl, by rw [rshN0]; exact H4.out, Mod.refl _ _⟩
  case round =>
    clear H4
    obtain ⟨j, hj, rfl, hf, hm⟩ := hrel
    have hsb := hm.blk HS4.out (by simp; omega)
    have hpb := hm.blk HP4.out (by simp; omega)
    have s0 : wr.cell? ⟨sb, 0, none⟩ = some (.int .i64 (n : Nat)) := hsb.cell 0
    have hsl := hsb.lt
    have hpl := hpb.lt
    by_cases h : j < 3
    · by_cases hn : j < n
      · have hlt : decide ((j : Int) < n) = true := decide_eq_true (by omega)
        have j3 : j = 0 ∨ j = 1 ∨ j = 2 := by omega
        obtain ⟨x1, s1, e1, b1⟩ := numE (rshN j n f st).2
        have E1 := hide e1
        rcases j3 with rfl | rfl | rfl
        · have p0 : wr.cell? ⟨sb + 1, 0, none⟩ = some (.pointer (some ⟨F, 1, none⟩)) := hpb.cell 0
          have hst := rshN1 f st hn
          rw [e1] at hst
          have HSt := hide hst
          have HF := hide hf
          have HM := hide hm
          clear e1 hst hf hm hsb hpb
          go_wp2_with fail
          refine (HF.out.num E1.out).mono ?_
          rintro e w6 ⟨rfl, h6, m6⟩
          obtain ⟨p0, p1, p2, p3, p4, p5, p6, p7⟩ := fcells h6.blk
          have hlF := h6.blk.lt
          have q0 := h6.blk.frozen 0
          have q1 := h6.blk.frozen 1
          have q2 := h6.blk.frozen 2
          have q3 := h6.blk.frozen 3
          have q4 := h6.blk.frozen 4
          have q5 := h6.blk.frozen 5
          have q6 := h6.blk.frozen 6
          have h7 := hide (h6.set_a x1)
          have m7 := hide (((HM.out.trans m6 (by simp)).setCell (p := ⟨F, 1, none⟩) (.inl (by simp)) (.int .u64 x1)))
          clear h6 m6
          go_wp2_with fail
          go_roundw
          case rel => exact ⟨1, by omega, by go_num, by rw [HSt.out]; exact h7.out, m7.out⟩
          case measure => simp [intOf]
        · have p0 : wr.cell? ⟨sb + 1, 1, none⟩ = some (.pointer (some ⟨F, 2, none⟩)) := hpb.cell 1
          have hst := rshN2 f st hn
          rw [e1] at hst
          have HSt := hide hst
          have HF := hide hf
          have HM := hide hm
          clear e1 hst hf hm hsb hpb
          go_wp2_with fail
          refine (HF.out.num E1.out).mono ?_
          rintro e w6 ⟨rfl, h6, m6⟩
          obtain ⟨p0, p1, p2, p3, p4, p5, p6, p7⟩ := fcells h6.blk
          have hlF := h6.blk.lt
          have q0 := h6.blk.frozen 0
          have q1 := h6.blk.frozen 1
          have q2 := h6.blk.frozen 2
          have q3 := h6.blk.frozen 3
          have q4 := h6.blk.frozen 4
          have q5 := h6.blk.frozen 5
          have q6 := h6.blk.frozen 6
          have h7 := hide (h6.set_b x1)
          have m7 := hide (((HM.out.trans m6 (by simp)).setCell (p := ⟨F, 2, none⟩) (.inl (by simp)) (.int .u64 x1)))
          clear h6 m6
          go_wp2_with fail
          go_roundw
          case rel => exact ⟨2, by omega, by go_num, by rw [HSt.out]; exact h7.out, m7.out⟩
          case measure => simp [intOf]
        · have p0 : wr.cell? ⟨sb + 1, 2, none⟩ = some (.pointer (some ⟨F, 3, none⟩)) := hpb.cell 2
          have hst := rshN3 f st hn
          rw [e1] at hst
          have HSt := hide hst
          have HF := hide hf
          have HM := hide hm
          clear e1 hst hf hm hsb hpb
          go_wp2_with fail
          refine (HF.out.num E1.out).mono ?_
          rintro e w6 ⟨rfl, h6, m6⟩
          obtain ⟨p0, p1, p2, p3, p4, p5, p6, p7⟩ := fcells h6.blk
          have hlF := h6.blk.lt
          have q0 := h6.blk.frozen 0
          have q1 := h6.blk.frozen 1
          have q2 := h6.blk.frozen 2
          have q3 := h6.blk.frozen 3
          have q4 := h6.blk.frozen 4
          have q5 := h6.blk.frozen 5
          have q6 := h6.blk.frozen 6
          have h7 := hide (h6.set_c x1)
          have m7 := hide (((HM.out.trans m6 (by simp)).setCell (p := ⟨F, 3, none⟩) (.inl (by simp)) (.int .u64 x1)))
          clear h6 m6
          go_wp2_with fail
          go_roundw
          case rel => exact ⟨3, by omega, by go_num, by rw [HSt.out]; exact h7.out, m7.out⟩
          case measure => simp [intOf]
      · have hlt : decide ((j : Int) < n) = false := decide_eq_false (by omega)
        have hfin := rshN_ge f st hn
        rw [← hfin] at hf
        have HF := hide hf
        have j3 : j = 0 ∨ j = 1 ∨ j = 2 := by omega
        rcases j3 with rfl | rfl | rfl
        · have p0 : wr.cell? ⟨sb + 1, 0, none⟩ = some (.pointer (some ⟨F, 1, none⟩)) := hpb.cell 0
          clear hfin hsb hpb hf
          go_wp2_with fail
          go_roundw
          case rel => exact ⟨1, by omega, by go_num, HF.out, hm⟩
          case measure => simp [intOf]
        · have p0 : wr.cell? ⟨sb + 1, 1, none⟩ = some (.pointer (some ⟨F, 2, none⟩)) := hpb.cell 1
          clear hfin hsb hpb hf
          go_wp2_with fail
          go_roundw
          case rel => exact ⟨2, by omega, by go_num, HF.out, hm⟩
          case measure => simp [intOf]
        · have p0 : wr.cell? ⟨sb + 1, 2, none⟩ = some (.pointer (some ⟨F, 3, none⟩)) := hpb.cell 2
          clear hfin hsb hpb hf
          go_wp2_with fail
          go_roundw
          case rel => exact ⟨3, by omega, by go_num, HF.out, hm⟩
          case measure => simp [intOf]
    · have hj3 : j = 3 := by omega
      subst hj3
      have s1 : wr.cell? ⟨sb, 1, none⟩ = some (.bool t) := hsb.cell 1
      have s2 : wr.cell? ⟨sb, 2, none⟩ = some (.int .i64 (x : Nat)) := hsb.cell 2
      obtain ⟨g3, s3, hg3⟩ : ∃ g3 s3, rshN 3 n f st = (g3, s3) := ⟨_, _, rfl⟩
      rw [hg3] at hf
      simp only at hf
      have HF := hide hf
      have HM := hide (HM4.out.trans hm (by simp))
      clear hf hm
      have j4 : (3 : Int) ≤ 3 := by omega
      cases t with
      | true =>
        obtain ⟨x7, s7, e7⟩ := textE s3
        have hE : rshaped ⟨n, true, x⟩ f st = ({ g3 with data := x7 }, s7) := by
          unfold rshaped rtail
          simp [hg3, e7]
        have HE := hide hE
        have E7 := hide e7
        clear hE e7 hg3 hsb hpb
        go_wp2_with fail
        refine (HF.out.text E7.out).mono ?_
        rintro e w6 ⟨rfl, h6, m6⟩
        obtain ⟨p0, p1, p2, p3, p4, p5, p6, p7⟩ := fcells h6.blk
        have hlF := h6.blk.lt
        have q0 := h6.blk.frozen 0
        have q1 := h6.blk.frozen 1
        have q2 := h6.blk.frozen 2
        have q3 := h6.blk.frozen 3
        have q4 := h6.blk.frozen 4
        have q5 := h6.blk.frozen 5
        have q6 := h6.blk.frozen 6
        have h7 := hide (h6.set_data x7)
        have m7 := hide (((HM.out.trans m6 (by simp)).setCell (p := ⟨F, 5, none⟩) (.inl (by simp)) (.string x7)))
        clear h6 m6
        go_wp2_with fail
        go_end0
        rw [HE.out]
        exact ⟨rfl, h7.out, m7.out⟩
      | false =>
        by_cases hx0 : 0 < x
        · obtain ⟨x7, s7, e7⟩ := takeE x s3
          have hE : rshaped ⟨n, false, x⟩ f st = ({ g3 with data := x7 }, s7) := by
            unfold rshaped rtail
            simp [hg3, e7, hx0]
          have HE := hide hE
          have E7 := hide e7
          have hxi : (0 : Int) < x := by omega
          clear hE e7 hg3 hsb hpb
          go_wp2_with fail
          refine (HF.out.take (by omega) E7.out).mono ?_
          rintro e w6 ⟨rfl, h6, m6⟩
          obtain ⟨p0, p1, p2, p3, p4, p5, p6, p7⟩ := fcells h6.blk
          have hlF := h6.blk.lt
          have q0 := h6.blk.frozen 0
          have q1 := h6.blk.frozen 1
          have q2 := h6.blk.frozen 2
          have q3 := h6.blk.frozen 3
          have q4 := h6.blk.frozen 4
          have q5 := h6.blk.frozen 5
          have q6 := h6.blk.frozen 6
          have h7 := hide (h6.set_data x7)
          have m7 := hide (((HM.out.trans m6 (by simp)).setCell (p := ⟨F, 5, none⟩) (.inl (by simp)) (.string x7)))
          clear h6 m6
          go_wp2_with fail
          go_end0
          rw [HE.out]
          exact ⟨rfl, h7.out, m7.out⟩
        · have hE : rshaped ⟨n, false, x⟩ f st = (g3, s3) := by
            unfold rshaped
            simp [hg3, hx0]
          have HE := hide hE
          have hxi : ¬ (0 : Int) < x := by omega
          clear hE hg3 hsb hpb
          go_wp2_with fail
          go_end0
          rw [HE.out]
          exact ⟨rfl, HF.out, HM.out⟩
end Go.Proofs.YtbjmcnmcodbkdaaDoor

/-
  frames: the reader's ranges.
-/
namespace Go.Proofs.YtbjmcnmcodbkdaaDoor
open Go.RowKit

def rcells (x : Nat × Nat) : List Value := [.int .u64 (x.1 : Nat), .int .u64 (x.2 : Nat)]
theorem rangeInfo : (Tryd.prog.info? 47).map (fun i => (i.zero, i.size, i.bytes)) = some (some (.agg #[.int .u64 0, .int .u64 0]), 2, 16) := by kernel_rfl
theorem flat_len {α : Type} (f : α → List Value) (k : Nat) (hf : ∀ x, (f x).length = k) (l : List α) : (l.flatMap f).length = l.length * k := by
  induction l with
  | nil => simp
  | cons x l ih => simp [hf, ih, Nat.add_mul]; omega
theorem flat_get {α : Type} (f : α → List Value) (k : Nat) (hf : ∀ x, (f x).length = k) : ∀ (l : List α) (i j : Nat) (x : α), l[i]? = some x → j < k → (l.flatMap f)[i * k + j]? = (f x)[j]?
  | [], i, j, x, h, _ => by simp at h
  | y :: l, 0, j, x, h, hj => by
    simp at h
    subst h
    rw [List.flatMap_cons, Nat.zero_mul, Nat.zero_add, List.getElem?_append_left (by rw [hf]; exact hj)]
  | y :: l, i + 1, j, x, h, hj => by
    rw [List.flatMap_cons, List.getElem?_append_right (by rw [hf, Nat.add_mul]; omega), hf]
    have e : (i + 1) * k + j - k = i * k + j := by rw [Nat.add_mul]; omega
    rw [e]
    exact flat_get f k hf l i j x (by simpa using h) hj
/-- ranges of one's own -/
def ROwn (w : World) (B : Nat) (A : Option Addr) (c : Nat) (l : List (Nat × Nat)) : Prop := w.ownsRow B 47 2 (.slice A l.length c) l.length (l.flatMap rcells)
theorem ROwn.nil (w : World) (B : Nat) : ROwn w B none 0 [] := World.ownsRow_nil _ _ _ _
theorem ROwn.mod {F : List Nat} {w w' : World} {B : Nat} {A : Option Addr} {c : Nat} {l : List (Nat × Nat)} (h : ROwn w B A c l) (m : Mod F w w') (hF : ∀ g o, A = some ⟨g, o, none⟩ → g ∉ F) : ROwn w' B A c l :=
  m.own h (fun k hk => by
    cases A with
    | none => simp [Value.ownBlock] at hk
    | some a =>
      have : a.block = k := by simpa [Value.ownBlock] using hk
      subst this
      rcases h.2 with ⟨h0, _⟩ | ⟨g, cap, cur, hv, _⟩
      · cases h0
      · cases hv
        exact hF _ _ rfl)
theorem ROwn.base {w : World} {B B' : Nat} {A : Option Addr} {c : Nat} {l : List (Nat × Nat)} (h : ROwn w B A c l) (hB : B' ≤ B) : ROwn w B' A c l := by
  refine ⟨h.1, ?_⟩
  rcases h.2 with h0 | ⟨g, cap, cur, hv, hg, r⟩
  · exact .inl h0
  · exact .inr ⟨g, cap, cur, hv, Nat.le_trans hB hg, r⟩
theorem ROwn.ne {w : World} {B : Nat} {A : Option Addr} {c : Nat} {l : List (Nat × Nat)} (h : ROwn w B A c l) {g0 : Nat} {t : TypeId} {cs : Array Value} (hb : Blk w g0 t cs) (ht : 47 ≠ t) : ∀ g o, A = some ⟨g, o, none⟩ → g ≠ g0 := by
  rintro g o rfl
  exact own_blk_ne h hb ht g rfl
/-- read as ranges -/
theorem ROwn.rngs {w : World} {B : Nat} {A : Option Addr} {c : Nat} {l : List (Nat × Nat)} (h : ROwn w B A c l) (hl : l.length ≤ 4611686018427387904) : Rngs w A l.length l := by
  refine ⟨rfl, hl, ?_⟩
  rcases h.2 with ⟨h0, h1⟩ | ⟨g, cap, cur, hv, _, hh, _⟩
  · left
    have := congrArg (fun v => match v with | Value.slice _ n _ => n | _ => 0) h0
    exact this
  · cases hv
    refine .inr ⟨g, 0, rfl, Blk.lt hh, fun i x hx => ?_⟩
    have hc := (World.ownsRow.cells h (g := g) rfl)
    have l2 : ∀ y, (rcells y).length = 2 := fun _ => rfl
    have a := hc (i * 2) _ ((flat_get rcells 2 l2 l i 0 x hx (by omega)).trans rfl)
    have b := hc (i * 2 + 1) _ ((flat_get rcells 2 l2 l i 1 x hx (by omega)).trans rfl)
    rw [Addr.add_lit] at a b
    exact ⟨a, by rw [Nat.add_assoc]; exact b⟩

theorem rrng_hi {k high x1 : Nat} {f : Fr} {l : List UInt8} {s1 : RS} (e : rnum (some l) = (x1, s1)) (h : high < x1) : rrng k high f (some l) = (f, none) := by
  cases k with
  | zero => unfold rrng; rw [e, if_pos h]
  | succ k => unfold rrng; rw [e, if_pos h]
theorem rrng_end {high x1 : Nat} {f : Fr} {l : List UInt8} {s1 : RS} (e : rnum (some l) = (x1, s1)) (h : ¬ high < x1) : rrng 0 high f (some l) = ({ f with list := f.list ++ [(high - x1, high)] }, s1) := by
  unfold rrng; rw [e, if_neg h]
theorem rrng_gap {k high x1 x2 : Nat} {f : Fr} {l : List UInt8} {s1 s2 : RS} (e : rnum (some l) = (x1, s1)) (e2 : rnum s1 = (x2, s2)) (h : ¬ high < x1) (h2 : high - x1 < x2 + 2) : rrng (k + 1) high f (some l) = ({ f with list := f.list ++ [(high - x1, high)] }, none) := by
  conv => lhs; unfold rrng
  simp only [e, e2]
  rw [if_neg h, if_pos h2]
theorem rrng_step {k high x1 x2 : Nat} {f : Fr} {l : List UInt8} {s1 s2 : RS} (e : rnum (some l) = (x1, s1)) (e2 : rnum s1 = (x2, s2)) (h : ¬ high < x1) (h2 : ¬ high - x1 < x2 + 2) : rrng (k + 1) high f (some l) = rrng k (high - x1 - x2 - 2) { f with list := f.list ++ [(high - x1, high)] } s2 := by
  conv => lhs; unfold rrng
  simp only [e, e2]
  rw [if_neg h, if_neg h2]
end Go.Proofs.YtbjmcnmcodbkdaaDoor

/-
  frames: the reader's ranges, acked: the walks.
-/
namespace Go.Proofs.YtbjmcnmcodbkdaaDoor
open Go.RowKit

/-- behind the ranges: the frame, its list, the reader -/
def RPostR (w : World) (R F : Nat) (x : Fr × RS) (w' : World) : Prop := ∃ A c, RF w' R F A x.1.list.length c x.1 x.2 ∧ ROwn w' w.heap.size A c x.1.list ∧ x.1.list.length ≤ 64 ∧ Mod [R, F] w w'
theorem RPostR.of {w w' : World} {R F : Nat} {x y : Fr × RS} {A : Option Addr} {c : Nat} (e : y = x) (h : RF w' R F A x.1.list.length c x.1 x.2) (o : ROwn w' w.heap.size A c x.1.list) (hl : x.1.list.length ≤ 64) (m : Mod [R, F] w w') : RPostR w R F y w' := by
  subst e; exact ⟨A, c, h, o, hl, m⟩

set_option maxRecDepth 100000 in
set_option maxHeartbeats 8000000 in
theorem rranges_any (w : World) (R F : Nat) (f : Fr) (st : RS) (hf0 : f.list = []) (h : RF w R F none 0 0 f st) :
    Calls Tryd.prog 68 #[.pointer (some ⟨R, 0, none⟩), .pointer (some ⟨F, 0, none⟩)] w fun e w' => e = .returned (.tuple #[]) ∧ RPostR w R F (rranges f st) w' := by
  obtain ⟨hi0, s1, e1, b1⟩ := numE st
  obtain ⟨a0, s2, e2, b2⟩ := numE s1
  obtain ⟨mo, s3, e3, b3⟩ := numE s2
  have hV : rranges f st = if 64 ≤ mo then ({ f with a := a0 }, none) else rrng mo hi0 { f with a := a0 } s3 := by
    unfold rranges
    simp only [e1, e2, e3]
  have HV := hide hV
  have E1 := hide e1
  have E2 := hide e2
  have E3 := hide e3
  have H := hide h
  have HF0 := hide hf0
  have HL0 : Hid (f.list.length = 0) := hide (by rw [hf0]; rfl)
  have hFl := h.blk.lt
  have hRl := h.rd.lt
  clear h hV e1 e2 e3 hf0
  go_enter Tryd.func68, Tryd.ntmps68
  go_wp2_with fail
  refine (H.out.num E1.out).mono ?_
  rintro e w1 ⟨rfl, h1, m1⟩
  go_wp2_with fail
  refine (h1.num E2.out).mono ?_
  rintro e w2 ⟨rfl, h2, m2⟩
  obtain ⟨p0, p1, p2, p3, p4, p5, p6, p7⟩ := fcells h2.blk
  have hlF := h2.blk.lt
  have q0 := h2.blk.frozen 0
  have q1 := h2.blk.frozen 1
  have q2 := h2.blk.frozen 2
  have q3 := h2.blk.frozen 3
  have q4 := h2.blk.frozen 4
  have q5 := h2.blk.frozen 5
  have q6 := h2.blk.frozen 6
  have h3 := hide (h2.set_a a0)
  have m3 := hide ((m1.trans m2 (by simp)).setCell (p := ⟨F, 1, none⟩) (.inl (by simp)) (.int .u64 a0))
  clear h1 m1 h2 m2
  go_wp2_with fail
  clear p0 p1 p2 p3 p4 p5 p6 p7 hlF q0 q1 q2 q3 q4 q5 q6
  refine (h3.out.num E3.out).mono ?_
  rintro e w4 ⟨rfl, h4, m4⟩
  have H4 := hide h4
  have M4 := hide (m3.out.trans m4 (by simp))
  by_cases h64 : 64 ≤ mo
  · have h64i : (64 : Int) ≤ mo := by omega
    have HV2 := hide (HV.out.trans (if_pos h64))
    obtain ⟨sr, r0, r1, u0, u1, hlR, _, _⟩ := H4.out.cells
    have hz := hide (H4.out.set_bad true none (.inl ⟨rfl, rfl⟩))
    have mz := hide (M4.out.setCell (p := ⟨R, 1, none⟩) (.inl (by simp)) (.bool true))
    clear h64 h4 m4 h3 m3 H M4 H4
    go_wp2_with fail
    refine bodyPost_ret (results_none rfl _ _ _) rfl ?_
    exact ⟨rfl, RPostR.of HV2.out (A := none) (c := 0) (by show RF _ R F none f.list.length 0 _ _; rw [HL0.out]; exact hz.out) (by show ROwn _ _ none 0 f.list; rw [HF0.out]; exact ROwn.nil _ _) (by simp [HF0.out]) mz.out⟩
  · have h64i : ¬ (64 : Int) ≤ mo := by omega
    have HV2 := hide (HV.out.trans (if_neg h64))
    clear h4 m4 h3 m3 H HV
    go_wp2_with fail
    go_loopw [4, 6] (fun hv iv wr => ∃ (j high : Nat) (g : Fr) (s : RS) (A : Option Addr) (c : Nat), j ≤ mo ∧ hv = .int .u64 (high : Int) ∧ iv = .int .u64 (j : Int) ∧ high < 4611686018427387904 ∧ Hid (RF wr R F A g.list.length c g s) ∧ Hid (ROwn wr w.heap.size A c g.list) ∧ Hid (g.list.length = j) ∧ Hid (rranges f st = rrng (mo - j) high g s) ∧ Hid (Mod [R, F] w wr)) (fun _ iv _ => 65 - (intOf iv).toNat)
    case atStart => exact ⟨0, hi0, { f with a := a0 }, s3, none, 0, by omega, rfl, rfl, b1, hide (by show RF _ R F none f.list.length 0 _ _; rw [HL0.out]; exact H4.out), hide (by show ROwn _ _ none 0 f.list; rw [HF0.out]; exact ROwn.nil _ _), hide HL0.out, HV2, M4⟩
    case round =>
      clear H4 M4 HV2 E1 E2 E3
      obtain ⟨j, high, g, s, A, c, hj, rfl, rfl, hhi, hf, ho, hgl, hres, hm⟩ := hrel
      cases s with
      | none =>
        have HE := hide (hres.out.trans (rrng_none _ _ _))
        obtain ⟨sr, r0, r1, u0, u1, hlR, _, _⟩ := hf.out.cells
        simp only [Option.isNone_none] at r1
        clear hres
        go_wp2_with fail
        go_end0
        exact ⟨rfl, RPostR.of HE.out hf.out ho.out (show g.list.length ≤ 64 by have := hgl.out; omega) hm.out⟩
      | some l =>
        obtain ⟨x1, s1, e1, b1⟩ := numE (some l)
        have E1 := hide e1
        obtain ⟨sr, r0, r1, u0, u1, hlR, _, _⟩ := hf.out.cells
        simp only [Option.isNone_some] at r1
        by_cases hx : high < x1
        · have hxi : (high : Int) < x1 := by omega
          have HE := hide (hres.out.trans (rrng_hi e1 hx))
          clear hres hx e1
          go_wp2_with fail
          refine (hf.out.num E1.out).mono ?_
          rintro e w5 ⟨rfl, h5, m5⟩
          have ho5 := ho.out.mod m5 (by
            rintro g o hA hmem
            obtain ⟨s, hr, _⟩ := hf.out.rd
            have a1 := ho.out.ne hf.out.blk (by decide) g o hA
            have a2 := ho.out.ne hr (by decide) g o hA
            simp at hmem
            rcases hmem with h | h <;> contradiction)
          have m5' := hm.out.trans m5 (by simp)
          clear r0 r1 u0 u1 hlR
          obtain ⟨sr, r0, r1, u0, u1, hlR, _, _⟩ := h5.cells
          have hz := hide (h5.set_bad true none (.inl ⟨rfl, rfl⟩))
          have mz := hide (m5'.setCell (p := ⟨R, 1, none⟩) (.inl (by simp)) (.bool true))
          have hne1 := h5.ne
          have hoz := hide (ho5.mod ((Mod.refl [R] w5).setCell (p := ⟨R, 1, none⟩) (.inl (by simp)) (.bool true)) (by
            rintro g o hA hmem
            obtain ⟨s, hr, _⟩ := h5.rd
            have a2 := ho5.ne hr (by decide) g o hA
            simp at hmem
            contradiction))
          clear h5 m5 m5' ho5
          go_wp2_with fail
          refine bodyPost_ret (results_none rfl _ _ _) rfl ?_
          exact ⟨rfl, RPostR.of HE.out hz.out hoz.out (show g.list.length ≤ 64 by have := hgl.out; omega) mz.out⟩
        · have hxi : ¬ (high : Int) < x1 := by omega
          obtain ⟨lo, hlo⟩ : ∃ lo, high - x1 = lo := ⟨_, rfl⟩
          have hlo' : (high : Int) - x1 = lo := by omega
          have hlob : lo < 4611686018427387904 := by omega
          go_wp2_with fail
          refine (hf.out.num E1.out).mono ?_
          rintro e w5 ⟨rfl, h5, m5⟩
          have ho5 := ho.out.mod m5 (by
            rintro g o hA hmem
            obtain ⟨s, hr, _⟩ := hf.out.rd
            have a1 := ho.out.ne hf.out.blk (by decide) g o hA
            have a2 := ho.out.ne hr (by decide) g o hA
            simp at hmem
            rcases hmem with h | h <;> contradiction)
          have m5' := hm.out.trans m5 (by simp)
          clear r0 r1 u0 u1 hlR
          have h6 := h5.alloc (.cells #[.int .u64 (lo : Nat), .int .u64 (high : Nat)] 47)
          have ho6 : ROwn (w5.alloc (.cells #[.int .u64 (lo : Nat), .int .u64 (high : Nat)] 47)) w.heap.size A c g.list := ho5.mod ((Mod.refl [] w5).alloc _) (by simp)
          have m6 := m5'.alloc (.cells #[.int .u64 (lo : Nat), .int .u64 (high : Nat)] 47)
          have hws := m5'.size
          have hgl' := hgl.out
          obtain ⟨A', c', w7, hrun, hown7, m7, hb7⟩ := app_one (P := Tryd.prog) Tryd.underlying24 rangeInfo rfl (w5.alloc (.cells #[.int .u64 (lo : Nat), .int .u64 (high : Nat)] 47)) 24 w.heap.size _ g.list.length _ ho6 (by simp; omega)
            [.int .u64 (lo : Nat), .int .u64 (high : Nat)] rfl (by intro u hu; simp at hu; rcases hu with rfl | rfl <;> rfl) (by omega) (by omega) w5.heap.size (fun j u hu => by rw [(Blk.new w5 _ _).cell j]; simpa using hu)
          have hfar : ∀ k, k ∈ (Value.slice A g.list.length c).ownBlock.toList → k ≠ F ∧ k ≠ R := by
            intro k hk
            have hk' : (Value.slice A g.list.length c).ownBlock = some k := by simpa using hk
            obtain ⟨s, hr, _⟩ := h6.rd
            exact ⟨own_blk_ne ho6 h6.blk (by decide) k hk', own_blk_ne ho6 hr (by decide) k hk'⟩
          have h7 : RF w7 R F A g.list.length c g s1 := ⟨m7.blk h6.blk (fun hk => (hfar F hk).1 rfl), h6.rd.mod m7 (fun hk => (hfar R hk).2 rfl)⟩
          have m7' : Mod [R, F] w w7 := m6.trans m7 (fun x hx => by
            right
            simp at hx
            exact (ho6.lt x hx).1)
          have hlen2 : Hid ((g.list ++ [(lo, high)]).length = j + 1) := hide (by simp [hgl.out])
          have ho7 : ROwn w7 w.heap.size A' c' (g.list ++ [(lo, high)]) := by
            have e : (g.list ++ [(lo, high)]).length = g.list.length + 1 := by simp
            unfold ROwn
            rw [e, List.flatMap_append]
            exact hown7
          have h8 : RF (w7.setCell ⟨F, 7, none⟩ (.slice A' (g.list.length + 1) c')) R F A' (g.list ++ [(lo, high)]).length c' { g with list := g.list ++ [(lo, high)] } s1 := by
            refine ⟨?_, h7.rd.setF h7.ne⟩
            have := h7.blk.set_ 7 (.slice A' (g.list.length + 1) c')
            rw [show (g.list ++ [(lo, high)]).length = g.list.length + 1 by simp]
            exact this
          have m8 := hide (m7'.setCell (p := ⟨F, 7, none⟩) (.inl (by simp)) (.slice A' (g.list.length + 1) c'))
          have ho8 := hide (ho7.mod ((Mod.refl [F] w7).setCell (p := ⟨F, 7, none⟩) (.inl (by simp)) (.slice A' (g.list.length + 1) c')) (by
            rintro g' o hA hmem
            have a2 := ho7.ne h7.blk (by decide) g' o hA
            simp at hmem
            contradiction))
          have H8 := hide h8
          have HRun := hide hrun
          have q7 := h7.blk.frozen 7
          have p7 : w7.cell? ⟨F, 7, none⟩ = some (.slice A g.list.length c) := h7.blk.cell 7
          have hl7 := h7.blk.lt
          have pp7 : (w5.alloc (.cells #[.int .u64 (lo : Nat), .int .u64 (high : Nat)] 47)).cell? ⟨F, 7, none⟩ = some (.slice A g.list.length c) := h6.blk.cell 7
          have p57 : w5.cell? ⟨F, 7, none⟩ = some (.slice A g.list.length c) := h5.blk.cell 7
          have hl5 := h5.blk.lt
          have hl6 := h6.blk.lt
          clear hgl' h5 m5 m5' ho5 h6 ho6 m6 hrun hown7 m7 hb7 hfar h7 m7' ho7 h8
          by_cases hjm : j = mo
          · have HE := hide (hres.out.trans ((congrArg (fun k => rrng k high g (some l)) (show mo - j = 0 by omega)).trans (rrng_end e1 hx)))
            rw [hlo] at HE
            have hjb : ((j : Int) == (mo : Int)) = true := by simp; omega
            clear hres hx e1 hlo
            go_wp2_with (at_builtin; refine Lib.wpList_append_run _ rfl (.tmp 46) (.tmp 50) 24 24 rfl (.slice A g.list.length c) (.slice (some ⟨w5.heap.size, 0, none⟩) 1 1) rfl rfl _ w7 HRun.out ?_)
            refine bodyPost_ret (results_none rfl _ _ _) rfl ?_
            exact ⟨rfl, RPostR.of HE.out H8.out ho8.out (show (g.list ++ [(lo, high)]).length ≤ 64 by have := hlen2.out; omega) m8.out⟩
          · obtain ⟨x2, s2, e2, b2⟩ := numE s1
            have E2 := hide e2
            have hjb : ((j : Int) == (mo : Int)) = false := by simp; omega
            by_cases hg2 : lo < x2 + 2
            · have HE := hide (hres.out.trans ((congrArg (fun k => rrng k high g (some l)) (show mo - j = (mo - j - 1) + 1 by omega)).trans (rrng_gap e1 e2 hx (by omega))))
              rw [hlo] at HE
              have hg2i : (lo : Int) < (x2 : Int) + 2 := by omega
              clear hres hx e1 e2 hlo hg2
              go_wp2_with (at_builtin; refine Lib.wpList_append_run _ rfl (.tmp 46) (.tmp 50) 24 24 rfl (.slice A g.list.length c) (.slice (some ⟨w5.heap.size, 0, none⟩) 1 1) rfl rfl _ w7 HRun.out ?_)
              refine (H8.out.num E2.out).mono ?_
              rintro e w9 ⟨rfl, h9, m9⟩
              have ho9 := ho8.out.mod m9 (by
                rintro g o hA hmem
                obtain ⟨s, hr, _⟩ := H8.out.rd
                have a1 := ho8.out.ne H8.out.blk (by decide) g o hA
                have a2 := ho8.out.ne hr (by decide) g o hA
                simp at hmem
                rcases hmem with h | h <;> contradiction)
              have m9' := m8.out.trans m9 (by simp)
              clear q7 p7 hl7 pp7 p57
              obtain ⟨sr, r0, r1, u0, u1, hlR, _, _⟩ := h9.cells
              have hz := hide (h9.set_bad true none (.inl ⟨rfl, rfl⟩))
              have mz := hide (m9'.setCell (p := ⟨R, 1, none⟩) (.inl (by simp)) (.bool true))
              have hoz := hide (ho9.mod ((Mod.refl [R] w9).setCell (p := ⟨R, 1, none⟩) (.inl (by simp)) (.bool true)) (by
                rintro g o hA hmem
                obtain ⟨s, hr, _⟩ := h9.rd
                have a2 := ho9.ne hr (by decide) g o hA
                simp at hmem
                contradiction))
              clear h9 m9 m9' ho9
              go_wp2_with fail
              refine bodyPost_ret (results_none rfl _ _ _) rfl ?_
              exact ⟨rfl, RPostR.of HE.out hz.out hoz.out (show (g.list ++ [(lo, high)]).length ≤ 64 by have := hlen2.out; omega) mz.out⟩
            · have HE := hide (hres.out.trans ((congrArg (fun k => rrng k high g (some l)) (show mo - j = (mo - (j + 1)) + 1 by omega)).trans (rrng_step e1 e2 hx (by omega))))
              rw [hlo] at HE
              have hg2i : ¬ (lo : Int) < (x2 : Int) + 2 := by omega
              obtain ⟨d, hd⟩ : ∃ d, lo - x2 = d := ⟨_, rfl⟩
              obtain ⟨h2, hh2⟩ : ∃ h2, lo - x2 - 2 = h2 := ⟨_, rfl⟩
              have hd' : (lo : Int) - x2 = d := by omega
              have hh2' : (d : Int) - 2 = h2 := by omega
              rw [hh2] at HE
              have hh2b : h2 < 4611686018427387904 := by omega
              have hd2 : 2 ≤ d := by omega
              have hd3 : x2 ≤ lo := by omega
              clear hres hx e1 e2 hlo hg2 hd hh2
              go_wp2_with (at_builtin; refine Lib.wpList_append_run _ rfl (.tmp 46) (.tmp 50) 24 24 rfl (.slice A g.list.length c) (.slice (some ⟨w5.heap.size, 0, none⟩) 1 1) rfl rfl _ w7 HRun.out ?_)
              refine (H8.out.num E2.out).mono ?_
              rintro e w9 ⟨rfl, h9, m9⟩
              have ho9 := hide (ho8.out.mod m9 (by
                rintro g o hA hmem
                obtain ⟨s, hr, _⟩ := H8.out.rd
                have a1 := ho8.out.ne H8.out.blk (by decide) g o hA
                have a2 := ho8.out.ne hr (by decide) g o hA
                simp at hmem
                rcases hmem with h | h <;> contradiction))
              have m9' := hide (m8.out.trans m9 (by simp))
              have H9 := hide h9
              clear q7 p7 hl7 pp7 p57 h9 m9
              go_wp2_with fail
              go_roundw
              case rel => exact ⟨j + 1, h2, { g with list := g.list ++ [(lo, high)] }, s2, A', c', by omega, by go_num, by go_num, hh2b, H9, ho9, hlen2, HE, m9'⟩
              case measure => simp [intOf]; omega
end Go.Proofs.YtbjmcnmcodbkdaaDoor
