/-
  varints: the walks of the document's package: bytes, laid, most, Put, Take.
-/
import Derived.Test.YtampdiplodhkbaaVarT
namespace Go.Proofs.Ytampdiplodhkbaa
open Go.RowKit

set_option maxRecDepth 100000 in
set_option maxHeartbeats 1000000 in
theorem rbytes_any (w : World) (n : Nat) (hn : n ≤ 18446744073709551615) (k : Nat) (hk : k ≤ 8) :
    Calls Try.prog 44 #[.int .u64 n, .int .i64 k] w fun e w' => e = .returned (str (be n k)) ∧ Mod [] w w' := by
  have hmk := fun w => (Go.run_make_row' (P := Try.prog) 71 5 (.int .u8 0) 1 Try.underlying71 u8info rfl .i64 .i64 k (by omega) (by omega) w).trans (by rw [madeCells_one])
  go_enter Try.func44, Try.ntmps44
  go_wp2_with fail
  have hb0 : Blk (w.alloc (.cells (Array.replicate k (.int .u8 0)) 5)) w.heap.size 5 (hcells n k 0) := by rw [hcells_zero]; exact Blk.new w _ _
  have hm0 : Mod [] w (w.alloc (.cells (Array.replicate k (.int .u8 0)) 5)) := (Mod.refl _ _).alloc _
  go_loopw [0, 6] (fun x i wr => ∃ j : Nat, j ≤ k ∧ i = .int .i64 ((k : Int) - 1 - j) ∧ x = .int .u64 ((n / 256 ^ j : Nat) : Int) ∧ Blk wr w.heap.size 5 (hcells n k j) ∧ Mod [] w wr) (fun _ i _ => (intOf i + 1).toNat)
  case atStart => exact ⟨0, by omega, by go_num, by simp, hb0, hm0⟩
  case round =>
    obtain ⟨j, hj, rfl, rfl, hb, hm⟩ := hrel
    clear hb0 hm0
    have c0 := hb.cell (k - 1 - j)
    have hlt := hb.lt
    have hfz := hb.frozen (k - 1 - j)
    by_cases h : j < k
    · have h1 : ((k : Int) - 1 - j) = ((k - 1 - j : Nat) : Int) := by omega
      have hc : (hcells n k j)[k - 1 - j]? = some ((hcells n k j)[k - 1 - j]'(by rw [hcells_size]; omega)) := Array.getElem?_eq_getElem _
      rw [hc] at c0
      replace c0 : ∃ v, wr.cell? ⟨w.heap.size, k - 1 - j, none⟩ = some v := ⟨_, c0⟩
      obtain ⟨v0, c0⟩ := c0
      have hset := hb.set_ (k - 1 - j) (.int .u8 ((n / 256 ^ j % 256 : Nat) : Int))
      rw [hcells_set n k j h] at hset
      have hpw : n / 256 ^ (j + 1) = n / 256 ^ j / 256 := by rw [Nat.pow_succ, Nat.div_div_eq_div_mul]
      obtain ⟨N, hN⟩ : ∃ N, n / 256 ^ j = N := ⟨_, rfl⟩
      have hNn : N ≤ 18446744073709551615 := by rw [← hN]; exact Nat.le_trans (Nat.div_le_self _ _) hn
      rw [hN] at hset hpw ⊢
      have HPw := hide hpw
      have HSet := hide (show Blk (wr.setCell ⟨w.heap.size, k - 1 - j, none⟩ (.int .u8 ((N : Int) % 256))) w.heap.size 5 (hcells n k (j + 1)) by
        rw [show ((N : Int) % 256) = ((N % 256 : Nat) : Int) by omega]; exact hset)
      obtain ⟨q, hq⟩ : ∃ q, k - 1 - j = q := ⟨_, rfl⟩
      rw [hq] at c0 hfz HSet h1
      have hkq : (k : Int) - 1 - j = q := h1
      rw [hkq]
      have hq1 : (q : Int) - 1 = (k : Int) - 1 - ((j + 1 : Nat) : Int) := by omega
      have Hq1 := hide hq1
      have hqk : (q : Int) < k := by omega
      clear hN hpw hset hb hc h1 hq hkq hq1 
      go_wp2_with fail
      go_roundw
      case rel => exact ⟨j + 1, by omega, by rw [Hq1.out], by rw [HPw.out]; congr 1, HSet.out, hm.setCell (.inr (Nat.le_refl _)) _⟩
      case measure => simp [intOf]
    · have : j = k := by omega
      subst this
      rw [hcells_all] at hb
      have hcv := conv_bytes _ _ _ [] j (by rw [List.append_nil]; exact hb)
      rw [be_length] at hcv
      have hneg : (j : Int) - 1 - j = -1 := by omega
      clear hb c0 h
      go_wp2_with fail
      go_ret
      exact ⟨rfl, hm⟩

set_option maxRecDepth 100000 in
set_option maxHeartbeats 1000000 in
theorem rmost_any (w : World) (k : Nat) (hk : k ≤ 3) :
    Calls Try.prog 36 #[.int .i64 k] w fun e w' => e = .returned (.int .u64 (vbound k : Nat)) ∧ Mod [] w w' := by
  match k, hk with
  | 0, _ =>
    go_enter Try.func36, Try.ntmps36
    go_wp2_with fail
    go_ret
    exact ⟨rfl, (Mod.refl _ _).alloc _⟩
  | 1, _ =>
    go_enter Try.func36, Try.ntmps36
    go_wp2_with fail
    go_ret
    exact ⟨rfl, (Mod.refl _ _).alloc _⟩
  | 2, _ =>
    go_enter Try.func36, Try.ntmps36
    go_wp2_with fail
    go_ret
    exact ⟨rfl, (Mod.refl _ _).alloc _⟩
  | 3, _ =>
    go_enter Try.func36, Try.ntmps36
    go_wp2_with fail
    go_ret
    exact ⟨rfl, (Mod.refl _ _).alloc _⟩

theorem blk_frz (w : World) (g : Nat) (cs : Array Value) (e : TypeId) (fr : Nat × Nat) (h : w.heap[g]? = some (.cells cs e fr)) (i : Nat) (hf : i < fr.1 ∨ fr.2 ≤ i) : w.frozen? ⟨g, i, none⟩ = false := by
  simp [World.frozen?, h]; omega
set_option maxRecDepth 100000 in
set_option maxHeartbeats 1000000 in
theorem rlaid_any (w : World) (n : Nat) (k : Nat) (hk : k ≤ 3) (hn : n < 4611686018427387904) (hv : vk n ≤ k) :
    Calls Try.prog 37 #[.int .u64 n, .int .i64 k] w fun e w' => e = .returned (str (vlay n k)) ∧ Mod [] w w' := by
  obtain ⟨m, b, hm, hm7, hb, hb64, hlay⟩ := vlay_eq hk hv hn
  have hsh : (2 : Nat) ^ k = m + 1 := by
    match k, hk, hm with
    | 0, _, hm => obtain rfl : m = 0 := by simp [vmany] at hm; omega
                  rfl
    | 1, _, hm => obtain rfl : m = 1 := by simp [vmany] at hm; omega
                  rfl
    | 2, _, hm => obtain rfl : m = 3 := by simp [vmany] at hm; omega
                  rfl
    | 3, _, hm => obtain rfl : m = 7 := by simp [vmany] at hm; omega
                  rfl
  have hby := fun w => rbytes_any w n (by omega) (m + 1) (by omega)
  have hk64 : IntKind.u8.wrap ((k : Int) * 64) = ((k : Int) * 64) := IntWalk.u8_in _ (by omega)
  have hk65 : IntKind.u8.wrap ((b : Int) + (k : Int) * 64) = ((b : Int) + (k : Int) * 64) := IntWalk.u8_in _ (by omega)
  have HBy := hide hby
  have HLay := hide hlay
  have HB := hide hb
  have Hm := hide hm
  have HSh := hide hsh
  clear hby hlay hb hv hm hsh
  go_enter Try.func37, Try.ntmps37
  go_wp2_with fail
  go_loopw [5, 6] (fun x i wr => ∃ j : Nat, j ≤ k ∧ i = .int .i64 (j : Int) ∧ x = .int .i64 ((2 ^ j : Nat) : Int) ∧ wr = w) (fun _ i _ => k - (intOf i).toNat)
  case atStart => exact ⟨0, by omega, rfl, rfl, by trivial⟩
  case round =>
    obtain ⟨j, hj, rfl, rfl, rfl⟩ := hrel
    by_cases h : j < k
    · have hp : 2 ^ (j + 1) = 2 ^ j * 2 := Nat.pow_succ 2 j
      have hp4 : 2 ^ j ≤ 2 ^ 3 := Nat.pow_le_pow_right (by omega) (by omega)
      obtain ⟨N, hN⟩ : ∃ N, 2 ^ j = N := ⟨_, rfl⟩
      rw [hN] at hp hp4 ⊢
      have HP := hide hp
      have hp5 : N ≤ 8 := hp4
      clear hp hN hp4
      go_wp2_with fail
      go_roundw
      case rel => exact ⟨j + 1, by omega, by go_num, by rw [HP.out]; go_num, by trivial⟩
      case measure => simp [intOf]; omega
    · have : j = k := by omega
      subst this
      rw [HSh.out]
      obtain ⟨Y, hY⟩ : ∃ Y : ByteArray, Y = ⟨(be n (m + 1)).toArray⟩ := ⟨_, rfl⟩
      have hYl : Y.data.toList = be n (m + 1) := by rw [hY]
      have hYs : Y.size = m + 1 := by rw [hY]; exact be_length n (m + 1)
      have HY : Hid (str (be n (m + 1)) = .string Y) := hide (by rw [hY]; rfl)
      go_wp2_with fail
      refine (HBy.out _).mono ?_
      rintro e w1 ⟨rfl, m1⟩
      rw [HY.out]
      have hcv := Lib.run_convert_string_bytes (P := Try.prog) w1 9 71 5 Y Try.underlying9 Try.underlying71 Try.underlying5
      obtain ⟨cap, hcap⟩ : ∃ cap, grownCap w1 Y.size 0 5 = cap := ⟨_, rfl⟩
      rw [hcap, hYs] at hcv
      have hcell : ∀ j (h : j < (be n (m + 1)).length), (Lib.bytesWorld w1 5 Y).cell? ⟨w1.heap.size, j, none⟩ = some (.int .u8 ((be n (m + 1))[j].toNat : Int)) := fun j h => by
        rw [Lib.bytesWorld_cell w1 _ _ _ (by rw [be_length] at h; omega), hYl]
        simp [h]
      have hfrz : (Lib.bytesWorld w1 5 Y).frozen? ⟨w1.heap.size, 0, none⟩ = false :=
        blk_frz _ _ _ _ _ (Lib.bytesWorld_at_new w1 5 Y) 0 (.inl (by simp [Lib.bytesCells]; omega))
      have hmod : Mod [] w1 (Lib.bytesWorld w1 5 Y) := ⟨rfl, rfl, rfl, by rw [Lib.bytesWorld_size]; omega, fun j hj _ => Lib.bytesWorld_at_old w1 _ _ j hj⟩
      have hszb := Lib.bytesWorld_size w1 5 Y
      obtain ⟨wb, hwb⟩ : ∃ wb, Lib.bytesWorld w1 5 Y = wb := ⟨_, rfl⟩
      rw [hwb] at hcv hcell hmod hszb hfrz
      have c0 := hcell 0 (by rw [be_length]; omega)
      have c0' : wb.cell? ⟨w1.heap.size, 0, none⟩ = some (.int .u8 (b : Int)) := by
        rw [c0]
        simp [be, HB.out, UInt8.toNat_ofNat']; omega
      have hlt : w1.heap.size < wb.heap.size := by omega
      have hlast := run_convert_bytes_back (P := Try.prog) (wb.setCell ⟨w1.heap.size, 0, none⟩ (.int .u8 ((b : Int) + (j : Int) * 64))) 71 9 5 ⟨w1.heap.size, 0, none⟩ cap (vlay n j) Try.underlying71 Try.underlying5 Try.underlying9 (fun i hi => by
        have hll : (vlay n j).length = m + 1 := by unfold vlay; rw [be_length, Hm.out]
        rw [Addr.add_lit, Nat.zero_add]
        cases i with
        | zero =>
          rw [World.cell?_setCell_same' _ _ _ (by rw [c0]; rfl)]
          simp [HLay.out, UInt8.toNat_ofNat']; omega
        | succ i =>
          rw [World.cell?_setCell_other _ _ _ _ (by intro e; cases e), hcell (i + 1) (by rw [be_length]; omega)]
          simp [HLay.out, be])
      have hll : (vlay n j).length = m + 1 := by unfold vlay; rw [be_length, Hm.out]
      rw [hll] at hlast
      clear hcell c0 hszb hwb hcap HY hYl hY hYs hll
      go_wp2_with fail
      go_ret
      exact ⟨rfl, (m1.trans hmod (by simp)).setCell (.inr m1.size) _⟩

set_option maxRecDepth 100000 in
set_option maxHeartbeats 1000000 in
theorem rput_any (w : World) (n : Nat) :
    Calls Try.prog 23 #[.int .u64 n] w fun e w' => e = .returned (.tuple #[str (vputS n), .int .i64 (vputE n)]) ∧ Mod [] w w' := by
  go_enter Try.func23, Try.ntmps23
  go_wp2_with fail
  go_loopw [4] (fun i wr => ∃ j : Nat, (j ≤ vk n ∨ (j = 4 ∧ 4611686018427387903 < n)) ∧ i = .int .i64 (j : Int) ∧ Mod [] w wr) (fun i _ => 4 - (intOf i).toNat)
  case atStart => exact ⟨0, .inl (by omega), rfl, Mod.refl _ _⟩
  case round =>
    obtain ⟨j, hj, rfl, hm⟩ := hrel
    have h3 := vk_le n
    by_cases h : j < 4
    · have hjk : j ≤ vk n := by omega
      obtain ⟨B, hB⟩ : ∃ B, vbound j = B := ⟨_, rfl⟩
      have hmo := fun w => rmost_any w j (by omega)
      rw [hB] at hmo
      have HMo := hide hmo
      by_cases hb : n < B
      · have hk : vk n = j := by
          by_cases h2 : j < 3
          · exact (vk_step h2 hjk).1 (by rw [hB]; exact hb)
          · omega
        have hn : n < 4611686018427387904 := by
          have : B ≤ 4611686018427387904 := by
            rw [← hB]
            have h4 : j = 0 ∨ j = 1 ∨ j = 2 ∨ j = 3 := by omega
            rcases h4 with rfl | rfl | rfl | rfl <;> decide
          omega
        have hly := fun w => rlaid_any w n j (by omega) hn (by omega)
        have hv : Hid (vputS n = vlay n j ∧ vputE n = 0) := hide ⟨by unfold vputS; rw [if_neg (by omega)]; unfold vput; rw [hk], by unfold vputE; rw [if_neg (by omega)]⟩
        have HLy := hide hly
        clear hmo hB hjk hj h3 hk hly
        go_wp2_with fail
        refine (HMo.out _).mono ?_
        rintro e w1 ⟨rfl, m1⟩
        go_wp2_with fail
        refine (HLy.out _).mono ?_
        rintro e w2 ⟨rfl, m2⟩
        go_wp2_with fail
        go_ret2
        exact ⟨by rw [hv.out.1, hv.out.2]; rfl, (hm.trans m1 (by simp)).trans m2 (by simp)⟩
      · have hnext : j + 1 ≤ vk n ∨ (j + 1 = 4 ∧ 4611686018427387903 < n) := by
          by_cases h2 : j < 3
          · exact .inl ((vk_step h2 hjk).2 (by rw [hB]; exact hb))
          · right
            obtain rfl : j = 3 := by omega
            simp [vbound] at hB
            omega
        have HN := hide hnext
        clear hmo hB hjk hj h3 hnext
        go_wp2_with fail
        refine (HMo.out _).mono ?_
        rintro e w1 ⟨rfl, m1⟩
        go_wp2_with fail
        go_roundw
        case rel => exact ⟨j + 1, HN.out, by go_num, hm.trans m1 (by simp)⟩
        case measure => simp [intOf]; omega
    · have hj4 : j = 4 ∧ 4611686018427387903 < n := by omega
      obtain ⟨rfl, hb⟩ := hj4
      have hv : Hid (vputS n = [] ∧ vputE n = 3) := hide ⟨if_pos hb, if_pos hb⟩
      clear hb
      go_wp2_with fail
      go_ret2
      exact ⟨by rw [hv.out.1, hv.out.2]; rfl, hm⟩

theorem getElem_list (x : ByteArray) (i : Nat) (h : i < x.size) (d : UInt8) (hd : x.data.toList[i]? = some d) : x[i]'h = d := by
  rw [List.getElem?_eq_getElem (by have e : x.data.toList.length = x.size := Array.length_toList
                                   omega)] at hd
  have e2 := Option.some.inj hd
  rw [← e2]
  simp [ByteArray.getElem_eq_getElem_data]

set_option maxRecDepth 100000 in
set_option maxHeartbeats 2000000 in
theorem rtake_any (w : World) (x : ByteArray) :
    Calls Try.prog 22 #[.string x] w fun e w' => e = .returned (.tuple #[.int .u64 ((vtake x.data.toList).n : Nat), str (vtake x.data.toList).rest, .int .i64 (vtake x.data.toList).e]) ∧ Mod [] w w' := by
  by_cases h0 : x.size = 0
  · have H1 : Hid (vtake x.data.toList = ⟨0, [], 2⟩) := hide (by
      have e : x.data.toList.length = x.size := Array.length_toList
      have hn : x.data.toList = [] := List.eq_nil_of_length_eq_zero (by omega)
      rw [hn]; rfl)
    go_enter Try.func22, Try.ntmps22
    go_wp2_with fail
    refine bodyPost_ret (results_tmp3 rfl _ _ _) rfl ?_
    exact ⟨by rw [H1.out]; rfl, Mod.refl _ _⟩
  · obtain ⟨c, t, hx⟩ : ∃ c t, x.data.toList = c :: t := by
      cases hl : x.data.toList with
      | nil =>
        have e : x.data.toList.length = x.size := Array.length_toList
        rw [hl] at e; simp at e; omega
      | cons c t => exact ⟨c, t, rfl⟩
    have hsz : x.size = t.length + 1 := by
      have e : x.data.toList.length = x.size := Array.length_toList
      rw [hx] at e; simp at e; omega
    have hsz0 : (0 : Int) < x.size := by omega
    have hx0 : x[0]'(by omega) = c := getElem_list x 0 _ c (by rw [hx]; rfl)
    have hcl := c.toNat_lt
    obtain ⟨k, hk⟩ : ∃ k, c.toNat / 64 = k := ⟨_, rfl⟩
    obtain ⟨r, hr⟩ : ∃ r, c.toNat % 64 = r := ⟨_, rfl⟩
    have hk3 : k ≤ 3 := by omega
    have hr63 : r ≤ 63 := by omega
    have hk' : (c.toNat : Int) / 64 = k := by omega
    have hr' : (c.toNat : Int) % 64 = r := by omega
    obtain ⟨m, hm, hm7⟩ : ∃ m, vmany k = m + 1 ∧ m ≤ 7 := by
      match k, hk3 with
      | 0, _ => exact ⟨0, rfl, by omega⟩
      | 1, _ => exact ⟨1, rfl, by omega⟩
      | 2, _ => exact ⟨3, rfl, by omega⟩
      | 3, _ => exact ⟨7, rfl, by omega⟩
    have HV : Hid (vtake x.data.toList = if t.length + 1 < m + 1 then ⟨0, [], 2⟩ else ⟨numF r (t.take m), t.drop m, 0⟩) := hide (by
      rw [hx]
      unfold vtake
      simp only [hk, hr, hm, Nat.add_sub_cancel, List.length_cons])
    have tbl : ∀ w : World, (w.alloc (.cells #[.int .i64 1, .int .i64 2, .int .i64 4, .int .i64 8] 3)).cell? ⟨w.heap.size, k, none⟩ = some (.int .i64 ((m : Int) + 1)) := fun w => by
      rw [(Blk.new w _ _).cell k]
      match k, hk3, hm with
      | 0, _, hm => obtain rfl : m = 0 := by simp [vmany] at hm; omega
                    rfl
      | 1, _, hm => obtain rfl : m = 1 := by simp [vmany] at hm; omega
                    rfl
      | 2, _, hm => obtain rfl : m = 3 := by simp [vmany] at hm; omega
                    rfl
      | 3, _, hm => obtain rfl : m = 7 := by simp [vmany] at hm; omega
                    rfl
    have t0 := tbl w
    clear hk hr tbl
    by_cases htm : t.length < m
    · have HV2 : Hid (vtake x.data.toList = ⟨0, [], 2⟩) := hide (by rw [HV.out, if_pos (by omega)])
      clear HV hm
      go_enter Try.func22, Try.ntmps22
      go_wp2_with fail
      refine bodyPost_ret (results_tmp3 rfl _ _ _) rfl ?_
      exact ⟨by rw [HV2.out]; rfl, (Mod.refl _ _).alloc _⟩
    · have HV2 : Hid (vtake x.data.toList = ⟨numF r (t.take m), t.drop m, 0⟩) := hide (by rw [HV.out, if_neg (by omega)])
      obtain ⟨D, hD⟩ : ∃ D, t.take m = D := ⟨_, rfl⟩
      have hDl : D.length = m := by rw [← hD, List.length_take]; omega
      have hrest : x.extract (m + 1) (t.length + 1) = ⟨(t.drop m).toArray⟩ := by
        apply ByteArray.ext
        apply Array.ext'
        rw [Lib.extract_data, hx, List.drop_succ_cons, List.take_of_length_le (by rw [List.length_drop]; omega)]
      have hat : ∀ j (h : j < D.length) (h2 : j + 1 < x.size), x[j + 1]'h2 = D[j] := fun j h h2 => getElem_list x (j + 1) _ _ (by
        rw [hx, List.getElem?_cons_succ, ← List.getElem?_eq_getElem h, ← hD, List.getElem?_take, if_pos (by omega)])
      rw [hD] at HV2
      have HAt := hide hat
      have HRest := hide hrest
      have htm' : m ≤ t.length := by omega
      clear HV htm hD hrest hm hat hx
      go_enter Try.func22, Try.ntmps22
      go_wp2_with fail
      go_loopw [7, 8] (fun n i wr => ∃ j : Nat, j ≤ m ∧ i = .int .i64 ((j : Int) + 1) ∧ n = .int .u64 (numF r (D.take j) : Nat) ∧ Mod [] w wr) (fun _ i _ => m + 1 - (intOf i).toNat)
      case atStart => exact ⟨0, by omega, rfl, rfl, (Mod.refl _ _).alloc _⟩
      case round =>
        obtain ⟨j, hj, rfl, rfl, hmw⟩ := hrel
        by_cases h : j < m
        · have hxj := HAt.out j (by omega) (by omega)
          obtain ⟨d, hd⟩ : ∃ d, D[j]'(by omega) = d := ⟨_, rfl⟩
          rw [hd] at hxj
          have hnext : numF r (D.take (j + 1)) = numF r (D.take j) * 256 + d.toNat := by
            rw [← List.take_append_getElem (by omega), hd]
            simp [numF]
          have hbound : numF r (D.take j) < 64 * 256 ^ j := by
            rw [numF_eq]
            have h1 := numF_lt (D.take j)
            have h2 : (D.take j).length = j := by rw [List.length_take]; omega
            rw [h2] at h1 ⊢
            have h3 : r * 256 ^ j ≤ 63 * 256 ^ j := Nat.mul_le_mul_right _ hr63
            omega
          have hp : (256 : Nat) ^ j ≤ 256 ^ 6 := Nat.pow_le_pow_right (by omega) (by omega)
          obtain ⟨N, hN⟩ : ∃ N, numF r (D.take j) = N := ⟨_, rfl⟩
          rw [hN] at hnext hbound ⊢
          have hNb : N < 18014398509481984 := by
            have : (256 : Nat) ^ 6 = 281474976710656 := rfl
            omega
          have hd256 := d.toNat_lt
          have HNext := hide hnext
          clear hnext hbound hp hN hd
          go_wp2_with fail
          go_roundw
          case rel => exact ⟨j + 1, by omega, by go_num, by rw [HNext.out]; go_num, hmw⟩
          case measure => simp [intOf]; omega
        · have hjm : j = m := by omega
          subst hjm
          rw [List.take_of_length_le (by omega)]
          obtain ⟨N, hN⟩ : ∃ N, numF r D = N := ⟨_, rfl⟩
          rw [hN] at HV2 ⊢
          clear hN
          go_wp2_with fail
          go_quiet (fail)
          go_wp2_with fail
          refine bodyPost_ret (results_tmp3 rfl _ _ _) rfl ?_
          exact ⟨by rw [HV2.out, HRest.out]; rfl, hmw.drewN _⟩
end Go.Proofs.Ytampdiplodhkbaa
