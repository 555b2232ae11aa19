/-
  varints: the walk of Take.
-/
import Derived.Test.YtampdiplodhkbaaVar
import Derived.Lib.ConvBytes
import Derived.Lib.Strings
namespace Go.Proofs.Ytampdiplodhkbaa
open Go.RowKit

set_option maxRecDepth 100000 in
set_option maxHeartbeats 2000000 in
theorem vtake_any (w : World) (x : ByteArray) :
    Calls Try.prog 45 #[.string x] w fun e w' => e = .returned (.tuple #[.int .u64 ((vtake x.data.toList).n : Nat), str (vtake x.data.toList).rest, .int .i64 (vtake x.data.toList).e]) ∧ Mod [] w w' := by
  by_cases h0 : x.toList.isEmpty = true
  · have H1 : Hid (vtake x.data.toList = ⟨0, [], 2⟩) := hide (by
      rw [List.isEmpty_iff, Lib.toList_data] at h0
      rw [h0]; rfl)
    go_enter Try.func45, Try.ntmps45
    go_wp2_with fail
    refine bodyPost_ret (results_tmp3 rfl _ _ _) rfl ?_
    exact ⟨by rw [H1.out]; rfl, Mod.refl _ _⟩
  · have h0' : x.toList.isEmpty = false := by simpa using h0
    obtain ⟨c, t, hx⟩ : ∃ c t, x.data.toList = c :: t := by
      cases hl : x.data.toList with
      | nil => rw [Lib.toList_data, hl] at h0; exact absurd rfl h0
      | cons c t => exact ⟨c, t, rfl⟩
    have hsz : x.size = t.length + 1 := by
      have e : x.data.toList.length = x.size := Array.length_toList
      rw [hx] at e; simp at e; omega
    have hsz0 : (0 : Int) < x.size := by omega
    have hx0 : x[0]'(by omega) = c := by
      have e : x.data.toList[0]? = some c := by rw [hx]; rfl
      rw [List.getElem?_eq_getElem (by rw [hx]; simp)] at e
      have e2 := Option.some.inj e
      rw [← e2]
      simp [ByteArray.getElem_eq_getElem_data]
    have hcl := c.toNat_lt
    obtain ⟨k, hk⟩ : ∃ k, c.toNat / 64 = k := ⟨_, rfl⟩
    obtain ⟨r, hr⟩ : ∃ r, c.toNat % 64 = r := ⟨_, rfl⟩
    have hk3 : k ≤ 3 := by omega
    have hr63 : r ≤ 63 := by omega
    have hk' : (c.toNat : Int) / 64 = k := by omega
    have hand : bits .and .u8 (c.toNat : Int) 63 = r := by
      have e := u8_and_nat c.toNat 63 (by omega) (by omega)
      rw [show (63 : Nat) = 2 ^ 6 - 1 from rfl, Nat.and_two_pow_sub_one_eq_mod, show 2 ^ 6 = 64 from rfl, hr] at e
      exact e
    obtain ⟨m, hm, hm7⟩ : ∃ m, vmany k = m + 1 ∧ m ≤ 7 := by
      match k, hk3 with
      | 0, _ => exact ⟨0, rfl, by omega⟩
      | 1, _ => exact ⟨1, rfl, by omega⟩
      | 2, _ => exact ⟨3, rfl, by omega⟩
      | 3, _ => exact ⟨7, rfl, by omega⟩
    have hsh : (2 : Int) ^ k = (m : Int) + 1 := by
      match k, hk3, hm with
      | 0, _, hm => obtain rfl : m = 0 := by simp [vmany] at hm; omega
                    rfl
      | 1, _, hm => obtain rfl : m = 1 := by simp [vmany] at hm; omega
                    rfl
      | 2, _, hm => obtain rfl : m = 3 := by simp [vmany] at hm; omega
                    rfl
      | 3, _, hm => obtain rfl : m = 7 := by simp [vmany] at hm; omega
                    rfl
    have HV : Hid (vtake x.data.toList = if t.length + 1 < m + 1 then ⟨0, [], 2⟩ else ⟨numF r (t.take m), t.drop m, 0⟩) := hide (by
      rw [hx]
      unfold vtake
      simp only [hk, hr, hm, Nat.add_sub_cancel, List.length_cons])
    clear hk hr hcl
    by_cases htm : t.length < m
    · have HV2 : Hid (vtake x.data.toList = ⟨0, [], 2⟩) := hide (by rw [HV.out, if_pos (by omega)])
      clear HV
      go_enter Try.func45, Try.ntmps45
      go_wp2_with fail
      refine bodyPost_ret (results_tmp3 rfl _ _ _) rfl ?_
      exact ⟨by rw [HV2.out]; rfl, Mod.refl _ _⟩
    have HV2 : Hid (vtake x.data.toList = ⟨numF r (t.take m), t.drop m, 0⟩) := hide (by rw [HV.out, if_neg (by omega)])
    obtain ⟨D, hD⟩ : ∃ D, t.take m = D := ⟨_, rfl⟩
    have hDl : D.length = m := by rw [← hD, List.length_take]; omega
    obtain ⟨Y, hY⟩ : ∃ Y, x.extract 1 (m + 1) = Y := ⟨_, rfl⟩
    have hYD : Y.data.toList = D := by
      rw [← hY, Lib.extract_data, hx, List.drop_one, List.tail_cons, Nat.add_sub_cancel, hD]
    have hYs : Y.size = m := by
      rw [← hDl, ← hYD]; exact Array.length_toList.symm
    have hrest : x.extract (m + 1) (t.length + 1) = ⟨(t.drop m).toArray⟩ := by
      apply ByteArray.ext
      apply Array.ext'
      rw [Lib.extract_data, hx, List.drop_succ_cons, List.take_of_length_le (by rw [List.length_drop]; omega)]
    have hcv := Lib.run_convert_string_bytes (P := Try.prog) w 9 71 5 Y Try.underlying9 Try.underlying71 Try.underlying5
    obtain ⟨cap, hcap⟩ : ∃ cap, grownCap w Y.size 0 5 = cap := ⟨_, rfl⟩
    rw [hcap, hYs] at hcv
    have hcell : ∀ j (h : j < D.length), (Lib.bytesWorld w 5 Y).cell? ⟨w.heap.size, j, none⟩ = some (.int .u8 (D[j].toNat : Int)) := fun j h => by
      rw [Lib.bytesWorld_cell w _ _ _ (by omega), hYD]
      simp [h]
    have hmod : Mod [] w (Lib.bytesWorld w 5 Y) := ⟨rfl, rfl, rfl, by rw [Lib.bytesWorld_size]; omega, fun j hj _ => Lib.bytesWorld_at_old w _ _ j hj⟩
    have hszb := Lib.bytesWorld_size w 5 Y
    obtain ⟨wb, hwb⟩ : ∃ wb, Lib.bytesWorld w 5 Y = wb := ⟨_, rfl⟩
    rw [hwb] at hcv hcell hmod hszb
    rw [hD] at HV2
    have HCell := hide hcell
    have HRest := hide hrest
    have htm' : m ≤ t.length := by omega
    clear HV htm hD hYD hcap hwb hcell hrest
    go_enter Try.func45, Try.ntmps45
    go_wp2_with fail
    go_loopw [6, 33] (fun n i wr => ∃ j : Nat, j ≤ m ∧ i = .int .i64 (j : Int) ∧ n = .int .u64 (numF r (D.take j) : Nat) ∧ wr = wb) (fun _ i _ => m - (intOf i).toNat)
    case atStart => exact ⟨0, by omega, rfl, rfl, by trivial⟩
    case round =>
      obtain ⟨j, hj, rfl, rfl, rfl⟩ := hrel
      by_cases h : j < m
      · have c0 := HCell.out j (by omega)
        obtain ⟨d, hd⟩ : ∃ d, D[j]'(by omega) = d := ⟨_, rfl⟩
        rw [hd] at c0
        have hnext : numF r (D.take (j + 1)) = numF r (D.take j) * 256 + d.toNat := by
          rw [← List.take_append_getElem (by omega), hd]
          simp [numF]
        have hbound : numF r (D.take j) < 64 * 256 ^ j := by
          rw [numF_eq]
          have h1 := numF_lt (D.take j)
          have h2 : (D.take j).length = j := by rw [List.length_take]; omega
          rw [h2] at h1 ⊢
          have h3 : r * 256 ^ j ≤ 63 * 256 ^ j := Nat.mul_le_mul_right _ hr63
          omega
        have hp : (256 : Nat) ^ j ≤ 256 ^ 6 := Nat.pow_le_pow_right (by omega) (by omega)
        obtain ⟨N, hN⟩ : ∃ N, numF r (D.take j) = N := ⟨_, rfl⟩
        rw [hN] at hnext hbound ⊢
        have hNb : N < 18014398509481984 := by
          have : (256 : Nat) ^ 6 = 281474976710656 := rfl
          omega
        have hd256 := d.toNat_lt
        have hor : bits .or .u64 ((N : Int) * 256) (d.toNat : Int) = (N : Int) * 256 + d.toNat := by
          have e := bits_or_u64_nat (N * 256) d.toNat (by omega) (by omega)
          have e2 := Nat.shiftLeft_add_eq_or_of_lt (b := d.toNat) (i := 8) (by omega) N
          rw [Nat.shiftLeft_eq, show 2 ^ 8 = 256 from rfl] at e2
          rw [← e2] at e
          simpa using e
        have HNext := hide hnext
        clear hnext hbound hp hN hd
        go_wp2_with fail
        go_roundw
        case rel => exact ⟨j + 1, by omega, by go_num, by rw [HNext.out]; go_num, by trivial⟩
        case measure => simp [intOf]; omega
      · have hjm : j = m := by omega
        subst hjm
        rw [List.take_of_length_le (by omega)]
        obtain ⟨N, hN⟩ : ∃ N, numF r D = N := ⟨_, rfl⟩
        rw [hN] at HV2 ⊢
        clear hN
        go_wp2_with fail
        go_quiet (fail)
        go_wp2_with fail
        refine bodyPost_ret (results_tmp3 rfl _ _ _) rfl ?_
        exact ⟨by rw [HV2.out, HRest.out]; rfl, hmod.drewN _⟩
end Go.Proofs.Ytampdiplodhkbaa
