/-
  varints: the walks: high, laid, least, Put, Size, Take.
-/
import Derived.Test.YtampdiplodhkbaaProg
import Derived.Test.YtampdiplodhkbaaVarP
import Derived.Laws.Bits64b
import Derived.Laws.BitsAllLaws
import Derived.Laws.IdiomStrings
import Derived.Deep.OwnRows
namespace Go.Proofs.Ytampdiplodhkbaa
open Go.RowKit

def bv (c : UInt8) : Value := .int .u8 (c.toNat : Int)
theorem rbool {a b : Bool} (h : a = b) : Ending.returned (.bool a) = .returned (.bool b) := by rw [h]
def str (l : List UInt8) : Value := .string ⟨l.toArray⟩

/-- the bytes of n that are set behind j rounds -/
def hcells (n k j : Nat) : Array Value := ((List.range k).map fun m => if k ≤ m + j then Value.int .u8 ((n / 256 ^ (k - 1 - m) % 256 : Nat) : Int) else .int .u8 0).toArray
theorem hcells_size (n k j : Nat) : (hcells n k j).size = k := by simp [hcells]
theorem hcells_zero (n k : Nat) : hcells n k 0 = Array.replicate k (.int .u8 0) := by
  apply Array.ext
  · simp [hcells]
  · intro i h1 h2
    simp [hcells] at h1 ⊢
    omega
theorem hcells_set (n k j : Nat) (h : j < k) : (hcells n k j).setIfInBounds (k - 1 - j) (.int .u8 ((n / 256 ^ j % 256 : Nat) : Int)) = hcells n k (j + 1) := by
  apply Array.ext
  · simp [hcells]
  · intro i h1 h2
    simp only [Array.size_setIfInBounds, hcells_size] at h1
    rw [Array.getElem_setIfInBounds]
    by_cases e : k - 1 - j = i
    · rw [if_pos e]
      simp only [hcells, List.getElem_toArray, List.getElem_map, List.getElem_range]
      rw [if_pos (by omega), show k - 1 - i = j by omega]
    · rw [if_neg e]
      simp only [hcells, List.getElem_toArray, List.getElem_map, List.getElem_range]
      by_cases h3 : k ≤ i + j
      · rw [if_pos h3, if_pos (by omega)]
      · rw [if_neg h3, if_neg (by omega)]
    · simpa [hcells_size] using h1
theorem hcells_all (n k : Nat) : hcells n k k = ((be n k).map bv).toArray := by
  apply Array.ext
  · simp [hcells, be_length]
  · intro i h1 h2
    rw [hcells_size] at h1
    simp only [hcells, List.getElem_toArray, List.getElem_map, List.getElem_range]
    rw [if_pos (by omega)]
    have := be_get n k i h1
    rw [List.getElem?_eq_getElem (by rw [be_length]; exact h1)] at this
    rw [Option.some.inj this]
    simp [bv, UInt8.toNat_ofNat']

theorem madeCells_one (z : Value) (n : Nat) : madeCells #[z] n = Array.replicate n z := by
  apply Array.ext'
  rw [toList_madeCells_one]; simp
theorem u8info : (Try.prog.info? 5).map (fun i => (i.zero, i.size, i.bytes)) = some (some (.int .u8 0), 1, 1) := by kernel_rfl

set_option maxRecDepth 100000 in
set_option maxHeartbeats 1000000 in
theorem high_any (w : World) (n : Nat) (k : Nat) (hk : k ≤ 8) :
    Calls Try.prog 53 #[.int .u64 n, .int .i64 k] w fun e w' =>
      e = .returned (.slice (some ⟨w.heap.size, 0, none⟩) k k) ∧ Blk w' w.heap.size 5 ((be n k).map bv).toArray ∧ Mod [] w w' := by
  have hmk := fun w => (Go.run_make_row' (P := Try.prog) 71 5 (.int .u8 0) 1 Try.underlying71 u8info rfl .i64 .i64 k (by omega) (by omega) w).trans (by rw [madeCells_one])
  go_enter Try.func53, Try.ntmps53
  go_wp2_with fail
  have hb0 : Blk (w.alloc (.cells (Array.replicate k (.int .u8 0)) 5)) w.heap.size 5 (hcells n k 0) := by rw [hcells_zero]; exact Blk.new w _ _
  have hm0 : Mod [] w (w.alloc (.cells (Array.replicate k (.int .u8 0)) 5)) := (Mod.refl _ _).alloc _
  go_loopw [0, 11] (fun x i wr => ∃ j : Nat, j ≤ k ∧ i = .int .i64 (j : Int) ∧ x = .int .u64 ((n / 256 ^ j : Nat) : Int) ∧ Blk wr w.heap.size 5 (hcells n k j) ∧ Mod [] w wr) (fun _ i _ => k - (intOf i).toNat)
  case atStart => exact ⟨0, by omega, rfl, by simp, hb0, hm0⟩
  case round =>
    obtain ⟨j, hj, rfl, rfl, hb, hm⟩ := hrel
    clear hb0 hm0
    have c0 := hb.cell (k - 1 - j)
    have hlt := hb.lt
    have hfz := hb.frozen (k - 1 - j)
    by_cases h : j < k
    · have h1 : ((k : Int) - 1 - j) = ((k - 1 - j : Nat) : Int) := by omega
      have hc : (hcells n k j)[k - 1 - j]? = some ((hcells n k j)[k - 1 - j]'(by rw [hcells_size]; omega)) := Array.getElem?_eq_getElem _
      rw [hc] at c0
      have hset := hb.set_ (k - 1 - j) (.int .u8 ((n / 256 ^ j % 256 : Nat) : Int))
      rw [hcells_set n k j h] at hset
      have hpw : n / 256 ^ (j + 1) = n / 256 ^ j / 256 := by rw [Nat.pow_succ, Nat.div_div_eq_div_mul]
      obtain ⟨N, hN⟩ : ∃ N, n / 256 ^ j = N := ⟨_, rfl⟩
      rw [hN] at hset hpw ⊢
      have HPw := hide hpw
      have HSet := hide (show Blk (wr.setCell ⟨w.heap.size, k - 1 - j, none⟩ (.int .u8 ((N : Int) % 256))) w.heap.size 5 (hcells n k (j + 1)) by
        rw [show ((N : Int) % 256) = ((N % 256 : Nat) : Int) by omega]; exact hset)
      clear hN hpw hset hb
      go_wp2_with fail
      go_roundw
      case rel => exact ⟨j + 1, by omega, by go_num, by rw [HPw.out]; congr 1, HSet.out, hm.setCell (.inr (Nat.le_refl _)) _⟩
      case measure => simp [intOf]; omega
    · have : j = k := by omega
      subst this
      rw [hcells_all] at hb
      have HB := hide hb
      clear hb c0
      go_wp2_with fail
      go_ret
      exact ⟨rfl, HB.out, hm⟩

theorem conv_bytes (w : World) (g : Nat) (l : List UInt8) (R : List Value) (c : Nat) (h : Blk w g 5 (l.map bv ++ R).toArray) :
    (convert 71 9 (.slice (some ⟨g, 0, none⟩) l.length c)).run Try.prog w = .ok (str l) w :=
  run_convert_bytes_back (P := Try.prog) w 71 9 5 ⟨g, 0, none⟩ c l Try.underlying71 Try.underlying5 Try.underlying9 (fun j hj => by
    rw [Addr.add_lit, Nat.zero_add, h.cell j]
    rw [List.getElem?_toArray, List.getElem?_append_left (by simpa using hj)]
    simp [bv, hj])

theorem or_mark (b k : Nat) (hb : b < 64) (hk : k ≤ 3) : bits .or .u8 (b : Int) ((k * 64 : Nat) : Int) = ((b + k * 64 : Nat) : Int) := by
  rw [u8_or_nat b (k * 64) (by omega) (by omega)]
  congr 1
  have key : ∀ (b : Fin 64) (k : Fin 4), b.val ||| (k.val * 64) = b.val + k.val * 64 := by decide
  exact key ⟨b, hb⟩ ⟨k, by omega⟩

set_option maxRecDepth 100000 in
set_option maxHeartbeats 1000000 in
theorem laid_any (w : World) (n : Nat) (k : Nat) (hk : k ≤ 3) (hn : n < 4611686018427387904) (hv : vk n ≤ k) :
    Calls Try.prog 47 #[.int .u64 n, .int .i64 k] w fun e w' => e = .returned (str (vlay n k)) ∧ Mod [] w w' := by
  obtain ⟨m, b, hm, hm7, hb, hb64, hlay⟩ := vlay_eq hk hv hn
  have hsh : (2 : Int) ^ k = (m : Int) + 1 := by
    match k, hk, hm with
    | 0, _, hm => obtain rfl : m = 0 := by simp [vmany] at hm; omega
                  rfl
    | 1, _, hm => obtain rfl : m = 1 := by simp [vmany] at hm; omega
                  rfl
    | 2, _, hm => obtain rfl : m = 3 := by simp [vmany] at hm; omega
                  rfl
    | 3, _, hm => obtain rfl : m = 7 := by simp [vmany] at hm; omega
                  rfl
  have hhi := high_any w n (m + 1) (by omega)
  obtain ⟨B, hB⟩ : ∃ B, b + k * 64 = B := ⟨_, rfl⟩
  have hor : bits .or .u8 (b : Int) ((k : Int) * 64) = B := by
    rw [← hB, ← or_mark b k hb64 hk]; congr 1
  have hB256 : B < 256 := by omega
  rw [hB] at hlay
  have e1 : ((m + 1 : Nat) : Int) = (m : Int) + 1 := by omega
  rw [e1] at hhi
  have hk64 : IntKind.u8.wrap ((k : Int) * 64) = ((k * 64 : Nat) : Int) := by
    rw [IntWalk.u8_in _ (by omega)]; omega
  have HHi := hide hhi
  have HLay := hide hlay
  have HB := hide hb
  have Hm := hide hm
  clear hhi hlay hb hv hm e1 hB
  go_enter Try.func47, Try.ntmps47
  go_wp2_with fail
  refine HHi.out.mono ?_
  rintro e w1 ⟨rfl, hbk, m1⟩
  have c0 := hbk.cell 0
  have hlt := hbk.lt
  have hfz := hbk.frozen 0
  have c0' : w1.cell? ⟨w.heap.size, 0, none⟩ = some (.int .u8 (b : Int)) := by
    rw [c0, be, HB.out]
    simp [bv, UInt8.toNat_ofNat']; omega
  clear c0
  have hset := hbk.set_ 0 (.int .u8 (B : Int))
  have hcs : (((be n (m + 1)).map bv).toArray).setIfInBounds 0 (.int .u8 (B : Int)) = ((vlay n k).map bv ++ []).toArray := by
    rw [HLay.out, be]
    simp [bv, UInt8.toNat_ofNat']; omega
  rw [hcs] at hset
  have hcv := conv_bytes _ _ _ _ (m + 1) hset
  have hll : (vlay n k).length = m + 1 := by unfold vlay; rw [be_length, Hm.out]
  rw [hll] at hcv
  clear hcs hset hbk
  go_wp2_with fail
  go_ret
  exact ⟨rfl, m1.setCell (.inr (Nat.le_refl _)) _⟩

set_option maxHeartbeats 1000000 in
theorem fits_any (w : World) (n : Nat) (k : Nat) (hk : k < 3) (v : Bool) (hv : decide (n < vbound k) = v) :
    Calls Try.prog 54 #[.int .u64 n, .int .i64 k] w fun e w' => e = .returned (.bool v) ∧ w' = w := by
  subst hv
  match k, hk with
  | 0, _ =>
    go_enter Try.func54, Try.ntmps54
    go_wp2_with fail
    go_ret
    exact ⟨rbool (decide_eq_decide.2 (by show _ ↔ n < 64; omega)), rfl⟩
  | 1, _ =>
    go_enter Try.func54, Try.ntmps54
    go_wp2_with fail
    go_ret
    exact ⟨rbool (decide_eq_decide.2 (by show _ ↔ n < 16384; omega)), rfl⟩
  | 2, _ =>
    go_enter Try.func54, Try.ntmps54
    go_wp2_with fail
    go_ret
    exact ⟨rbool (decide_eq_decide.2 (by show _ ↔ n < 1073741824; omega)), rfl⟩

set_option maxHeartbeats 1000000 in
theorem least_any (w : World) (n : Nat) :
    Calls Try.prog 48 #[.int .u64 n] w fun e w' => e = .returned (.int .i64 (vk n : Nat)) ∧ w' = w := by
  go_enter Try.func48, Try.ntmps48
  go_wp2_with fail
  go_loopw [3] (fun i wr => ∃ j : Nat, j ≤ vk n ∧ i = .int .i64 (j : Int) ∧ wr = w) (fun i _ => 3 - (intOf i).toNat)
  case atStart => exact ⟨0, by omega, rfl, by trivial⟩
  case round =>
    obtain ⟨j, hj, rfl, rfl⟩ := hrel
    have h3 := vk_le n
    by_cases h : j < 3
    · obtain ⟨s1, s2⟩ := vk_step h hj
      cases hv : decide (n < vbound j)
      · have hs := s2 (by simpa using hv)
        have HS := hide hs
        clear s1 s2 hs
        go_wp2_with fail
        refine (fits_any _ n j h false hv).mono ?_
        rintro e w1 ⟨rfl, rfl⟩
        go_wp2_with fail
        go_roundw
        case rel => exact ⟨j + 1, HS.out, by go_num, by trivial⟩
        case measure => simp [intOf]; omega
      · have hs := s1 (by simpa using hv)
        have HS := hide hs
        clear s1 s2 hs
        go_wp2_with fail
        refine (fits_any _ n j h true hv).mono ?_
        rintro e w1 ⟨rfl, rfl⟩
        go_wp2_with fail
        go_ret
        exact ⟨by rw [HS.out]; rfl, rfl⟩
    · have hs : vk n = j := by omega
      have HS := hide hs
      clear hs hj h3
      go_wp2_with fail
      go_ret
      exact ⟨by rw [HS.out]; rfl, rfl⟩

theorem vk_pow (n : Nat) : (2 : Int) ^ vk n = (vsize n : Nat) := by
  have := vk_le n
  unfold vsize
  generalize vk n = k at *
  match k, this with
  | 0, _ => rfl
  | 1, _ => rfl
  | 2, _ => rfl
  | 3, _ => rfl

set_option maxHeartbeats 1000000 in
theorem vput_any (w : World) (n : Nat) :
    Calls Try.prog 39 #[.int .u64 n] w fun e w' => e = .returned (.tuple #[str (vputS n), .int .i64 (vputE n)]) ∧ Mod [] w w' := by
  by_cases h : 4611686018427387903 < n
  · have h' : (4611686018427387903 : Int) < n := by omega
    have H1 : Hid (vputS n = [] ∧ vputE n = 3) := hide ⟨if_pos h, if_pos h⟩
    go_enter Try.func39, Try.ntmps39
    go_wp2_with fail
    go_ret2
    exact ⟨by rw [H1.out.1, H1.out.2]; rfl, Mod.refl _ _⟩
  · have h' : ¬ (4611686018427387903 : Int) < n := by omega
    have H1 : Hid (vputS n = vput n ∧ vputE n = 0) := hide ⟨if_neg h, if_neg h⟩
    obtain ⟨k, hk⟩ : ∃ k, vk n = k := ⟨_, rfl⟩
    have hk3 := vk_le n
    have hl := least_any w n
    have hly := laid_any w n k (by omega) (by omega) (by omega)
    have HLn : Hid (vlay n k = vput n) := hide (by unfold vput; rw [hk])
    rw [hk] at hl
    have HL := hide hl
    have HLy := hide hly
    rw [hk] at hk3
    clear hl hly hk
    go_enter Try.func39, Try.ntmps39
    go_wp2_with fail
    refine HL.out.mono ?_
    rintro e w1 ⟨rfl, rfl⟩
    go_wp2_with fail
    refine HLy.out.mono ?_
    rintro e w2 ⟨rfl, m1⟩
    rw [HLn.out]
    go_wp2_with fail
    go_ret2
    exact ⟨by rw [H1.out.1, H1.out.2]; rfl, m1⟩

def vsizeS (n : Nat) : Nat := if 4611686018427387903 < n then 0 else vsize n
set_option maxHeartbeats 1000000 in
theorem vsize_any (w : World) (n : Nat) :
    Calls Try.prog 46 #[.int .u64 n] w fun e w' => e = .returned (.int .i64 (vsizeS n : Nat)) ∧ w' = w := by
  by_cases h : 4611686018427387903 < n
  · have h' : (4611686018427387903 : Int) < n := by omega
    have H1 : Hid (vsizeS n = 0) := hide (if_pos h)
    go_enter Try.func46, Try.ntmps46
    go_wp2_with fail
    go_ret
    exact ⟨by rw [H1.out]; rfl, rfl⟩
  · have h' : ¬ (4611686018427387903 : Int) < n := by omega
    have H1 : Hid (vsizeS n = vsize n) := hide (if_neg h)
    obtain ⟨k, hk⟩ : ∃ k, vk n = k := ⟨_, rfl⟩
    have hl := least_any w n
    have hp := vk_pow n
    have hk3 := vk_le n
    rw [hk] at hl hp hk3
    have hvs := vsize_pos n
    have HL := hide hl
    clear hl hk
    go_enter Try.func46, Try.ntmps46
    go_wp2_with fail
    refine HL.out.mono ?_
    rintro e w1 ⟨rfl, rfl⟩
    go_wp2_with fail
    go_ret
    exact ⟨by rw [H1.out]; rfl, rfl⟩
end Go.Proofs.Ytampdiplodhkbaa
