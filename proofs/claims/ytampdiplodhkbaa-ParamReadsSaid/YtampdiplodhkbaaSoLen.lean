/-
  math/bits.Len at a number below 2^16.
-/
import Derived.Test.YtampdiplodhkbaaSoPiv
import Derived.Shelf.Strconv.Itoa0
namespace Go.Proofs.Ytampdiplodhkbaa
open Go.RowKit Go.Sort

def lenRen : Go.Shelf.Ren := ⟨fun | 129 => 65 | n => n, fun | 3 => 3 | 4 => 4 | 5 => 5 | 9 => 9 | 46 => 95 | 53 => 23 | n => n, fun n => n⟩
theorem lenLays : Go.Proofs.Lays.n129 Try.prog lenRen := {
  mixed := by kernel_rfl,
  f129 := Try.func65.trans (congrArg some (by kernel_rfl)),
  t3 := Try.underlying3,
  a3 := Try.isAgg3,
  z3 := Try.sizeOf3,
  v3 := Try.zeroValue3,
  t4 := Try.underlying4,
  a4 := Try.isAgg4,
  z4 := Try.sizeOf4,
  v4 := Try.zeroValue4,
  t5 := Try.underlying5,
  a5 := Try.isAgg5,
  z5 := Try.sizeOf5,
  v5 := Try.zeroValue5,
  t9 := Try.underlying9,
  a9 := Try.isAgg9,
  z9 := Try.sizeOf9,
  v9 := Try.zeroValue9,
  t46 := Try.underlying95,
  a46 := Try.isAgg95,
  z46 := Try.sizeOf95,
  v46 := Try.zeroValue95,
  t53 := Try.underlying23,
  a53 := Try.isAgg23,
  z53 := Try.sizeOf23,
  v53 := Try.zeroValue23 }

theorem len64_u64 (w : World) (x : Nat) (hx : x < 65536) :
    Calls Try.prog 65 #[.int .u64 x] w fun e w' => e = .returned (.int .i64 (Lib.bitLen x : Nat)) ∧ w' = w :=
  Any.bits_Len64 lenLays x w (by omega) (by omega)

set_option maxHeartbeats 1000000 in
theorem len_u64 (w : World) (x : Nat) (hx : x < 65536) :
    Calls Try.prog 51 #[.int .u64 x] w fun e w' => e = .returned (.int .i64 (Lib.bitLen x : Nat)) ∧ w' = w := by
  go_enter Try.func51, Try.ntmps51
  go_wp2_with fail
  refine (len64_u64 w x hx).mono ?_
  rintro e w' ⟨rfl, rfl⟩
  go_wp2_with fail
  go_ret
  exact ⟨rfl, rfl⟩

theorem bitLenAux_ge : ∀ (f x : Nat), x < 2 ^ f → 0 < x → 2 ^ (Lib.bitLenAux f x) ≤ 2 * x
  | 0, x, h, h0 => by simp at h; omega
  | f + 1, x, h, h0 => by
    rw [Lib.bitLenAux, if_neg (by omega)]
    by_cases h1 : x / 2 = 0
    · rw [h1]
      have : Lib.bitLenAux f 0 = 0 := by cases f <;> simp [Lib.bitLenAux]
      rw [this]
      omega
    · have := bitLenAux_ge f (x / 2) (by rw [Nat.pow_succ] at h; omega) (by omega)
      rw [Nat.add_comm, Nat.pow_succ]
      omega
theorem bitLen_ge {x : Nat} (h : x < 65536) (h0 : 0 < x) : 2 ^ Lib.bitLen x ≤ 2 * x := bitLenAux_ge 64 x (by omega) h0
theorem bitLen_le16 {x : Nat} (h : x < 65536) : Lib.bitLen x ≤ 16 := Lib.bitLen_le x 16 (by omega) h
end Go.Proofs.Ytampdiplodhkbaa
