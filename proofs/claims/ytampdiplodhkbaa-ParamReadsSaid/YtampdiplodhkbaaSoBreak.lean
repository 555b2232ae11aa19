/-
  slices.breakPatternsOrdered at uint64: some permutation.
-/
import Derived.Test.YtampdiplodhkbaaSoLen
import Derived.Laws.Bits64
import Derived.Laws.Bits64b
namespace Go.Proofs.Ytampdiplodhkbaa
open Go.RowKit Go.Sort

theorem xor_some (r : Nat) (hr : r < 18446744073709551616) (y : Int) (h0 : 0 ≤ y) (h1 : y < 18446744073709551616) : ∃ r' : Nat, bits .xor .u64 (r : Int) y = (r' : Int) ∧ r' < 18446744073709551616 := by
  obtain ⟨z, rfl⟩ := Int.eq_ofNat_of_zero_le h0
  refine ⟨r ^^^ z, bits_xor_u64_nat r z hr (by omega), ?_⟩
  have := Nat.xor_lt_two_pow (n := 64) (x := r) (y := z) (by omega) (by omega)
  omega
theorem wrap_some (y : Int) : 0 ≤ IntKind.u64.wrap y ∧ IntKind.u64.wrap y < 18446744073709551616 := by
  rw [IntKind.wrap_u64]; omega

theorem xs_step {w0 w : World} {rp : Nat} {t : TypeId} {u : Value} (h : Blk w rp t #[u]) (hm : Mod [rp] w0 w) (v : Value) :
    Blk (w.drew.setCell ⟨rp, 0, none⟩ v) rp t #[v] ∧ Mod [rp] w0 (w.drew.setCell ⟨rp, 0, none⟩ v) :=
  ⟨by simpa using Blk.set_ (w := w.drew) h 0 v, hm.drew.setCell (p := ⟨rp, 0, none⟩) (.inl (by simp)) v⟩

set_option maxHeartbeats 4000000 in
theorem next_any (w : World) (rp r : Nat) (hr : r < 18446744073709551616) (h : Blk w rp 111 #[.int .u64 (r : Int)]) :
    Calls Try.prog 68 #[.pointer (some ⟨rp, 0, none⟩)] w fun e w' =>
      ∃ r' : Nat, e = .returned (.int .u64 (r' : Int)) ∧ r' < 18446744073709551616 ∧ Blk w' rp 111 #[.int .u64 (r' : Int)] ∧ Mod [rp] w w' := by
  obtain ⟨r1, h1, hr1⟩ := xor_some r hr (IntKind.u64.wrap ((r : Int) * 8192)) (wrap_some _).1 (wrap_some _).2
  obtain ⟨r2, h2, hr2⟩ := xor_some r1 hr1 ((r1 : Int) / 128) (by omega) (by omega)
  obtain ⟨r3, h3, hr3⟩ := xor_some r2 hr2 (IntKind.u64.wrap ((r2 : Int) * 131072)) (wrap_some _).1 (wrap_some _).2
  have hm := Mod.refl [rp] w
  go_enter Try.func68, Try.ntmps68
  go_upto_region 1 with fail
  go_cut [] (fun wx => Blk wx rp 111 #[.int .u64 (r1 : Int)] ∧ Mod [rp] w wx)
  case first =>
    have c0 := h.cell 0
    have f0 := h.frozen 0
    simp at c0
    have S := hide (xs_step h hm (.int .u64 (r1 : Int)))
    clear h hm
    go_region
    all_goals (go_wp2_with fail; go_meet)
    all_goals exact S.out
  case rest =>
    clear h hm
    obtain ⟨h, hm⟩ := hcut
    go_upto_region 2 with fail
    go_cut [] (fun wx => Blk wx rp 111 #[.int .u64 (r2 : Int)] ∧ Mod [rp] w wx)
    case first =>
      have c0 := h.cell 0
      have f0 := h.frozen 0
      simp at c0
      have S := hide (xs_step h hm (.int .u64 (r2 : Int)))
      clear h hm
      go_region
      all_goals (go_wp2_with fail; go_meet)
      all_goals exact S.out
    case rest =>
      clear h hm
      obtain ⟨h, hm⟩ := hcut
      go_upto_region 3 with fail
      go_cut [] (fun wx => Blk wx rp 111 #[.int .u64 (r3 : Int)] ∧ Mod [rp] w wx)
      case first =>
        have c0 := h.cell 0
        have f0 := h.frozen 0
        simp at c0
        have S := hide (xs_step h hm (.int .u64 (r3 : Int)))
        clear h hm
        go_region
        all_goals (go_wp2_with fail; go_meet)
        all_goals exact S.out
      case rest =>
        clear h hm
        obtain ⟨h, hm⟩ := hcut
        have c0 := h.cell 0
        simp at c0
        go_wp2_with fail
        go_ret
        exact ⟨r3, rfl, hr3, h, hm⟩
end Go.Proofs.Ytampdiplodhkbaa
