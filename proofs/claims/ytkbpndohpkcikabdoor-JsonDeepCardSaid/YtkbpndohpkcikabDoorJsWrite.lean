/-
  json: Write.
-/
import Derived.Test.YtkbpndohpkcikabDoorJsWr
namespace Go.Proofs.YtkbpndohpkcikabDoor
open Go.RowKit Js
set_option linter.unusedVariables false
theorem written_all : ∀ n, WrOk n
  | 0 => fun W w B b d acc x h => by cases x; rw [JN.sz] at h; omega
  | n + 1 => written_step n (written_all n)
theorem JVars.mono {B B' : Nat} {w : World} (h : JVars B w) (hB : B ≤ B') : JVars B' w := fun w' hb => h w' (hb.mono hB)
set_option maxRecDepth 100000 in
set_option maxHeartbeats 8000000 in
theorem write_any (w : World) (x : JN) (hx : JIn w x) (hr : jrng x.v = true) (hl : (jwr x.v).length ≤ 1099511627776) (B : Nat) (hB : B ≤ w.heap.size) (hv : JVars B w) (b : Bool) (hb : jmay 8 x.v = b) :
    Calls Tryd.prog 7 #[.agg x.cells] w fun e w' => e = .returned (.tuple #[str (if b then jwr x.v else []), .int .i64 (if b then 0 else 2)]) ∧ Mod [] w w' := by
  have HMay := hide (fun w' (m : Mod [] w w') => may_any w' x (hx.new m) b hb)
  have HWr := hide (fun (w' : World) (m : Mod [] w w') (bb : Nat) (hbb : BldO w' w.heap.size bb []) (hb' : b = true) =>
    written_all x.sz w w' w.heap.size bb 8 [] x (Nat.le_refl _) (hb.trans hb') hr hx (Nat.le_refl _) m.size m hbb ((hv.mono hB).mod m (Nat.le_refl _) (by simp)) (by simpa using hl))
  obtain ⟨J, hJ⟩ : ∃ J, jwr x.v = J := ⟨_, rfl⟩
  rw [hJ] at HWr ⊢
  obtain ⟨c0, c1, c2, c3, n3, d3, c4, n4, d4, hcx⟩ : ∃ c0 c1 c2 c3 n3 d3 c4 n4 d4, x.cells = #[.int .i64 c0, .int .i64 c1, .string c2, .slice c3 n3 d3, .slice c4 n4 d4] := by
    cases x
    exact ⟨_, _, _, _, _, _, _, _, _, rfl⟩
  rw [hcx] at HMay HWr ⊢
  have HM0 := hide ((Mod.refl [] w).alloc (.cells #[.int .i64 c0, .int .i64 c1, .string c2, .slice c3 n3 d3, .slice c4 n4 d4] 25))
  have HB0 := hide (Blk.new w 25 #[.int .i64 c0, .int .i64 c1, .string c2, .slice c3 n3 d3, .slice c4 n4 d4])
  clear hx hr hl hv hb hJ hcx hB
  go_enter Tryd.func7, Tryd.ntmps7
  go_wp2_with fail
  refine (HMay.out _ HM0.out).mono ?_
  rintro e w2 ⟨rfl, m2⟩
  have HM2 := hide (HM0.out.trans m2 (by simp))
  have HB2 := hide (m2.blk HB0.out (by simp))
  clear m2
  cases b with
  | false =>
    go_wp2_with fail
    go_ret2
    exact ⟨rfl, HM2.out⟩
  | true =>
    have HB3 := hide (HB2.out.alloc (.cells #[.pointer none, .slice none 0 0] 41))
    have HM3 := hide (HM2.out.alloc (.cells #[.pointer none, .slice none 0 0] 41))
    have HBl := hide ((BldO.new w2 w.heap.size HM2.out.size))
    have q0 : (w2.alloc (.cells #[.pointer none, .slice none 0 0] 41)).cell? ⟨w.heap.size, 0, none⟩ = some (.int .i64 c0) := HB3.out.cell 0
    have q1 : (w2.alloc (.cells #[.pointer none, .slice none 0 0] 41)).cell? ⟨w.heap.size, 1, none⟩ = some (.int .i64 c1) := HB3.out.cell 1
    have q2 : (w2.alloc (.cells #[.pointer none, .slice none 0 0] 41)).cell? ⟨w.heap.size, 2, none⟩ = some (.string c2) := HB3.out.cell 2
    have q3 : (w2.alloc (.cells #[.pointer none, .slice none 0 0] 41)).cell? ⟨w.heap.size, 3, none⟩ = some (.slice c3 n3 d3) := HB3.out.cell 3
    have q4 : (w2.alloc (.cells #[.pointer none, .slice none 0 0] 41)).cell? ⟨w.heap.size, 4, none⟩ = some (.slice c4 n4 d4) := HB3.out.cell 4
    have HCall := hide (HWr.out _ HM3.out _ HBl.out rfl)
    go_wp2_with fail
    refine HCall.out.mono ?_
    rintro e w4 ⟨rfl, h4, k4⟩
    have HM4 := hide (k4.mod HM3.out (Nat.le_refl _))
    have HS4 := hide (bstring_any w4 w.heap.size _ _ h4 HM4.out.size)
    clear h4 k4
    go_wp2_with fail
    refine HS4.out.mono ?_
    rintro e w5 ⟨rfl, k5⟩
    have HM5 := hide (k5.mod HM4.out (Nat.le_refl _))
    clear k5
    go_wp2_with fail
    go_ret2
    exact ⟨rfl, HM5.out⟩
end Go.Proofs.YtkbpndohpkcikabDoor
