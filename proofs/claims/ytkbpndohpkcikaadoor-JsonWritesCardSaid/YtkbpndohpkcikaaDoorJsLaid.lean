/-
  json: the library's variables, from what a row lists.
-/
import Derived.Test.YtkbpndohpkcikaaDoorJsNum
import Derived.Test.YtkbpndohpkcikaaDoorRows
import Derived.Stop.LaidErr
import Derived.MakeChecks
import Derived.WalkSmall
namespace Go.Proofs.YtkbpndohpkcikaaDoor
open Go.RowKit Go.Lib
set_option linter.unusedVariables false
theorem star_errorString : ("*" : String) ++ "errors.errorString" = "*errors.errorString" := by decide
def laidL : List (String × DataW Unit) := [("math/bits.deBruijn32tab", Rows.laid_math_bits_deBruijn32tab), ("math/bits.deBruijn64tab", Rows.laid_math_bits_deBruijn64tab), ("internal/strconv.uint64pow10", Rows.laid_internal_strconv_uint64pow10), ("strconv.ErrRange", Rows.laid_strconv_ErrRange), ("strconv.ErrSyntax", Rows.laid_strconv_ErrSyntax)]
theorem var_lt {P : Program} {W : World} {n : String} {g : Nat} {cs : Array Value} (hg : P.globalNamed n = some g) (hv : W.var? P n = some cs) (h0 : 0 < cs.size) : g < W.heap.size := by
  have h := World.var?_cell hg hv 0
  rw [Array.getElem?_eq_getElem h0] at h
  exact World.block_lt_of_cell? W _ h
theorem jvars_of_laid {W : World} (h0 : laidMetH Tryd.prog laidL W) : JVars W.heap.size W := by
  have h : laidMet Tryd.prog laidL W := by
    rw [MakeChecks.laidMetH_plain _ _ _ (by kernel_rfl)] at h0
    exact h0
  unfold laidL at h
  have hp := h.tail.tail
  have hr := hp.tail
  have hT : TabIs Tryd.prog W "internal/strconv.uint64pow10" .u64 Lib.pow10Tab :=
    tabIs_of_head (g := 0) (t := 95) (e := 86) (n := 20) (by kernel_rfl) (by kernel_rfl) Tryd.underlying95 Tryd.underlying86 (by kernel_rfl) (by kernel_rfl) hp
  have hrow : ∀ u, Tryd.prog.typeName? 3 u = some "*errors.errorString" → u = 114 := by
    intro u h
    exact typeName_ptr_named (nm := "errors.errorString") (by rw [star_errorString]; kernel_rfl) (by kernel_rfl) (by decide) u (by rw [star_errorString]; exact h)
  obtain ⟨a, s, hv, -, -, -⟩ := laid_sentinel (g := 3) (ti := 60) (tp := 114) (te := 116) (ts := 9) hr (by kernel_rfl) (by kernel_rfl) Tryd.underlying60 hrow Tryd.underlying114 Tryd.underlying116 rfl rfl Tryd.underlying9 (by kernel_rfl) (by kernel_rfl)
  intro w' hb
  refine ⟨?_, _, _, var?_below (g := 3) hb (by kernel_rfl) (var_lt (by kernel_rfl) hv (by simp)) hv⟩
  exact var?_below (g := 0) hb (by kernel_rfl) (var_lt (by kernel_rfl) hT (by simp [Lib.pow10Tab])) hT
end Go.Proofs.YtkbpndohpkcikaaDoor
