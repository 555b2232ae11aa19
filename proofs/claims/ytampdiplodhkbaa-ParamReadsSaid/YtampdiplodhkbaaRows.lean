/-
  No cell of these rows narrows 'for every input' (looked for: loops, veiled, ifaces, maps, wideKeys, modest, calm, conditions, laid).
  DERIVED. THE GIVEN ROWS OF THIS SEAT. 6 by the template 'for every input the law returns true; each argument reads behind the call as it read before'; 0 by the template 'total and deterministic' (their statements: YtampdiplodhkbaaTotals.lean).
  GIVEN WITH THE SEED: the statements are not yours to turn. If you find one false, say at which input.
  Laid BY PROGRAM, IN A SANDBOX (cutbox-rows.mjs): the forced cells as the released guide's own fill.sh prints them over the translation 2f449aaecb9951e0… (all of the seat's roots in one cut). By AI agents, Wed Nov 11 2026. No macro, syntax, notation, axiom, sorry.
-/
import Derived.Test.YtampdiplodhkbaaChecked
import GoSem.Claim
import GoSem.ClaimJoined
import GoSem.ClaimMapViews
import Derived.JoinedTies
import Derived.KernelRfl
namespace Go.Proofs.Ytampdiplodhkbaa
/- THE CELL 'sum', in the pinned program and in every row, IS THE sha256 OF THE DUMP (.gsa) THAT YtampdiplodhkbaaProg.lean LOADS. Nothing in Lean hashes anything: it is a label: what it is worth is what the hold of that sum in a sandbox is worth. -/
noncomputable def Try.pinned : Pinned := { name := "ytampdiplodhkbaa", sum := "2f449aaecb9951e0b936f517b265235cd1b2fbe875c9c15b5d3ed203cddec508", checked := Try.checked }
namespace Rows
def none {H : Type} : Left H := { results := [], args := [] }

/-- 'kymographlaw04.ParamReads': WHATEVER THE INPUT: true; the input reads as it did. -/
def paramReadsSpec : ChangeSpec := { name := "paramReads", fn := fun _ => fun
  | [d] => { results := [.lit (.bool true)], args := [d] }
  | _ => none }
def paramReadsRow : OpenClaim := { program := "ytampdiplodhkbaa", sum := "2f449aaecb9951e0b936f517b265235cd1b2fbe875c9c15b5d3ed203cddec508", func := "kymograph/kymographlaw04.ParamReads", spec := "paramReads", inPlace := ["internal/abi.NoEscape"], unfollowed := true, recurses := true, apart := false }
def ParamReadsSaid : Prop := paramReadsRow.holds Try.pinned (OpenSpec.ofChange paramReadsSpec)

/-- ITS FALSE NEIGHBOUR: 'it returns false'. Refute it at one input. -/
def paramReadsWrong : ChangeSpec := { name := "paramReads", fn := fun _ => fun
  | [d] => { results := [.lit (.bool false)], args := [d] }
  | _ => none }
def ParamReadsWrongFalsely : Prop := paramReadsRow.holds Try.pinned (OpenSpec.ofChange paramReadsWrong)

/-- 'kymographlaw04.ParamWrites': WHATEVER THE INPUT: true; the input reads as it did. -/
def paramWritesSpec : ChangeSpec := { name := "paramWrites", fn := fun _ => fun
  | [d] => { results := [.lit (.bool true)], args := [d] }
  | _ => none }
def paramWritesRow : OpenClaim := { program := "ytampdiplodhkbaa", sum := "2f449aaecb9951e0b936f517b265235cd1b2fbe875c9c15b5d3ed203cddec508", func := "kymograph/kymographlaw04.ParamWrites", spec := "paramWrites", inPlace := ["internal/abi.NoEscape"], unfollowed := true, recurses := true, apart := false }
def ParamWritesSaid : Prop := paramWritesRow.holds Try.pinned (OpenSpec.ofChange paramWritesSpec)

/-- ITS FALSE NEIGHBOUR: 'it returns false'. Refute it at one input. -/
def paramWritesWrong : ChangeSpec := { name := "paramWrites", fn := fun _ => fun
  | [d] => { results := [.lit (.bool false)], args := [d] }
  | _ => none }
def ParamWritesWrongFalsely : Prop := paramWritesRow.holds Try.pinned (OpenSpec.ofChange paramWritesWrong)

/-- 'kymographlaw04.ParamBack': WHATEVER THE INPUT: true; the input reads as it did. -/
def paramBackSpec : ChangeSpec := { name := "paramBack", fn := fun _ => fun
  | [d1, d2] => { results := [.lit (.bool true)], args := [d1, d2] }
  | _ => none }
def paramBackRow : OpenClaim := { program := "ytampdiplodhkbaa", sum := "2f449aaecb9951e0b936f517b265235cd1b2fbe875c9c15b5d3ed203cddec508", func := "kymograph/kymographlaw04.ParamBack", spec := "paramBack", inPlace := ["internal/abi.NoEscape"], unfollowed := true, recurses := true, apart := false }
def ParamBackSaid : Prop := paramBackRow.holds Try.pinned (OpenSpec.ofChange paramBackSpec)

/-- ITS FALSE NEIGHBOUR: 'it returns false'. Refute it at one input. -/
def paramBackWrong : ChangeSpec := { name := "paramBack", fn := fun _ => fun
  | [d1, d2] => { results := [.lit (.bool false)], args := [d1, d2] }
  | _ => none }
def ParamBackWrongFalsely : Prop := paramBackRow.holds Try.pinned (OpenSpec.ofChange paramBackWrong)

/-- 'kymographlaw04.ParamOrder': WHATEVER THE INPUT: true; the input reads as it did. -/
def paramOrderSpec : ChangeSpec := { name := "paramOrder", fn := fun _ => fun
  | [d1, d2, d3, d4] => { results := [.lit (.bool true)], args := [d1, d2, d3, d4] }
  | _ => none }
def paramOrderRow : OpenClaim := { program := "ytampdiplodhkbaa", sum := "2f449aaecb9951e0b936f517b265235cd1b2fbe875c9c15b5d3ed203cddec508", func := "kymograph/kymographlaw04.ParamOrder", spec := "paramOrder", inPlace := ["internal/abi.NoEscape"], unfollowed := true, recurses := true, apart := false }
def ParamOrderSaid : Prop := paramOrderRow.holds Try.pinned (OpenSpec.ofChange paramOrderSpec)

/-- ITS FALSE NEIGHBOUR: 'it returns false'. Refute it at one input. -/
def paramOrderWrong : ChangeSpec := { name := "paramOrder", fn := fun _ => fun
  | [d1, d2, d3, d4] => { results := [.lit (.bool false)], args := [d1, d2, d3, d4] }
  | _ => none }
def ParamOrderWrongFalsely : Prop := paramOrderRow.holds Try.pinned (OpenSpec.ofChange paramOrderWrong)

/-- 'kymographlaw04.ParamOnce': WHATEVER THE INPUT: true; the input reads as it did. -/
def paramOnceSpec : ChangeSpec := { name := "paramOnce", fn := fun _ => fun
  | [d1, d2] => { results := [.lit (.bool true)], args := [d1, d2] }
  | _ => none }
def paramOnceRow : OpenClaim := { program := "ytampdiplodhkbaa", sum := "2f449aaecb9951e0b936f517b265235cd1b2fbe875c9c15b5d3ed203cddec508", func := "kymograph/kymographlaw04.ParamOnce", spec := "paramOnce", inPlace := ["internal/abi.NoEscape"], unfollowed := true, recurses := true, apart := false }
def ParamOnceSaid : Prop := paramOnceRow.holds Try.pinned (OpenSpec.ofChange paramOnceSpec)

/-- ITS FALSE NEIGHBOUR: 'it returns false'. Refute it at one input. -/
def paramOnceWrong : ChangeSpec := { name := "paramOnce", fn := fun _ => fun
  | [d1, d2] => { results := [.lit (.bool false)], args := [d1, d2] }
  | _ => none }
def ParamOnceWrongFalsely : Prop := paramOnceRow.holds Try.pinned (OpenSpec.ofChange paramOnceWrong)

/-- 'kymographlaw04.ParamRises': WHATEVER THE INPUT: true; the input reads as it did. -/
def paramRisesSpec : ChangeSpec := { name := "paramRises", fn := fun _ => fun
  | [d] => { results := [.lit (.bool true)], args := [d] }
  | _ => none }
def paramRisesRow : OpenClaim := { program := "ytampdiplodhkbaa", sum := "2f449aaecb9951e0b936f517b265235cd1b2fbe875c9c15b5d3ed203cddec508", func := "kymograph/kymographlaw04.ParamRises", spec := "paramRises", inPlace := ["internal/abi.NoEscape"], unfollowed := true, recurses := true, apart := false }
def ParamRisesSaid : Prop := paramRisesRow.holds Try.pinned (OpenSpec.ofChange paramRisesSpec)

/-- ITS FALSE NEIGHBOUR: 'it returns false'. Refute it at one input. -/
def paramRisesWrong : ChangeSpec := { name := "paramRises", fn := fun _ => fun
  | [d] => { results := [.lit (.bool false)], args := [d] }
  | _ => none }
def ParamRisesWrongFalsely : Prop := paramRisesRow.holds Try.pinned (OpenSpec.ofChange paramRisesWrong)

/- THE SECOND FORM. 'bulk': how many values and letters a reading holds, each counted each time it is reached (what is shared counts as often as it is met; a slice's spare places count too). A statement '..UptoSaid' is the law's where the arguments, and the package variables that the reading takes, are together of bulk at most 1048576: NARROWER than '..Said'. Prove '..Said' where nothing that the law and all that it calls make is longer than what came in: it says more and counts as full. Else prove '..UptoSaid'. A law counts once. -/
mutual
def uptoBulk {H : Type} : DataW H → Nat
  | .lit (.string bytes) => bytes.length + 1
  | .lit _ => 1
  | .nil => 1
  | .ptr d => uptoBulk d + 1
  | .slice elems spare => uptoBulkAll elems + uptoBulkAll spare + 1
  | .agg parts => uptoBulkAll parts + 1
  | .iface _ d => uptoBulk d + 1
  | .map entries => uptoBulkEntries entries + 1
  | .held _ => 1
def uptoBulkAll {H : Type} : List (DataW H) → Nat
  | [] => 0
  | d :: r => uptoBulk d + uptoBulkAll r
def uptoBulkEntries {H : Type} : List (Lit × DataW H) → Nat
  | [] => 0
  | x :: r => uptoBulkEntry x + uptoBulkEntries r
def uptoBulkEntry {H : Type} : Lit × DataW H → Nat
  | (.string bytes, d) => bytes.length + uptoBulk d + 1
  | (_, d) => uptoBulk d + 1
 end
def uptoSmall : (H : Type) → List (DataW H) → Bool := fun _ ds => decide (uptoBulkAll ds ≤ 1048576)
def OpenSpec.upto (s : _root_.Go.ChangeSpec) : _root_.Go.OpenSpec := { _root_.Go.OpenSpec.ofChange s with cond := some uptoSmall }

/-- 'kymographlaw04.ParamReads', WHERE WHAT IT READS IS OF BULK AT MOST 1048576: true; the input reads as it did. -/
def paramReadsUptoRow : OpenClaim := { program := "ytampdiplodhkbaa", sum := "2f449aaecb9951e0b936f517b265235cd1b2fbe875c9c15b5d3ed203cddec508", func := "kymograph/kymographlaw04.ParamReads", spec := "paramReads", inPlace := ["internal/abi.NoEscape"], unfollowed := true, recurses := true, apart := false, narrowed := true }
def ParamReadsUptoSaid : Prop := paramReadsUptoRow.holds Try.pinned (OpenSpec.upto paramReadsSpec)

/-- 'kymographlaw04.ParamWrites', WHERE WHAT IT READS IS OF BULK AT MOST 1048576: true; the input reads as it did. -/
def paramWritesUptoRow : OpenClaim := { program := "ytampdiplodhkbaa", sum := "2f449aaecb9951e0b936f517b265235cd1b2fbe875c9c15b5d3ed203cddec508", func := "kymograph/kymographlaw04.ParamWrites", spec := "paramWrites", inPlace := ["internal/abi.NoEscape"], unfollowed := true, recurses := true, apart := false, narrowed := true }
def ParamWritesUptoSaid : Prop := paramWritesUptoRow.holds Try.pinned (OpenSpec.upto paramWritesSpec)

/-- 'kymographlaw04.ParamBack', WHERE WHAT IT READS IS OF BULK AT MOST 1048576: true; the input reads as it did. -/
def paramBackUptoRow : OpenClaim := { program := "ytampdiplodhkbaa", sum := "2f449aaecb9951e0b936f517b265235cd1b2fbe875c9c15b5d3ed203cddec508", func := "kymograph/kymographlaw04.ParamBack", spec := "paramBack", inPlace := ["internal/abi.NoEscape"], unfollowed := true, recurses := true, apart := false, narrowed := true }
def ParamBackUptoSaid : Prop := paramBackUptoRow.holds Try.pinned (OpenSpec.upto paramBackSpec)

/-- 'kymographlaw04.ParamOrder', WHERE WHAT IT READS IS OF BULK AT MOST 1048576: true; the input reads as it did. -/
def paramOrderUptoRow : OpenClaim := { program := "ytampdiplodhkbaa", sum := "2f449aaecb9951e0b936f517b265235cd1b2fbe875c9c15b5d3ed203cddec508", func := "kymograph/kymographlaw04.ParamOrder", spec := "paramOrder", inPlace := ["internal/abi.NoEscape"], unfollowed := true, recurses := true, apart := false, narrowed := true }
def ParamOrderUptoSaid : Prop := paramOrderUptoRow.holds Try.pinned (OpenSpec.upto paramOrderSpec)

/-- 'kymographlaw04.ParamOnce', WHERE WHAT IT READS IS OF BULK AT MOST 1048576: true; the input reads as it did. -/
def paramOnceUptoRow : OpenClaim := { program := "ytampdiplodhkbaa", sum := "2f449aaecb9951e0b936f517b265235cd1b2fbe875c9c15b5d3ed203cddec508", func := "kymograph/kymographlaw04.ParamOnce", spec := "paramOnce", inPlace := ["internal/abi.NoEscape"], unfollowed := true, recurses := true, apart := false, narrowed := true }
def ParamOnceUptoSaid : Prop := paramOnceUptoRow.holds Try.pinned (OpenSpec.upto paramOnceSpec)

/-- 'kymographlaw04.ParamRises', WHERE WHAT IT READS IS OF BULK AT MOST 1048576: true; the input reads as it did. -/
def paramRisesUptoRow : OpenClaim := { program := "ytampdiplodhkbaa", sum := "2f449aaecb9951e0b936f517b265235cd1b2fbe875c9c15b5d3ed203cddec508", func := "kymograph/kymographlaw04.ParamRises", spec := "paramRises", inPlace := ["internal/abi.NoEscape"], unfollowed := true, recurses := true, apart := false, narrowed := true }
def ParamRisesUptoSaid : Prop := paramRisesUptoRow.holds Try.pinned (OpenSpec.upto paramRisesSpec)

end Rows
end Go.Proofs.Ytampdiplodhkbaa
