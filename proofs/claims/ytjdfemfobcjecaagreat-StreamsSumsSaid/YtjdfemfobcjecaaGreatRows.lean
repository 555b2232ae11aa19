/-
  No cell of these rows narrows 'for every input' (looked for: loops, veiled, ifaces, maps, wideKeys, modest, calm, conditions, laid).
  DERIVED. THE GIVEN ROWS OF THIS SEAT. 5 by the template 'for every input the law returns true; each argument reads behind the call as it read before'; 0 by the template 'total and deterministic' (their statements: YtjdfemfobcjecaaGreatTotals.lean).
  GIVEN WITH THE SEED: the statements are not yours to turn. If you find one false, say at which input.
  Laid BY PROGRAM, IN A SANDBOX (cutbox-rows.mjs): the forced cells as the released guide's own fill.sh prints them over the translation 64df5f6743458bda… (all of the seat's roots in one cut). By AI agents, Wed Nov 11 2026. No macro, syntax, notation, axiom, sorry.
-/
import Derived.Test.YtjdfemfobcjecaaGreatChecked
import GoSem.Claim
import GoSem.ClaimJoined
import GoSem.ClaimMapViews
import Derived.JoinedTies
import Derived.KernelRfl
namespace Go.Proofs.YtjdfemfobcjecaaGreat
/- THE CELL 'sum', in the pinned program and in every row, IS THE sha256 OF THE DUMP (.gsa) THAT YtjdfemfobcjecaaGreatProg.lean LOADS. Nothing in Lean hashes anything: it is a label: what it is worth is what the hold of that sum in a sandbox is worth. -/
noncomputable def Tryz.pinned : Pinned := { name := "ytjdfemfobcjecaagreat", sum := "64df5f6743458bda31e262f4ceb926ef365cffa0cec57bfc430fa259a7adf3c9", checked := Tryz.checked }
namespace Rows
def none {H : Type} : Left H := { results := [], args := [] }

/-- 'kymographlaw14.StreamsNames': WHATEVER THE INPUT: true; the input reads as it did. -/
def streamsNamesSpec : ChangeSpec := { name := "streamsNames", fn := fun _ => fun
  | [d1, d2] => { results := [.lit (.bool true)], args := [d1, d2] }
  | _ => none }
def streamsNamesRow : OpenClaim := { program := "ytjdfemfobcjecaagreat", sum := "64df5f6743458bda31e262f4ceb926ef365cffa0cec57bfc430fa259a7adf3c9", func := "kymograph/kymographlaw14.StreamsNames", spec := "streamsNames", inPlace := ["internal/bytealg.IndexByte", "internal/bytealg.Count", "internal/bytealg.Index"], unfollowed := true, recurses := true, named := ["internal/bytealg.MaxLen"], apart := false }
def StreamsNamesSaid : Prop := streamsNamesRow.holds Tryz.pinned (OpenSpec.ofChange streamsNamesSpec)

/-- ITS FALSE NEIGHBOUR: 'it returns false'. Refute it at one input. -/
def streamsNamesWrong : ChangeSpec := { name := "streamsNames", fn := fun _ => fun
  | [d1, d2] => { results := [.lit (.bool false)], args := [d1, d2] }
  | _ => none }
def StreamsNamesWrongFalsely : Prop := streamsNamesRow.holds Tryz.pinned (OpenSpec.ofChange streamsNamesWrong)

/-- 'kymographlaw14.StreamsOpen': WHATEVER THE INPUT: true; the input reads as it did. -/
def streamsOpenSpec : ChangeSpec := { name := "streamsOpen", fn := fun _ => fun
  | [d1, d2, d3] => { results := [.lit (.bool true)], args := [d1, d2, d3] }
  | _ => none }
def streamsOpenRow : OpenClaim := { program := "ytjdfemfobcjecaagreat", sum := "64df5f6743458bda31e262f4ceb926ef365cffa0cec57bfc430fa259a7adf3c9", func := "kymograph/kymographlaw14.StreamsOpen", spec := "streamsOpen", inPlace := ["internal/bytealg.IndexByte", "internal/bytealg.Count", "internal/bytealg.Index"], unfollowed := true, recurses := true, named := ["internal/bytealg.MaxLen"], apart := false }
def StreamsOpenSaid : Prop := streamsOpenRow.holds Tryz.pinned (OpenSpec.ofChange streamsOpenSpec)

/-- ITS FALSE NEIGHBOUR: 'it returns false'. Refute it at one input. -/
def streamsOpenWrong : ChangeSpec := { name := "streamsOpen", fn := fun _ => fun
  | [d1, d2, d3] => { results := [.lit (.bool false)], args := [d1, d2, d3] }
  | _ => none }
def StreamsOpenWrongFalsely : Prop := streamsOpenRow.holds Tryz.pinned (OpenSpec.ofChange streamsOpenWrong)

/-- 'kymographlaw14.StreamsStopped': WHATEVER THE INPUT: true; the input reads as it did. -/
def streamsStoppedSpec : ChangeSpec := { name := "streamsStopped", fn := fun _ => fun
  | [d1, d2, d3] => { results := [.lit (.bool true)], args := [d1, d2, d3] }
  | _ => none }
def streamsStoppedRow : OpenClaim := { program := "ytjdfemfobcjecaagreat", sum := "64df5f6743458bda31e262f4ceb926ef365cffa0cec57bfc430fa259a7adf3c9", func := "kymograph/kymographlaw14.StreamsStopped", spec := "streamsStopped", inPlace := ["internal/bytealg.IndexByte", "internal/bytealg.Count", "internal/bytealg.Index"], unfollowed := true, recurses := true, named := ["internal/bytealg.MaxLen"], apart := false }
def StreamsStoppedSaid : Prop := streamsStoppedRow.holds Tryz.pinned (OpenSpec.ofChange streamsStoppedSpec)

/-- ITS FALSE NEIGHBOUR: 'it returns false'. Refute it at one input. -/
def streamsStoppedWrong : ChangeSpec := { name := "streamsStopped", fn := fun _ => fun
  | [d1, d2, d3] => { results := [.lit (.bool false)], args := [d1, d2, d3] }
  | _ => none }
def StreamsStoppedWrongFalsely : Prop := streamsStoppedRow.holds Tryz.pinned (OpenSpec.ofChange streamsStoppedWrong)

/-- 'kymographlaw14.StreamsHold': WHATEVER THE INPUT: true; the input reads as it did. -/
def streamsHoldSpec : ChangeSpec := { name := "streamsHold", fn := fun _ => fun
  | [d1, d2, d3] => { results := [.lit (.bool true)], args := [d1, d2, d3] }
  | _ => none }
def streamsHoldRow : OpenClaim := { program := "ytjdfemfobcjecaagreat", sum := "64df5f6743458bda31e262f4ceb926ef365cffa0cec57bfc430fa259a7adf3c9", func := "kymograph/kymographlaw14.StreamsHold", spec := "streamsHold", inPlace := ["internal/bytealg.IndexByte", "internal/bytealg.Count", "internal/bytealg.Index"], unfollowed := true, recurses := true, named := ["internal/bytealg.MaxLen"], apart := false }
def StreamsHoldSaid : Prop := streamsHoldRow.holds Tryz.pinned (OpenSpec.ofChange streamsHoldSpec)

/-- ITS FALSE NEIGHBOUR: 'it returns false'. Refute it at one input. -/
def streamsHoldWrong : ChangeSpec := { name := "streamsHold", fn := fun _ => fun
  | [d1, d2, d3] => { results := [.lit (.bool false)], args := [d1, d2, d3] }
  | _ => none }
def StreamsHoldWrongFalsely : Prop := streamsHoldRow.holds Tryz.pinned (OpenSpec.ofChange streamsHoldWrong)

/-- 'kymographlaw14.StreamsSums': WHATEVER THE INPUT: true; the input reads as it did. -/
def streamsSumsSpec : ChangeSpec := { name := "streamsSums", fn := fun _ => fun
  | [d1, d2, d3, d4] => { results := [.lit (.bool true)], args := [d1, d2, d3, d4] }
  | _ => none }
def streamsSumsRow : OpenClaim := { program := "ytjdfemfobcjecaagreat", sum := "64df5f6743458bda31e262f4ceb926ef365cffa0cec57bfc430fa259a7adf3c9", func := "kymograph/kymographlaw14.StreamsSums", spec := "streamsSums", inPlace := ["internal/bytealg.IndexByte", "internal/bytealg.Count", "internal/bytealg.Index"], unfollowed := true, recurses := true, named := ["internal/bytealg.MaxLen"], apart := false }
def StreamsSumsSaid : Prop := streamsSumsRow.holds Tryz.pinned (OpenSpec.ofChange streamsSumsSpec)

/-- ITS FALSE NEIGHBOUR: 'it returns false'. Refute it at one input. -/
def streamsSumsWrong : ChangeSpec := { name := "streamsSums", fn := fun _ => fun
  | [d1, d2, d3, d4] => { results := [.lit (.bool false)], args := [d1, d2, d3, d4] }
  | _ => none }
def StreamsSumsWrongFalsely : Prop := streamsSumsRow.holds Tryz.pinned (OpenSpec.ofChange streamsSumsWrong)

/- THE SECOND FORM. 'bulk': how many values and letters a reading holds, each counted each time it is reached (what is shared counts as often as it is met; a slice's spare places count too). A statement '..UptoSaid' is the law's where the arguments, and the package variables that the reading takes, are together of bulk at most 1048576: NARROWER than '..Said'. Prove '..Said' where nothing that the law and all that it calls make is longer than what came in: it says more and counts as full. Else prove '..UptoSaid'. A law counts once. -/
mutual
def uptoBulk {H : Type} : DataW H → Nat
  | .lit (.string bytes) => bytes.length + 1
  | .lit _ => 1
  | .nil => 1
  | .ptr d => uptoBulk d + 1
  | .slice elems spare => uptoBulkAll elems + uptoBulkAll spare + 1
  | .agg parts => uptoBulkAll parts + 1
  | .iface _ d => uptoBulk d + 1
  | .map entries => uptoBulkEntries entries + 1
  | .held _ => 1
def uptoBulkAll {H : Type} : List (DataW H) → Nat
  | [] => 0
  | d :: r => uptoBulk d + uptoBulkAll r
def uptoBulkEntries {H : Type} : List (Lit × DataW H) → Nat
  | [] => 0
  | x :: r => uptoBulkEntry x + uptoBulkEntries r
def uptoBulkEntry {H : Type} : Lit × DataW H → Nat
  | (.string bytes, d) => bytes.length + uptoBulk d + 1
  | (_, d) => uptoBulk d + 1
 end
def uptoSmall : (H : Type) → List (DataW H) → Bool := fun _ ds => decide (uptoBulkAll ds ≤ 1048576)
def OpenSpec.upto (s : _root_.Go.ChangeSpec) : _root_.Go.OpenSpec := { _root_.Go.OpenSpec.ofChange s with cond := some uptoSmall }

/-- 'kymographlaw14.StreamsNames', WHERE WHAT IT READS IS OF BULK AT MOST 1048576: true; the input reads as it did. -/
def streamsNamesUptoRow : OpenClaim := { program := "ytjdfemfobcjecaagreat", sum := "64df5f6743458bda31e262f4ceb926ef365cffa0cec57bfc430fa259a7adf3c9", func := "kymograph/kymographlaw14.StreamsNames", spec := "streamsNames", inPlace := ["internal/bytealg.IndexByte", "internal/bytealg.Count", "internal/bytealg.Index"], unfollowed := true, recurses := true, named := ["internal/bytealg.MaxLen"], apart := false, narrowed := true }
def StreamsNamesUptoSaid : Prop := streamsNamesUptoRow.holds Tryz.pinned (OpenSpec.upto streamsNamesSpec)

/-- 'kymographlaw14.StreamsOpen', WHERE WHAT IT READS IS OF BULK AT MOST 1048576: true; the input reads as it did. -/
def streamsOpenUptoRow : OpenClaim := { program := "ytjdfemfobcjecaagreat", sum := "64df5f6743458bda31e262f4ceb926ef365cffa0cec57bfc430fa259a7adf3c9", func := "kymograph/kymographlaw14.StreamsOpen", spec := "streamsOpen", inPlace := ["internal/bytealg.IndexByte", "internal/bytealg.Count", "internal/bytealg.Index"], unfollowed := true, recurses := true, named := ["internal/bytealg.MaxLen"], apart := false, narrowed := true }
def StreamsOpenUptoSaid : Prop := streamsOpenUptoRow.holds Tryz.pinned (OpenSpec.upto streamsOpenSpec)

/-- 'kymographlaw14.StreamsStopped', WHERE WHAT IT READS IS OF BULK AT MOST 1048576: true; the input reads as it did. -/
def streamsStoppedUptoRow : OpenClaim := { program := "ytjdfemfobcjecaagreat", sum := "64df5f6743458bda31e262f4ceb926ef365cffa0cec57bfc430fa259a7adf3c9", func := "kymograph/kymographlaw14.StreamsStopped", spec := "streamsStopped", inPlace := ["internal/bytealg.IndexByte", "internal/bytealg.Count", "internal/bytealg.Index"], unfollowed := true, recurses := true, named := ["internal/bytealg.MaxLen"], apart := false, narrowed := true }
def StreamsStoppedUptoSaid : Prop := streamsStoppedUptoRow.holds Tryz.pinned (OpenSpec.upto streamsStoppedSpec)

/-- 'kymographlaw14.StreamsHold', WHERE WHAT IT READS IS OF BULK AT MOST 1048576: true; the input reads as it did. -/
def streamsHoldUptoRow : OpenClaim := { program := "ytjdfemfobcjecaagreat", sum := "64df5f6743458bda31e262f4ceb926ef365cffa0cec57bfc430fa259a7adf3c9", func := "kymograph/kymographlaw14.StreamsHold", spec := "streamsHold", inPlace := ["internal/bytealg.IndexByte", "internal/bytealg.Count", "internal/bytealg.Index"], unfollowed := true, recurses := true, named := ["internal/bytealg.MaxLen"], apart := false, narrowed := true }
def StreamsHoldUptoSaid : Prop := streamsHoldUptoRow.holds Tryz.pinned (OpenSpec.upto streamsHoldSpec)

/-- 'kymographlaw14.StreamsSums', WHERE WHAT IT READS IS OF BULK AT MOST 1048576: true; the input reads as it did. -/
def streamsSumsUptoRow : OpenClaim := { program := "ytjdfemfobcjecaagreat", sum := "64df5f6743458bda31e262f4ceb926ef365cffa0cec57bfc430fa259a7adf3c9", func := "kymograph/kymographlaw14.StreamsSums", spec := "streamsSums", inPlace := ["internal/bytealg.IndexByte", "internal/bytealg.Count", "internal/bytealg.Index"], unfollowed := true, recurses := true, named := ["internal/bytealg.MaxLen"], apart := false, narrowed := true }
def StreamsSumsUptoSaid : Prop := streamsSumsUptoRow.holds Tryz.pinned (OpenSpec.upto streamsSumsSpec)

end Rows
end Go.Proofs.YtjdfemfobcjecaaGreat
