/-
  No cell of these rows narrows 'for every input' (looked for: loops, veiled, ifaces, maps, wideKeys, modest, calm, conditions, laid).
  DERIVED. THE GIVEN ROWS OF THIS SEAT. 6 by the template 'for every input the law returns true; each argument reads behind the call as it read before'; 0 by the template 'total and deterministic' (their statements: YtnkhdipbljfohaaTotals.lean).
  GIVEN WITH THE SEED: the statements are not yours to turn. If you find one false, say at which input.
  Laid BY PROGRAM, IN A SANDBOX (cutbox-rows.mjs): the forced cells as the released guide's own fill.sh prints them over the translation e7d7221479f712bf… (all of the seat's roots in one cut). By AI agents, Wed Nov 11 2026. No macro, syntax, notation, axiom, sorry.
-/
import Derived.Test.YtnkhdipbljfohaaChecked
import GoSem.Claim
import GoSem.ClaimJoined
import GoSem.ClaimMapViews
import Derived.JoinedTies
import Derived.KernelRfl
namespace Go.Proofs.Ytnkhdipbljfohaa
/- THE CELL 'sum', in the pinned program and in every row, IS THE sha256 OF THE DUMP (.gsa) THAT YtnkhdipbljfohaaProg.lean LOADS. Nothing in Lean hashes anything: it is a label: what it is worth is what the hold of that sum in a sandbox is worth. -/
noncomputable def Try.pinned : Pinned := { name := "ytnkhdipbljfohaa", sum := "e7d7221479f712bf41a655c6d4089b7e2bc8cd974bd1964ea42671236e258add", checked := Try.checked }
namespace Rows
def none {H : Type} : Left H := { results := [], args := [] }

/-- 'kymographlaw13.OutboxGoes': WHATEVER THE INPUT: true; the input reads as it did. -/
def outboxGoesSpec : ChangeSpec := { name := "outboxGoes", fn := fun _ => fun
  | [d1, d2] => { results := [.lit (.bool true)], args := [d1, d2] }
  | _ => none }
def outboxGoesRow : OpenClaim := { program := "ytnkhdipbljfohaa", sum := "e7d7221479f712bf41a655c6d4089b7e2bc8cd974bd1964ea42671236e258add", func := "kymograph/kymographlaw13.OutboxGoes", spec := "outboxGoes", inPlace := ["internal/bytealg.IndexByte", "internal/bytealg.Count", "internal/bytealg.Index"], unfollowed := true, recurses := true, named := ["internal/bytealg.MaxLen"], apart := false }
def OutboxGoesSaid : Prop := outboxGoesRow.holds Try.pinned (OpenSpec.ofChange outboxGoesSpec)

/-- ITS FALSE NEIGHBOUR: 'it returns false'. Refute it at one input. -/
def outboxGoesWrong : ChangeSpec := { name := "outboxGoes", fn := fun _ => fun
  | [d1, d2] => { results := [.lit (.bool false)], args := [d1, d2] }
  | _ => none }
def OutboxGoesWrongFalsely : Prop := outboxGoesRow.holds Try.pinned (OpenSpec.ofChange outboxGoesWrong)

/-- 'kymographlaw13.OutboxEnds': WHATEVER THE INPUT: true; the input reads as it did. -/
def outboxEndsSpec : ChangeSpec := { name := "outboxEnds", fn := fun _ => fun
  | [d1, d2, d3] => { results := [.lit (.bool true)], args := [d1, d2, d3] }
  | _ => none }
def outboxEndsRow : OpenClaim := { program := "ytnkhdipbljfohaa", sum := "e7d7221479f712bf41a655c6d4089b7e2bc8cd974bd1964ea42671236e258add", func := "kymograph/kymographlaw13.OutboxEnds", spec := "outboxEnds", inPlace := ["internal/bytealg.IndexByte", "internal/bytealg.Count", "internal/bytealg.Index"], unfollowed := true, recurses := true, named := ["internal/bytealg.MaxLen"], apart := false }
def OutboxEndsSaid : Prop := outboxEndsRow.holds Try.pinned (OpenSpec.ofChange outboxEndsSpec)

/-- ITS FALSE NEIGHBOUR: 'it returns false'. Refute it at one input. -/
def outboxEndsWrong : ChangeSpec := { name := "outboxEnds", fn := fun _ => fun
  | [d1, d2, d3] => { results := [.lit (.bool false)], args := [d1, d2, d3] }
  | _ => none }
def OutboxEndsWrongFalsely : Prop := outboxEndsRow.holds Try.pinned (OpenSpec.ofChange outboxEndsWrong)

/-- 'kymographlaw13.OutboxOnce': WHATEVER THE INPUT: true; the input reads as it did. -/
def outboxOnceSpec : ChangeSpec := { name := "outboxOnce", fn := fun _ => fun
  | [d1, d2] => { results := [.lit (.bool true)], args := [d1, d2] }
  | _ => none }
def outboxOnceRow : OpenClaim := { program := "ytnkhdipbljfohaa", sum := "e7d7221479f712bf41a655c6d4089b7e2bc8cd974bd1964ea42671236e258add", func := "kymograph/kymographlaw13.OutboxOnce", spec := "outboxOnce", inPlace := ["internal/bytealg.IndexByte", "internal/bytealg.Count", "internal/bytealg.Index"], unfollowed := true, recurses := true, named := ["internal/bytealg.MaxLen"], apart := false }
def OutboxOnceSaid : Prop := outboxOnceRow.holds Try.pinned (OpenSpec.ofChange outboxOnceSpec)

/-- ITS FALSE NEIGHBOUR: 'it returns false'. Refute it at one input. -/
def outboxOnceWrong : ChangeSpec := { name := "outboxOnce", fn := fun _ => fun
  | [d1, d2] => { results := [.lit (.bool false)], args := [d1, d2] }
  | _ => none }
def OutboxOnceWrongFalsely : Prop := outboxOnceRow.holds Try.pinned (OpenSpec.ofChange outboxOnceWrong)

/-- 'kymographlaw13.OutboxReset': WHATEVER THE INPUT: true; the input reads as it did. -/
def outboxResetSpec : ChangeSpec := { name := "outboxReset", fn := fun _ => fun
  | [d1, d2, d3] => { results := [.lit (.bool true)], args := [d1, d2, d3] }
  | _ => none }
def outboxResetRow : OpenClaim := { program := "ytnkhdipbljfohaa", sum := "e7d7221479f712bf41a655c6d4089b7e2bc8cd974bd1964ea42671236e258add", func := "kymograph/kymographlaw13.OutboxReset", spec := "outboxReset", inPlace := ["internal/bytealg.IndexByte", "internal/bytealg.Count", "internal/bytealg.Index"], unfollowed := true, recurses := true, named := ["internal/bytealg.MaxLen"], apart := false }
def OutboxResetSaid : Prop := outboxResetRow.holds Try.pinned (OpenSpec.ofChange outboxResetSpec)

/-- ITS FALSE NEIGHBOUR: 'it returns false'. Refute it at one input. -/
def outboxResetWrong : ChangeSpec := { name := "outboxReset", fn := fun _ => fun
  | [d1, d2, d3] => { results := [.lit (.bool false)], args := [d1, d2, d3] }
  | _ => none }
def OutboxResetWrongFalsely : Prop := outboxResetRow.holds Try.pinned (OpenSpec.ofChange outboxResetWrong)

/-- 'kymographlaw13.OutboxSent': WHATEVER THE INPUT: true; the input reads as it did. -/
def outboxSentSpec : ChangeSpec := { name := "outboxSent", fn := fun _ => fun
  | [d1, d2] => { results := [.lit (.bool true)], args := [d1, d2] }
  | _ => none }
def outboxSentRow : OpenClaim := { program := "ytnkhdipbljfohaa", sum := "e7d7221479f712bf41a655c6d4089b7e2bc8cd974bd1964ea42671236e258add", func := "kymograph/kymographlaw13.OutboxSent", spec := "outboxSent", inPlace := ["internal/bytealg.IndexByte", "internal/bytealg.Count", "internal/bytealg.Index"], unfollowed := true, recurses := true, named := ["internal/bytealg.MaxLen"], apart := false }
def OutboxSentSaid : Prop := outboxSentRow.holds Try.pinned (OpenSpec.ofChange outboxSentSpec)

/-- ITS FALSE NEIGHBOUR: 'it returns false'. Refute it at one input. -/
def outboxSentWrong : ChangeSpec := { name := "outboxSent", fn := fun _ => fun
  | [d1, d2] => { results := [.lit (.bool false)], args := [d1, d2] }
  | _ => none }
def OutboxSentWrongFalsely : Prop := outboxSentRow.holds Try.pinned (OpenSpec.ofChange outboxSentWrong)

/-- 'kymographlaw13.OutboxDoes': WHATEVER THE INPUT: true; the input reads as it did. -/
def outboxDoesSpec : ChangeSpec := { name := "outboxDoes", fn := fun _ => fun
  | [d1, d2] => { results := [.lit (.bool true)], args := [d1, d2] }
  | _ => none }
def outboxDoesRow : OpenClaim := { program := "ytnkhdipbljfohaa", sum := "e7d7221479f712bf41a655c6d4089b7e2bc8cd974bd1964ea42671236e258add", func := "kymograph/kymographlaw13.OutboxDoes", spec := "outboxDoes", inPlace := ["internal/bytealg.IndexByte", "internal/bytealg.Count", "internal/bytealg.Index"], unfollowed := true, recurses := true, named := ["internal/bytealg.MaxLen"], apart := false }
def OutboxDoesSaid : Prop := outboxDoesRow.holds Try.pinned (OpenSpec.ofChange outboxDoesSpec)

/-- ITS FALSE NEIGHBOUR: 'it returns false'. Refute it at one input. -/
def outboxDoesWrong : ChangeSpec := { name := "outboxDoes", fn := fun _ => fun
  | [d1, d2] => { results := [.lit (.bool false)], args := [d1, d2] }
  | _ => none }
def OutboxDoesWrongFalsely : Prop := outboxDoesRow.holds Try.pinned (OpenSpec.ofChange outboxDoesWrong)

/- THE SECOND FORM. 'bulk': how many values and letters a reading holds, each counted each time it is reached (what is shared counts as often as it is met; a slice's spare places count too). A statement '..UptoSaid' is the law's where the arguments, and the package variables that the reading takes, are together of bulk at most 1048576: NARROWER than '..Said'. Prove '..Said' where nothing that the law and all that it calls make is longer than what came in: it says more and counts as full. Else prove '..UptoSaid'. A law counts once. -/
mutual
def uptoBulk {H : Type} : DataW H → Nat
  | .lit (.string bytes) => bytes.length + 1
  | .lit _ => 1
  | .nil => 1
  | .ptr d => uptoBulk d + 1
  | .slice elems spare => uptoBulkAll elems + uptoBulkAll spare + 1
  | .agg parts => uptoBulkAll parts + 1
  | .iface _ d => uptoBulk d + 1
  | .map entries => uptoBulkEntries entries + 1
  | .held _ => 1
def uptoBulkAll {H : Type} : List (DataW H) → Nat
  | [] => 0
  | d :: r => uptoBulk d + uptoBulkAll r
def uptoBulkEntries {H : Type} : List (Lit × DataW H) → Nat
  | [] => 0
  | x :: r => uptoBulkEntry x + uptoBulkEntries r
def uptoBulkEntry {H : Type} : Lit × DataW H → Nat
  | (.string bytes, d) => bytes.length + uptoBulk d + 1
  | (_, d) => uptoBulk d + 1
 end
def uptoSmall : (H : Type) → List (DataW H) → Bool := fun _ ds => decide (uptoBulkAll ds ≤ 1048576)
def OpenSpec.upto (s : _root_.Go.ChangeSpec) : _root_.Go.OpenSpec := { _root_.Go.OpenSpec.ofChange s with cond := some uptoSmall }

/-- 'kymographlaw13.OutboxGoes', WHERE WHAT IT READS IS OF BULK AT MOST 1048576: true; the input reads as it did. -/
def outboxGoesUptoRow : OpenClaim := { program := "ytnkhdipbljfohaa", sum := "e7d7221479f712bf41a655c6d4089b7e2bc8cd974bd1964ea42671236e258add", func := "kymograph/kymographlaw13.OutboxGoes", spec := "outboxGoes", inPlace := ["internal/bytealg.IndexByte", "internal/bytealg.Count", "internal/bytealg.Index"], unfollowed := true, recurses := true, named := ["internal/bytealg.MaxLen"], apart := false, narrowed := true }
def OutboxGoesUptoSaid : Prop := outboxGoesUptoRow.holds Try.pinned (OpenSpec.upto outboxGoesSpec)

/-- 'kymographlaw13.OutboxEnds', WHERE WHAT IT READS IS OF BULK AT MOST 1048576: true; the input reads as it did. -/
def outboxEndsUptoRow : OpenClaim := { program := "ytnkhdipbljfohaa", sum := "e7d7221479f712bf41a655c6d4089b7e2bc8cd974bd1964ea42671236e258add", func := "kymograph/kymographlaw13.OutboxEnds", spec := "outboxEnds", inPlace := ["internal/bytealg.IndexByte", "internal/bytealg.Count", "internal/bytealg.Index"], unfollowed := true, recurses := true, named := ["internal/bytealg.MaxLen"], apart := false, narrowed := true }
def OutboxEndsUptoSaid : Prop := outboxEndsUptoRow.holds Try.pinned (OpenSpec.upto outboxEndsSpec)

/-- 'kymographlaw13.OutboxOnce', WHERE WHAT IT READS IS OF BULK AT MOST 1048576: true; the input reads as it did. -/
def outboxOnceUptoRow : OpenClaim := { program := "ytnkhdipbljfohaa", sum := "e7d7221479f712bf41a655c6d4089b7e2bc8cd974bd1964ea42671236e258add", func := "kymograph/kymographlaw13.OutboxOnce", spec := "outboxOnce", inPlace := ["internal/bytealg.IndexByte", "internal/bytealg.Count", "internal/bytealg.Index"], unfollowed := true, recurses := true, named := ["internal/bytealg.MaxLen"], apart := false, narrowed := true }
def OutboxOnceUptoSaid : Prop := outboxOnceUptoRow.holds Try.pinned (OpenSpec.upto outboxOnceSpec)

/-- 'kymographlaw13.OutboxReset', WHERE WHAT IT READS IS OF BULK AT MOST 1048576: true; the input reads as it did. -/
def outboxResetUptoRow : OpenClaim := { program := "ytnkhdipbljfohaa", sum := "e7d7221479f712bf41a655c6d4089b7e2bc8cd974bd1964ea42671236e258add", func := "kymograph/kymographlaw13.OutboxReset", spec := "outboxReset", inPlace := ["internal/bytealg.IndexByte", "internal/bytealg.Count", "internal/bytealg.Index"], unfollowed := true, recurses := true, named := ["internal/bytealg.MaxLen"], apart := false, narrowed := true }
def OutboxResetUptoSaid : Prop := outboxResetUptoRow.holds Try.pinned (OpenSpec.upto outboxResetSpec)

/-- 'kymographlaw13.OutboxSent', WHERE WHAT IT READS IS OF BULK AT MOST 1048576: true; the input reads as it did. -/
def outboxSentUptoRow : OpenClaim := { program := "ytnkhdipbljfohaa", sum := "e7d7221479f712bf41a655c6d4089b7e2bc8cd974bd1964ea42671236e258add", func := "kymograph/kymographlaw13.OutboxSent", spec := "outboxSent", inPlace := ["internal/bytealg.IndexByte", "internal/bytealg.Count", "internal/bytealg.Index"], unfollowed := true, recurses := true, named := ["internal/bytealg.MaxLen"], apart := false, narrowed := true }
def OutboxSentUptoSaid : Prop := outboxSentUptoRow.holds Try.pinned (OpenSpec.upto outboxSentSpec)

/-- 'kymographlaw13.OutboxDoes', WHERE WHAT IT READS IS OF BULK AT MOST 1048576: true; the input reads as it did. -/
def outboxDoesUptoRow : OpenClaim := { program := "ytnkhdipbljfohaa", sum := "e7d7221479f712bf41a655c6d4089b7e2bc8cd974bd1964ea42671236e258add", func := "kymograph/kymographlaw13.OutboxDoes", spec := "outboxDoes", inPlace := ["internal/bytealg.IndexByte", "internal/bytealg.Count", "internal/bytealg.Index"], unfollowed := true, recurses := true, named := ["internal/bytealg.MaxLen"], apart := false, narrowed := true }
def OutboxDoesUptoSaid : Prop := outboxDoesUptoRow.holds Try.pinned (OpenSpec.upto outboxDoesSpec)

end Rows
end Go.Proofs.Ytnkhdipbljfohaa
