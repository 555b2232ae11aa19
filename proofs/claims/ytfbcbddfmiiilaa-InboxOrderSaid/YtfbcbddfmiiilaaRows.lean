/-
  No cell of these rows narrows 'for every input' (looked for: loops, veiled, ifaces, maps, wideKeys, modest, calm, conditions, laid).
  DERIVED. THE GIVEN ROWS OF THIS SEAT. 5 by the template 'for every input the law returns true; each argument reads behind the call as it read before'; 0 by the template 'total and deterministic' (their statements: YtfbcbddfmiiilaaTotals.lean).
  GIVEN WITH THE SEED: the statements are not yours to turn. If you find one false, say at which input.
  Laid BY PROGRAM, IN A SANDBOX (cutbox-rows.mjs): the forced cells as the released guide's own fill.sh prints them over the translation 796e1a5b4c0293f7… (all of the seat's roots in one cut). By AI agents, Wed Nov 11 2026. No macro, syntax, notation, axiom, sorry.
-/
import Derived.Test.YtfbcbddfmiiilaaChecked
import GoSem.Claim
import GoSem.ClaimJoined
import GoSem.ClaimMapViews
import Derived.JoinedTies
import Derived.KernelRfl
namespace Go.Proofs.Ytfbcbddfmiiilaa
/- THE CELL 'sum', in the pinned program and in every row, IS THE sha256 OF THE DUMP (.gsa) THAT YtfbcbddfmiiilaaProg.lean LOADS. Nothing in Lean hashes anything: it is a label: what it is worth is what the hold of that sum in a sandbox is worth. -/
noncomputable def Try.pinned : Pinned := { name := "ytfbcbddfmiiilaa", sum := "796e1a5b4c0293f758aaa3404a8550a9c8e83b9661165f359319d16829dd0d33", checked := Try.checked }
namespace Rows
def none {H : Type} : Left H := { results := [], args := [] }

/-- 'kymographlaw12.InboxTells': WHATEVER THE INPUT: true; the input reads as it did. -/
def inboxTellsSpec : ChangeSpec := { name := "inboxTells", fn := fun _ => fun
  | [d1, d2, d3] => { results := [.lit (.bool true)], args := [d1, d2, d3] }
  | _ => none }
def inboxTellsRow : OpenClaim := { program := "ytfbcbddfmiiilaa", sum := "796e1a5b4c0293f758aaa3404a8550a9c8e83b9661165f359319d16829dd0d33", func := "kymograph/kymographlaw12.InboxTells", spec := "inboxTells", unfollowed := true, recurses := true, apart := false }
def InboxTellsSaid : Prop := inboxTellsRow.holds Try.pinned (OpenSpec.ofChange inboxTellsSpec)

/-- ITS FALSE NEIGHBOUR: 'it returns false'. Refute it at one input. -/
def inboxTellsWrong : ChangeSpec := { name := "inboxTells", fn := fun _ => fun
  | [d1, d2, d3] => { results := [.lit (.bool false)], args := [d1, d2, d3] }
  | _ => none }
def InboxTellsWrongFalsely : Prop := inboxTellsRow.holds Try.pinned (OpenSpec.ofChange inboxTellsWrong)

/-- 'kymographlaw12.InboxOrder': WHATEVER THE INPUT: true; the input reads as it did. -/
def inboxOrderSpec : ChangeSpec := { name := "inboxOrder", fn := fun _ => fun
  | [d1, d2] => { results := [.lit (.bool true)], args := [d1, d2] }
  | _ => none }
def inboxOrderRow : OpenClaim := { program := "ytfbcbddfmiiilaa", sum := "796e1a5b4c0293f758aaa3404a8550a9c8e83b9661165f359319d16829dd0d33", func := "kymograph/kymographlaw12.InboxOrder", spec := "inboxOrder", unfollowed := true, recurses := true, apart := false }
def InboxOrderSaid : Prop := inboxOrderRow.holds Try.pinned (OpenSpec.ofChange inboxOrderSpec)

/-- ITS FALSE NEIGHBOUR: 'it returns false'. Refute it at one input. -/
def inboxOrderWrong : ChangeSpec := { name := "inboxOrder", fn := fun _ => fun
  | [d1, d2] => { results := [.lit (.bool false)], args := [d1, d2] }
  | _ => none }
def InboxOrderWrongFalsely : Prop := inboxOrderRow.holds Try.pinned (OpenSpec.ofChange inboxOrderWrong)

/-- 'kymographlaw12.InboxFinal': WHATEVER THE INPUT: true; the input reads as it did. -/
def inboxFinalSpec : ChangeSpec := { name := "inboxFinal", fn := fun _ => fun
  | [d1, d2] => { results := [.lit (.bool true)], args := [d1, d2] }
  | _ => none }
def inboxFinalRow : OpenClaim := { program := "ytfbcbddfmiiilaa", sum := "796e1a5b4c0293f758aaa3404a8550a9c8e83b9661165f359319d16829dd0d33", func := "kymograph/kymographlaw12.InboxFinal", spec := "inboxFinal", unfollowed := true, recurses := true, apart := false }
def InboxFinalSaid : Prop := inboxFinalRow.holds Try.pinned (OpenSpec.ofChange inboxFinalSpec)

/-- ITS FALSE NEIGHBOUR: 'it returns false'. Refute it at one input. -/
def inboxFinalWrong : ChangeSpec := { name := "inboxFinal", fn := fun _ => fun
  | [d1, d2] => { results := [.lit (.bool false)], args := [d1, d2] }
  | _ => none }
def InboxFinalWrongFalsely : Prop := inboxFinalRow.holds Try.pinned (OpenSpec.ofChange inboxFinalWrong)

/-- 'kymographlaw12.InboxFirst': WHATEVER THE INPUT: true; the input reads as it did. -/
def inboxFirstSpec : ChangeSpec := { name := "inboxFirst", fn := fun _ => fun
  | [d1, d2, d3, d4] => { results := [.lit (.bool true)], args := [d1, d2, d3, d4] }
  | _ => none }
def inboxFirstRow : OpenClaim := { program := "ytfbcbddfmiiilaa", sum := "796e1a5b4c0293f758aaa3404a8550a9c8e83b9661165f359319d16829dd0d33", func := "kymograph/kymographlaw12.InboxFirst", spec := "inboxFirst", unfollowed := true, recurses := true, apart := false }
def InboxFirstSaid : Prop := inboxFirstRow.holds Try.pinned (OpenSpec.ofChange inboxFirstSpec)

/-- ITS FALSE NEIGHBOUR: 'it returns false'. Refute it at one input. -/
def inboxFirstWrong : ChangeSpec := { name := "inboxFirst", fn := fun _ => fun
  | [d1, d2, d3, d4] => { results := [.lit (.bool false)], args := [d1, d2, d3, d4] }
  | _ => none }
def InboxFirstWrongFalsely : Prop := inboxFirstRow.holds Try.pinned (OpenSpec.ofChange inboxFirstWrong)

/-- 'kymographlaw12.InboxReady': WHATEVER THE INPUT: true; the input reads as it did. -/
def inboxReadySpec : ChangeSpec := { name := "inboxReady", fn := fun _ => fun
  | [d1, d2] => { results := [.lit (.bool true)], args := [d1, d2] }
  | _ => none }
def inboxReadyRow : OpenClaim := { program := "ytfbcbddfmiiilaa", sum := "796e1a5b4c0293f758aaa3404a8550a9c8e83b9661165f359319d16829dd0d33", func := "kymograph/kymographlaw12.InboxReady", spec := "inboxReady", unfollowed := true, recurses := true, apart := false }
def InboxReadySaid : Prop := inboxReadyRow.holds Try.pinned (OpenSpec.ofChange inboxReadySpec)

/-- ITS FALSE NEIGHBOUR: 'it returns false'. Refute it at one input. -/
def inboxReadyWrong : ChangeSpec := { name := "inboxReady", fn := fun _ => fun
  | [d1, d2] => { results := [.lit (.bool false)], args := [d1, d2] }
  | _ => none }
def InboxReadyWrongFalsely : Prop := inboxReadyRow.holds Try.pinned (OpenSpec.ofChange inboxReadyWrong)

/- THE SECOND FORM. 'bulk': how many values and letters a reading holds, each counted each time it is reached (what is shared counts as often as it is met; a slice's spare places count too). A statement '..UptoSaid' is the law's where the arguments, and the package variables that the reading takes, are together of bulk at most 1048576: NARROWER than '..Said'. Prove '..Said' where nothing that the law and all that it calls make is longer than what came in: it says more and counts as full. Else prove '..UptoSaid'. A law counts once. -/
mutual
def uptoBulk {H : Type} : DataW H → Nat
  | .lit (.string bytes) => bytes.length + 1
  | .lit _ => 1
  | .nil => 1
  | .ptr d => uptoBulk d + 1
  | .slice elems spare => uptoBulkAll elems + uptoBulkAll spare + 1
  | .agg parts => uptoBulkAll parts + 1
  | .iface _ d => uptoBulk d + 1
  | .map entries => uptoBulkEntries entries + 1
  | .held _ => 1
def uptoBulkAll {H : Type} : List (DataW H) → Nat
  | [] => 0
  | d :: r => uptoBulk d + uptoBulkAll r
def uptoBulkEntries {H : Type} : List (Lit × DataW H) → Nat
  | [] => 0
  | x :: r => uptoBulkEntry x + uptoBulkEntries r
def uptoBulkEntry {H : Type} : Lit × DataW H → Nat
  | (.string bytes, d) => bytes.length + uptoBulk d + 1
  | (_, d) => uptoBulk d + 1
 end
def uptoSmall : (H : Type) → List (DataW H) → Bool := fun _ ds => decide (uptoBulkAll ds ≤ 1048576)
def OpenSpec.upto (s : _root_.Go.ChangeSpec) : _root_.Go.OpenSpec := { _root_.Go.OpenSpec.ofChange s with cond := some uptoSmall }

/-- 'kymographlaw12.InboxTells', WHERE WHAT IT READS IS OF BULK AT MOST 1048576: true; the input reads as it did. -/
def inboxTellsUptoRow : OpenClaim := { program := "ytfbcbddfmiiilaa", sum := "796e1a5b4c0293f758aaa3404a8550a9c8e83b9661165f359319d16829dd0d33", func := "kymograph/kymographlaw12.InboxTells", spec := "inboxTells", unfollowed := true, recurses := true, apart := false, narrowed := true }
def InboxTellsUptoSaid : Prop := inboxTellsUptoRow.holds Try.pinned (OpenSpec.upto inboxTellsSpec)

/-- 'kymographlaw12.InboxOrder', WHERE WHAT IT READS IS OF BULK AT MOST 1048576: true; the input reads as it did. -/
def inboxOrderUptoRow : OpenClaim := { program := "ytfbcbddfmiiilaa", sum := "796e1a5b4c0293f758aaa3404a8550a9c8e83b9661165f359319d16829dd0d33", func := "kymograph/kymographlaw12.InboxOrder", spec := "inboxOrder", unfollowed := true, recurses := true, apart := false, narrowed := true }
def InboxOrderUptoSaid : Prop := inboxOrderUptoRow.holds Try.pinned (OpenSpec.upto inboxOrderSpec)

/-- 'kymographlaw12.InboxFinal', WHERE WHAT IT READS IS OF BULK AT MOST 1048576: true; the input reads as it did. -/
def inboxFinalUptoRow : OpenClaim := { program := "ytfbcbddfmiiilaa", sum := "796e1a5b4c0293f758aaa3404a8550a9c8e83b9661165f359319d16829dd0d33", func := "kymograph/kymographlaw12.InboxFinal", spec := "inboxFinal", unfollowed := true, recurses := true, apart := false, narrowed := true }
def InboxFinalUptoSaid : Prop := inboxFinalUptoRow.holds Try.pinned (OpenSpec.upto inboxFinalSpec)

/-- 'kymographlaw12.InboxFirst', WHERE WHAT IT READS IS OF BULK AT MOST 1048576: true; the input reads as it did. -/
def inboxFirstUptoRow : OpenClaim := { program := "ytfbcbddfmiiilaa", sum := "796e1a5b4c0293f758aaa3404a8550a9c8e83b9661165f359319d16829dd0d33", func := "kymograph/kymographlaw12.InboxFirst", spec := "inboxFirst", unfollowed := true, recurses := true, apart := false, narrowed := true }
def InboxFirstUptoSaid : Prop := inboxFirstUptoRow.holds Try.pinned (OpenSpec.upto inboxFirstSpec)

/-- 'kymographlaw12.InboxReady', WHERE WHAT IT READS IS OF BULK AT MOST 1048576: true; the input reads as it did. -/
def inboxReadyUptoRow : OpenClaim := { program := "ytfbcbddfmiiilaa", sum := "796e1a5b4c0293f758aaa3404a8550a9c8e83b9661165f359319d16829dd0d33", func := "kymograph/kymographlaw12.InboxReady", spec := "inboxReady", unfollowed := true, recurses := true, apart := false, narrowed := true }
def InboxReadyUptoSaid : Prop := inboxReadyUptoRow.holds Try.pinned (OpenSpec.upto inboxReadySpec)

end Rows
end Go.Proofs.Ytfbcbddfmiiilaa
