/-
  No cell of these rows narrows 'for every input' (looked for: loops, veiled, ifaces, maps, wideKeys, modest, calm, conditions, laid).
  DERIVED. THE GIVEN ROWS OF THIS SEAT. 6 by the template 'for every input the law returns true; each argument reads behind the call as it read before'; 0 by the template 'total and deterministic' (their statements: YtbpclinijbgchaaTotals.lean).
  GIVEN WITH THE SEED: the statements are not yours to turn. If you find one false, say at which input.
  Laid BY PROGRAM, IN A SANDBOX (cutbox-rows.mjs): the forced cells as the released guide's own fill.sh prints them over the translation 7942931c9299f3ec… (all of the seat's roots in one cut). By AI agents, Wed Nov 11 2026. No macro, syntax, notation, axiom, sorry.
-/
import Derived.Test.YtbpclinijbgchaaChecked
import GoSem.Claim
import GoSem.ClaimJoined
import GoSem.ClaimMapViews
import Derived.JoinedTies
import Derived.KernelRfl
namespace Go.Proofs.Ytbpclinijbgchaa
/- THE CELL 'sum', in the pinned program and in every row, IS THE sha256 OF THE DUMP (.gsa) THAT YtbpclinijbgchaaProg.lean LOADS. Nothing in Lean hashes anything: it is a label: what it is worth is what the hold of that sum in a sandbox is worth. -/
noncomputable def Try.pinned : Pinned := { name := "ytbpclinijbgchaa", sum := "7942931c9299f3ec1ba1dd56586317e32b555d276b7e2a1f04ad454500f83cbf", checked := Try.checked }
namespace Rows
def none {H : Type} : Left H := { results := [], args := [] }

/-- 'debuggerlaw35.TransportSteps': WHATEVER THE INPUT: true; the input reads as it did. -/
def transportStepsSpec : ChangeSpec := { name := "transportSteps", fn := fun _ => fun
  | [d1, d2, d3, d4, d5] => { results := [.lit (.bool true)], args := [d1, d2, d3, d4, d5] }
  | _ => none }
def transportStepsRow : OpenClaim := { program := "ytbpclinijbgchaa", sum := "7942931c9299f3ec1ba1dd56586317e32b555d276b7e2a1f04ad454500f83cbf", func := "debugger/debuggerlaw35.TransportSteps", spec := "transportSteps", unfollowed := true, recurses := true, apart := false }
def TransportStepsSaid : Prop := transportStepsRow.holds Try.pinned (OpenSpec.ofChange transportStepsSpec)

/-- ITS FALSE NEIGHBOUR: 'it returns false'. Refute it at one input. -/
def transportStepsWrong : ChangeSpec := { name := "transportSteps", fn := fun _ => fun
  | [d1, d2, d3, d4, d5] => { results := [.lit (.bool false)], args := [d1, d2, d3, d4, d5] }
  | _ => none }
def TransportStepsWrongFalsely : Prop := transportStepsRow.holds Try.pinned (OpenSpec.ofChange transportStepsWrong)

/-- 'debuggerlaw35.TransportPushes': WHATEVER THE INPUT: true; the input reads as it did. -/
def transportPushesSpec : ChangeSpec := { name := "transportPushes", fn := fun _ => fun
  | [d1, d2, d3] => { results := [.lit (.bool true)], args := [d1, d2, d3] }
  | _ => none }
def transportPushesRow : OpenClaim := { program := "ytbpclinijbgchaa", sum := "7942931c9299f3ec1ba1dd56586317e32b555d276b7e2a1f04ad454500f83cbf", func := "debugger/debuggerlaw35.TransportPushes", spec := "transportPushes", unfollowed := true, recurses := true, apart := false }
def TransportPushesSaid : Prop := transportPushesRow.holds Try.pinned (OpenSpec.ofChange transportPushesSpec)

/-- ITS FALSE NEIGHBOUR: 'it returns false'. Refute it at one input. -/
def transportPushesWrong : ChangeSpec := { name := "transportPushes", fn := fun _ => fun
  | [d1, d2, d3] => { results := [.lit (.bool false)], args := [d1, d2, d3] }
  | _ => none }
def TransportPushesWrongFalsely : Prop := transportPushesRow.holds Try.pinned (OpenSpec.ofChange transportPushesWrong)

/-- 'debuggerlaw35.TransportDelivers': WHATEVER THE INPUT: true; the input reads as it did. -/
def transportDeliversSpec : ChangeSpec := { name := "transportDelivers", fn := fun _ => fun
  | [d1, d2, d3, d4, d5] => { results := [.lit (.bool true)], args := [d1, d2, d3, d4, d5] }
  | _ => none }
def transportDeliversRow : OpenClaim := { program := "ytbpclinijbgchaa", sum := "7942931c9299f3ec1ba1dd56586317e32b555d276b7e2a1f04ad454500f83cbf", func := "debugger/debuggerlaw35.TransportDelivers", spec := "transportDelivers", unfollowed := true, recurses := true, apart := false }
def TransportDeliversSaid : Prop := transportDeliversRow.holds Try.pinned (OpenSpec.ofChange transportDeliversSpec)

/-- ITS FALSE NEIGHBOUR: 'it returns false'. Refute it at one input. -/
def transportDeliversWrong : ChangeSpec := { name := "transportDelivers", fn := fun _ => fun
  | [d1, d2, d3, d4, d5] => { results := [.lit (.bool false)], args := [d1, d2, d3, d4, d5] }
  | _ => none }
def TransportDeliversWrongFalsely : Prop := transportDeliversRow.holds Try.pinned (OpenSpec.ofChange transportDeliversWrong)

/-- 'debuggerlaw35.TransportRestarts': WHATEVER THE INPUT: true; the input reads as it did. -/
def transportRestartsSpec : ChangeSpec := { name := "transportRestarts", fn := fun _ => fun
  | [d1, d2, d3, d4, d5] => { results := [.lit (.bool true)], args := [d1, d2, d3, d4, d5] }
  | _ => none }
def transportRestartsRow : OpenClaim := { program := "ytbpclinijbgchaa", sum := "7942931c9299f3ec1ba1dd56586317e32b555d276b7e2a1f04ad454500f83cbf", func := "debugger/debuggerlaw35.TransportRestarts", spec := "transportRestarts", unfollowed := true, recurses := true, apart := false }
def TransportRestartsSaid : Prop := transportRestartsRow.holds Try.pinned (OpenSpec.ofChange transportRestartsSpec)

/-- ITS FALSE NEIGHBOUR: 'it returns false'. Refute it at one input. -/
def transportRestartsWrong : ChangeSpec := { name := "transportRestarts", fn := fun _ => fun
  | [d1, d2, d3, d4, d5] => { results := [.lit (.bool false)], args := [d1, d2, d3, d4, d5] }
  | _ => none }
def TransportRestartsWrongFalsely : Prop := transportRestartsRow.holds Try.pinned (OpenSpec.ofChange transportRestartsWrong)

/-- 'debuggerlaw35.TransportSilent': WHATEVER THE INPUT: true; the input reads as it did. -/
def transportSilentSpec : ChangeSpec := { name := "transportSilent", fn := fun _ => fun
  | [d1, d2, d3] => { results := [.lit (.bool true)], args := [d1, d2, d3] }
  | _ => none }
def transportSilentRow : OpenClaim := { program := "ytbpclinijbgchaa", sum := "7942931c9299f3ec1ba1dd56586317e32b555d276b7e2a1f04ad454500f83cbf", func := "debugger/debuggerlaw35.TransportSilent", spec := "transportSilent", unfollowed := true, recurses := true, apart := false }
def TransportSilentSaid : Prop := transportSilentRow.holds Try.pinned (OpenSpec.ofChange transportSilentSpec)

/-- ITS FALSE NEIGHBOUR: 'it returns false'. Refute it at one input. -/
def transportSilentWrong : ChangeSpec := { name := "transportSilent", fn := fun _ => fun
  | [d1, d2, d3] => { results := [.lit (.bool false)], args := [d1, d2, d3] }
  | _ => none }
def TransportSilentWrongFalsely : Prop := transportSilentRow.holds Try.pinned (OpenSpec.ofChange transportSilentWrong)

/-- 'debuggerlaw35.TransportWindow': WHATEVER THE INPUT: true; the input reads as it did. -/
def transportWindowSpec : ChangeSpec := { name := "transportWindow", fn := fun _ => fun
  | [d1, d2, d3] => { results := [.lit (.bool true)], args := [d1, d2, d3] }
  | _ => none }
def transportWindowRow : OpenClaim := { program := "ytbpclinijbgchaa", sum := "7942931c9299f3ec1ba1dd56586317e32b555d276b7e2a1f04ad454500f83cbf", func := "debugger/debuggerlaw35.TransportWindow", spec := "transportWindow", unfollowed := true, recurses := true, apart := false }
def TransportWindowSaid : Prop := transportWindowRow.holds Try.pinned (OpenSpec.ofChange transportWindowSpec)

/-- ITS FALSE NEIGHBOUR: 'it returns false'. Refute it at one input. -/
def transportWindowWrong : ChangeSpec := { name := "transportWindow", fn := fun _ => fun
  | [d1, d2, d3] => { results := [.lit (.bool false)], args := [d1, d2, d3] }
  | _ => none }
def TransportWindowWrongFalsely : Prop := transportWindowRow.holds Try.pinned (OpenSpec.ofChange transportWindowWrong)

/- THE SECOND FORM. 'bulk': how many values and letters a reading holds, each counted each time it is reached (what is shared counts as often as it is met; a slice's spare places count too). A statement '..UptoSaid' is the law's where the arguments, and the package variables that the reading takes, are together of bulk at most 1048576: NARROWER than '..Said'. Prove '..Said' where nothing that the law and all that it calls make is longer than what came in: it says more and counts as full. Else prove '..UptoSaid'. A law counts once. -/
mutual
def uptoBulk {H : Type} : DataW H → Nat
  | .lit (.string bytes) => bytes.length + 1
  | .lit _ => 1
  | .nil => 1
  | .ptr d => uptoBulk d + 1
  | .slice elems spare => uptoBulkAll elems + uptoBulkAll spare + 1
  | .agg parts => uptoBulkAll parts + 1
  | .iface _ d => uptoBulk d + 1
  | .map entries => uptoBulkEntries entries + 1
  | .held _ => 1
def uptoBulkAll {H : Type} : List (DataW H) → Nat
  | [] => 0
  | d :: r => uptoBulk d + uptoBulkAll r
def uptoBulkEntries {H : Type} : List (Lit × DataW H) → Nat
  | [] => 0
  | x :: r => uptoBulkEntry x + uptoBulkEntries r
def uptoBulkEntry {H : Type} : Lit × DataW H → Nat
  | (.string bytes, d) => bytes.length + uptoBulk d + 1
  | (_, d) => uptoBulk d + 1
 end
def uptoSmall : (H : Type) → List (DataW H) → Bool := fun _ ds => decide (uptoBulkAll ds ≤ 1048576)
def OpenSpec.upto (s : _root_.Go.ChangeSpec) : _root_.Go.OpenSpec := { _root_.Go.OpenSpec.ofChange s with cond := some uptoSmall }

/-- 'debuggerlaw35.TransportSteps', WHERE WHAT IT READS IS OF BULK AT MOST 1048576: true; the input reads as it did. -/
def transportStepsUptoRow : OpenClaim := { program := "ytbpclinijbgchaa", sum := "7942931c9299f3ec1ba1dd56586317e32b555d276b7e2a1f04ad454500f83cbf", func := "debugger/debuggerlaw35.TransportSteps", spec := "transportSteps", unfollowed := true, recurses := true, apart := false, narrowed := true }
def TransportStepsUptoSaid : Prop := transportStepsUptoRow.holds Try.pinned (OpenSpec.upto transportStepsSpec)

/-- 'debuggerlaw35.TransportPushes', WHERE WHAT IT READS IS OF BULK AT MOST 1048576: true; the input reads as it did. -/
def transportPushesUptoRow : OpenClaim := { program := "ytbpclinijbgchaa", sum := "7942931c9299f3ec1ba1dd56586317e32b555d276b7e2a1f04ad454500f83cbf", func := "debugger/debuggerlaw35.TransportPushes", spec := "transportPushes", unfollowed := true, recurses := true, apart := false, narrowed := true }
def TransportPushesUptoSaid : Prop := transportPushesUptoRow.holds Try.pinned (OpenSpec.upto transportPushesSpec)

/-- 'debuggerlaw35.TransportDelivers', WHERE WHAT IT READS IS OF BULK AT MOST 1048576: true; the input reads as it did. -/
def transportDeliversUptoRow : OpenClaim := { program := "ytbpclinijbgchaa", sum := "7942931c9299f3ec1ba1dd56586317e32b555d276b7e2a1f04ad454500f83cbf", func := "debugger/debuggerlaw35.TransportDelivers", spec := "transportDelivers", unfollowed := true, recurses := true, apart := false, narrowed := true }
def TransportDeliversUptoSaid : Prop := transportDeliversUptoRow.holds Try.pinned (OpenSpec.upto transportDeliversSpec)

/-- 'debuggerlaw35.TransportRestarts', WHERE WHAT IT READS IS OF BULK AT MOST 1048576: true; the input reads as it did. -/
def transportRestartsUptoRow : OpenClaim := { program := "ytbpclinijbgchaa", sum := "7942931c9299f3ec1ba1dd56586317e32b555d276b7e2a1f04ad454500f83cbf", func := "debugger/debuggerlaw35.TransportRestarts", spec := "transportRestarts", unfollowed := true, recurses := true, apart := false, narrowed := true }
def TransportRestartsUptoSaid : Prop := transportRestartsUptoRow.holds Try.pinned (OpenSpec.upto transportRestartsSpec)

/-- 'debuggerlaw35.TransportSilent', WHERE WHAT IT READS IS OF BULK AT MOST 1048576: true; the input reads as it did. -/
def transportSilentUptoRow : OpenClaim := { program := "ytbpclinijbgchaa", sum := "7942931c9299f3ec1ba1dd56586317e32b555d276b7e2a1f04ad454500f83cbf", func := "debugger/debuggerlaw35.TransportSilent", spec := "transportSilent", unfollowed := true, recurses := true, apart := false, narrowed := true }
def TransportSilentUptoSaid : Prop := transportSilentUptoRow.holds Try.pinned (OpenSpec.upto transportSilentSpec)

/-- 'debuggerlaw35.TransportWindow', WHERE WHAT IT READS IS OF BULK AT MOST 1048576: true; the input reads as it did. -/
def transportWindowUptoRow : OpenClaim := { program := "ytbpclinijbgchaa", sum := "7942931c9299f3ec1ba1dd56586317e32b555d276b7e2a1f04ad454500f83cbf", func := "debugger/debuggerlaw35.TransportWindow", spec := "transportWindow", unfollowed := true, recurses := true, apart := false, narrowed := true }
def TransportWindowUptoSaid : Prop := transportWindowUptoRow.holds Try.pinned (OpenSpec.upto transportWindowSpec)

end Rows
end Go.Proofs.Ytbpclinijbgchaa
