/-
  No cell of these rows narrows 'for every input' (looked for: loops, veiled, ifaces, maps, wideKeys, modest, calm, conditions, laid).
  DERIVED. THE GIVEN ROWS OF THIS SEAT. 14 by the template 'for every input the law returns true; each argument reads behind the call as it read before'; 0 by the template 'total and deterministic' (their statements: YtljjabccgbakgaaTotals.lean).
  GIVEN WITH THE SEED: the statements are not yours to turn. If you find one false, say at which input.
  Laid BY PROGRAM, IN A SANDBOX (cutbox-rows.mjs): the forced cells as the released guide's own fill.sh prints them over the translation f1c2b90ccb3f5fbd… (all of the seat's roots in one cut). By AI agents, Wed Nov 11 2026. No macro, syntax, notation, axiom, sorry.
-/
import Derived.Test.YtljjabccgbakgaaChecked
import GoSem.Claim
import GoSem.ClaimJoined
import GoSem.ClaimMapViews
import Derived.JoinedTies
import Derived.KernelRfl
namespace Go.Proofs.Ytljjabccgbakgaa
/- THE CELL 'sum', in the pinned program and in every row, IS THE sha256 OF THE DUMP (.gsa) THAT YtljjabccgbakgaaProg.lean LOADS. Nothing in Lean hashes anything: it is a label: what it is worth is what the hold of that sum in a sandbox is worth. -/
noncomputable def Try.pinned : Pinned := { name := "ytljjabccgbakgaa", sum := "f1c2b90ccb3f5fbdc108a8187da1081a98bee2c0acaef06233197a6adb6b24e7", checked := Try.checked }
namespace Rows
def none {H : Type} : Left H := { results := [], args := [] }

/-- 'debuggerlaw01.WireWrites': WHATEVER THE INPUT: true; the input reads as it did. -/
def wireWritesSpec : ChangeSpec := { name := "wireWrites", fn := fun _ => fun
  | [d1, d2, d3] => { results := [.lit (.bool true)], args := [d1, d2, d3] }
  | _ => none }
def wireWritesRow : OpenClaim := { program := "ytljjabccgbakgaa", sum := "f1c2b90ccb3f5fbdc108a8187da1081a98bee2c0acaef06233197a6adb6b24e7", func := "debugger/debuggerlaw01.WireWrites", spec := "wireWrites", unfollowed := true, recurses := true, apart := false }
def WireWritesSaid : Prop := wireWritesRow.holds Try.pinned (OpenSpec.ofChange wireWritesSpec)

/-- ITS FALSE NEIGHBOUR: 'it returns false'. Refute it at one input. -/
def wireWritesWrong : ChangeSpec := { name := "wireWrites", fn := fun _ => fun
  | [d1, d2, d3] => { results := [.lit (.bool false)], args := [d1, d2, d3] }
  | _ => none }
def WireWritesWrongFalsely : Prop := wireWritesRow.holds Try.pinned (OpenSpec.ofChange wireWritesWrong)

/-- 'debuggerlaw01.WireOwn': WHATEVER THE INPUT: true; the input reads as it did. -/
def wireOwnSpec : ChangeSpec := { name := "wireOwn", fn := fun _ => fun
  | [d1, d2, d3] => { results := [.lit (.bool true)], args := [d1, d2, d3] }
  | _ => none }
def wireOwnRow : OpenClaim := { program := "ytljjabccgbakgaa", sum := "f1c2b90ccb3f5fbdc108a8187da1081a98bee2c0acaef06233197a6adb6b24e7", func := "debugger/debuggerlaw01.WireOwn", spec := "wireOwn", unfollowed := true, recurses := true, apart := false }
def WireOwnSaid : Prop := wireOwnRow.holds Try.pinned (OpenSpec.ofChange wireOwnSpec)

/-- ITS FALSE NEIGHBOUR: 'it returns false'. Refute it at one input. -/
def wireOwnWrong : ChangeSpec := { name := "wireOwn", fn := fun _ => fun
  | [d1, d2, d3] => { results := [.lit (.bool false)], args := [d1, d2, d3] }
  | _ => none }
def WireOwnWrongFalsely : Prop := wireOwnRow.holds Try.pinned (OpenSpec.ofChange wireOwnWrong)

/-- 'debuggerlaw33.PacketSums': WHATEVER THE INPUT: true; the input reads as it did. -/
def packetSumsSpec : ChangeSpec := { name := "packetSums", fn := fun _ => fun
  | [d] => { results := [.lit (.bool true)], args := [d] }
  | _ => none }
def packetSumsRow : OpenClaim := { program := "ytljjabccgbakgaa", sum := "f1c2b90ccb3f5fbdc108a8187da1081a98bee2c0acaef06233197a6adb6b24e7", func := "debugger/debuggerlaw33.PacketSums", spec := "packetSums", apart := false }
def PacketSumsSaid : Prop := packetSumsRow.holds Try.pinned (OpenSpec.ofChange packetSumsSpec)

/-- ITS FALSE NEIGHBOUR: 'it returns false'. Refute it at one input. -/
def packetSumsWrong : ChangeSpec := { name := "packetSums", fn := fun _ => fun
  | [d] => { results := [.lit (.bool false)], args := [d] }
  | _ => none }
def PacketSumsWrongFalsely : Prop := packetSumsRow.holds Try.pinned (OpenSpec.ofChange packetSumsWrong)

/-- 'debuggerlaw01.WireReads': WHATEVER THE INPUT: true; the input reads as it did. -/
def wireReadsSpec : ChangeSpec := { name := "wireReads", fn := fun _ => fun
  | [d1, d2] => { results := [.lit (.bool true)], args := [d1, d2] }
  | _ => none }
def wireReadsRow : OpenClaim := { program := "ytljjabccgbakgaa", sum := "f1c2b90ccb3f5fbdc108a8187da1081a98bee2c0acaef06233197a6adb6b24e7", func := "debugger/debuggerlaw01.WireReads", spec := "wireReads", unfollowed := true, recurses := true, apart := false }
def WireReadsSaid : Prop := wireReadsRow.holds Try.pinned (OpenSpec.ofChange wireReadsSpec)

/-- ITS FALSE NEIGHBOUR: 'it returns false'. Refute it at one input. -/
def wireReadsWrong : ChangeSpec := { name := "wireReads", fn := fun _ => fun
  | [d1, d2] => { results := [.lit (.bool false)], args := [d1, d2] }
  | _ => none }
def WireReadsWrongFalsely : Prop := wireReadsRow.holds Try.pinned (OpenSpec.ofChange wireReadsWrong)

/-- 'debuggerlaw01.WireBack': WHATEVER THE INPUT: true; the input reads as it did. -/
def wireBackSpec : ChangeSpec := { name := "wireBack", fn := fun _ => fun
  | [d1, d2, d3, d4] => { results := [.lit (.bool true)], args := [d1, d2, d3, d4] }
  | _ => none }
def wireBackRow : OpenClaim := { program := "ytljjabccgbakgaa", sum := "f1c2b90ccb3f5fbdc108a8187da1081a98bee2c0acaef06233197a6adb6b24e7", func := "debugger/debuggerlaw01.WireBack", spec := "wireBack", unfollowed := true, recurses := true, apart := false }
def WireBackSaid : Prop := wireBackRow.holds Try.pinned (OpenSpec.ofChange wireBackSpec)

/-- ITS FALSE NEIGHBOUR: 'it returns false'. Refute it at one input. -/
def wireBackWrong : ChangeSpec := { name := "wireBack", fn := fun _ => fun
  | [d1, d2, d3, d4] => { results := [.lit (.bool false)], args := [d1, d2, d3, d4] }
  | _ => none }
def WireBackWrongFalsely : Prop := wireBackRow.holds Try.pinned (OpenSpec.ofChange wireBackWrong)

/-- 'debuggerlaw36.MessageCommands': WHATEVER THE INPUT: true; the input reads as it did. -/
def messageCommandsSpec : ChangeSpec := { name := "messageCommands", fn := fun _ => fun
  | [d1, d2] => { results := [.lit (.bool true)], args := [d1, d2] }
  | _ => none }
def messageCommandsRow : OpenClaim := { program := "ytljjabccgbakgaa", sum := "f1c2b90ccb3f5fbdc108a8187da1081a98bee2c0acaef06233197a6adb6b24e7", func := "debugger/debuggerlaw36.MessageCommands", spec := "messageCommands", unfollowed := true, recurses := true, apart := false }
def MessageCommandsSaid : Prop := messageCommandsRow.holds Try.pinned (OpenSpec.ofChange messageCommandsSpec)

/-- ITS FALSE NEIGHBOUR: 'it returns false'. Refute it at one input. -/
def messageCommandsWrong : ChangeSpec := { name := "messageCommands", fn := fun _ => fun
  | [d1, d2] => { results := [.lit (.bool false)], args := [d1, d2] }
  | _ => none }
def MessageCommandsWrongFalsely : Prop := messageCommandsRow.holds Try.pinned (OpenSpec.ofChange messageCommandsWrong)

/-- 'debuggerlaw33.PacketCodes': WHATEVER THE INPUT: true; the input reads as it did. -/
def packetCodesSpec : ChangeSpec := { name := "packetCodes", fn := fun _ => fun
  | [d1, d2] => { results := [.lit (.bool true)], args := [d1, d2] }
  | _ => none }
def packetCodesRow : OpenClaim := { program := "ytljjabccgbakgaa", sum := "f1c2b90ccb3f5fbdc108a8187da1081a98bee2c0acaef06233197a6adb6b24e7", func := "debugger/debuggerlaw33.PacketCodes", spec := "packetCodes", unfollowed := true, recurses := true, apart := false }
def PacketCodesSaid : Prop := packetCodesRow.holds Try.pinned (OpenSpec.ofChange packetCodesSpec)

/-- ITS FALSE NEIGHBOUR: 'it returns false'. Refute it at one input. -/
def packetCodesWrong : ChangeSpec := { name := "packetCodes", fn := fun _ => fun
  | [d1, d2] => { results := [.lit (.bool false)], args := [d1, d2] }
  | _ => none }
def PacketCodesWrongFalsely : Prop := packetCodesRow.holds Try.pinned (OpenSpec.ofChange packetCodesWrong)

/-- 'debuggerlaw33.PacketDecodes': WHATEVER THE INPUT: true; the input reads as it did. -/
def packetDecodesSpec : ChangeSpec := { name := "packetDecodes", fn := fun _ => fun
  | [d1, d2, d3, d4, d5] => { results := [.lit (.bool true)], args := [d1, d2, d3, d4, d5] }
  | _ => none }
def packetDecodesRow : OpenClaim := { program := "ytljjabccgbakgaa", sum := "f1c2b90ccb3f5fbdc108a8187da1081a98bee2c0acaef06233197a6adb6b24e7", func := "debugger/debuggerlaw33.PacketDecodes", spec := "packetDecodes", unfollowed := true, recurses := true, apart := false }
def PacketDecodesSaid : Prop := packetDecodesRow.holds Try.pinned (OpenSpec.ofChange packetDecodesSpec)

/-- ITS FALSE NEIGHBOUR: 'it returns false'. Refute it at one input. -/
def packetDecodesWrong : ChangeSpec := { name := "packetDecodes", fn := fun _ => fun
  | [d1, d2, d3, d4, d5] => { results := [.lit (.bool false)], args := [d1, d2, d3, d4, d5] }
  | _ => none }
def PacketDecodesWrongFalsely : Prop := packetDecodesRow.holds Try.pinned (OpenSpec.ofChange packetDecodesWrong)

/-- 'debuggerlaw33.PacketBursts': WHATEVER THE INPUT: true; the input reads as it did. -/
def packetBurstsSpec : ChangeSpec := { name := "packetBursts", fn := fun _ => fun
  | [d1, d2, d3] => { results := [.lit (.bool true)], args := [d1, d2, d3] }
  | _ => none }
def packetBurstsRow : OpenClaim := { program := "ytljjabccgbakgaa", sum := "f1c2b90ccb3f5fbdc108a8187da1081a98bee2c0acaef06233197a6adb6b24e7", func := "debugger/debuggerlaw33.PacketBursts", spec := "packetBursts", unfollowed := true, recurses := true, apart := false }
def PacketBurstsSaid : Prop := packetBurstsRow.holds Try.pinned (OpenSpec.ofChange packetBurstsSpec)

/-- ITS FALSE NEIGHBOUR: 'it returns false'. Refute it at one input. -/
def packetBurstsWrong : ChangeSpec := { name := "packetBursts", fn := fun _ => fun
  | [d1, d2, d3] => { results := [.lit (.bool false)], args := [d1, d2, d3] }
  | _ => none }
def PacketBurstsWrongFalsely : Prop := packetBurstsRow.holds Try.pinned (OpenSpec.ofChange packetBurstsWrong)

/-- 'debuggerlaw33.PacketOne': WHATEVER THE INPUT: true; the input reads as it did. -/
def packetOneSpec : ChangeSpec := { name := "packetOne", fn := fun _ => fun
  | [d1, d2, d3] => { results := [.lit (.bool true)], args := [d1, d2, d3] }
  | _ => none }
def packetOneRow : OpenClaim := { program := "ytljjabccgbakgaa", sum := "f1c2b90ccb3f5fbdc108a8187da1081a98bee2c0acaef06233197a6adb6b24e7", func := "debugger/debuggerlaw33.PacketOne", spec := "packetOne", unfollowed := true, recurses := true, apart := false }
def PacketOneSaid : Prop := packetOneRow.holds Try.pinned (OpenSpec.ofChange packetOneSpec)

/-- ITS FALSE NEIGHBOUR: 'it returns false'. Refute it at one input. -/
def packetOneWrong : ChangeSpec := { name := "packetOne", fn := fun _ => fun
  | [d1, d2, d3] => { results := [.lit (.bool false)], args := [d1, d2, d3] }
  | _ => none }
def PacketOneWrongFalsely : Prop := packetOneRow.holds Try.pinned (OpenSpec.ofChange packetOneWrong)

/-- 'debuggerlaw36.MessageFits': WHATEVER THE INPUT: true; the input reads as it did. -/
def messageFitsSpec : ChangeSpec := { name := "messageFits", fn := fun _ => fun
  | [d1, d2, d3] => { results := [.lit (.bool true)], args := [d1, d2, d3] }
  | _ => none }
def messageFitsRow : OpenClaim := { program := "ytljjabccgbakgaa", sum := "f1c2b90ccb3f5fbdc108a8187da1081a98bee2c0acaef06233197a6adb6b24e7", func := "debugger/debuggerlaw36.MessageFits", spec := "messageFits", unfollowed := true, recurses := true, apart := false }
def MessageFitsSaid : Prop := messageFitsRow.holds Try.pinned (OpenSpec.ofChange messageFitsSpec)

/-- ITS FALSE NEIGHBOUR: 'it returns false'. Refute it at one input. -/
def messageFitsWrong : ChangeSpec := { name := "messageFits", fn := fun _ => fun
  | [d1, d2, d3] => { results := [.lit (.bool false)], args := [d1, d2, d3] }
  | _ => none }
def MessageFitsWrongFalsely : Prop := messageFitsRow.holds Try.pinned (OpenSpec.ofChange messageFitsWrong)

/-- 'debuggerlaw36.MessageDecodes': WHATEVER THE INPUT: true; the input reads as it did. -/
def messageDecodesSpec : ChangeSpec := { name := "messageDecodes", fn := fun _ => fun
  | [d1, d2, d3, d4, d5, d6] => { results := [.lit (.bool true)], args := [d1, d2, d3, d4, d5, d6] }
  | _ => none }
def messageDecodesRow : OpenClaim := { program := "ytljjabccgbakgaa", sum := "f1c2b90ccb3f5fbdc108a8187da1081a98bee2c0acaef06233197a6adb6b24e7", func := "debugger/debuggerlaw36.MessageDecodes", spec := "messageDecodes", unfollowed := true, recurses := true, apart := false }
def MessageDecodesSaid : Prop := messageDecodesRow.holds Try.pinned (OpenSpec.ofChange messageDecodesSpec)

/-- ITS FALSE NEIGHBOUR: 'it returns false'. Refute it at one input. -/
def messageDecodesWrong : ChangeSpec := { name := "messageDecodes", fn := fun _ => fun
  | [d1, d2, d3, d4, d5, d6] => { results := [.lit (.bool false)], args := [d1, d2, d3, d4, d5, d6] }
  | _ => none }
def MessageDecodesWrongFalsely : Prop := messageDecodesRow.holds Try.pinned (OpenSpec.ofChange messageDecodesWrong)

/-- 'debuggerlaw36.MessageReplies': WHATEVER THE INPUT: true; the input reads as it did. -/
def messageRepliesSpec : ChangeSpec := { name := "messageReplies", fn := fun _ => fun
  | [d1, d2] => { results := [.lit (.bool true)], args := [d1, d2] }
  | _ => none }
def messageRepliesRow : OpenClaim := { program := "ytljjabccgbakgaa", sum := "f1c2b90ccb3f5fbdc108a8187da1081a98bee2c0acaef06233197a6adb6b24e7", func := "debugger/debuggerlaw36.MessageReplies", spec := "messageReplies", unfollowed := true, recurses := true, apart := false }
def MessageRepliesSaid : Prop := messageRepliesRow.holds Try.pinned (OpenSpec.ofChange messageRepliesSpec)

/-- ITS FALSE NEIGHBOUR: 'it returns false'. Refute it at one input. -/
def messageRepliesWrong : ChangeSpec := { name := "messageReplies", fn := fun _ => fun
  | [d1, d2] => { results := [.lit (.bool false)], args := [d1, d2] }
  | _ => none }
def MessageRepliesWrongFalsely : Prop := messageRepliesRow.holds Try.pinned (OpenSpec.ofChange messageRepliesWrong)

/-- 'debuggerlaw36.MessageOne': WHATEVER THE INPUT: true; the input reads as it did. -/
def messageOneSpec : ChangeSpec := { name := "messageOne", fn := fun _ => fun
  | [d1, d2, d3, d4, d5] => { results := [.lit (.bool true)], args := [d1, d2, d3, d4, d5] }
  | _ => none }
def messageOneRow : OpenClaim := { program := "ytljjabccgbakgaa", sum := "f1c2b90ccb3f5fbdc108a8187da1081a98bee2c0acaef06233197a6adb6b24e7", func := "debugger/debuggerlaw36.MessageOne", spec := "messageOne", unfollowed := true, recurses := true, apart := false }
def MessageOneSaid : Prop := messageOneRow.holds Try.pinned (OpenSpec.ofChange messageOneSpec)

/-- ITS FALSE NEIGHBOUR: 'it returns false'. Refute it at one input. -/
def messageOneWrong : ChangeSpec := { name := "messageOne", fn := fun _ => fun
  | [d1, d2, d3, d4, d5] => { results := [.lit (.bool false)], args := [d1, d2, d3, d4, d5] }
  | _ => none }
def MessageOneWrongFalsely : Prop := messageOneRow.holds Try.pinned (OpenSpec.ofChange messageOneWrong)

/- THE SECOND FORM. 'bulk': how many values and letters a reading holds, each counted each time it is reached (what is shared counts as often as it is met; a slice's spare places count too). A statement '..UptoSaid' is the law's where the arguments, and the package variables that the reading takes, are together of bulk at most 1048576: NARROWER than '..Said'. Prove '..Said' where nothing that the law and all that it calls make is longer than what came in: it says more and counts as full. Else prove '..UptoSaid'. A law counts once. -/
mutual
def uptoBulk {H : Type} : DataW H → Nat
  | .lit (.string bytes) => bytes.length + 1
  | .lit _ => 1
  | .nil => 1
  | .ptr d => uptoBulk d + 1
  | .slice elems spare => uptoBulkAll elems + uptoBulkAll spare + 1
  | .agg parts => uptoBulkAll parts + 1
  | .iface _ d => uptoBulk d + 1
  | .map entries => uptoBulkEntries entries + 1
  | .held _ => 1
def uptoBulkAll {H : Type} : List (DataW H) → Nat
  | [] => 0
  | d :: r => uptoBulk d + uptoBulkAll r
def uptoBulkEntries {H : Type} : List (Lit × DataW H) → Nat
  | [] => 0
  | x :: r => uptoBulkEntry x + uptoBulkEntries r
def uptoBulkEntry {H : Type} : Lit × DataW H → Nat
  | (.string bytes, d) => bytes.length + uptoBulk d + 1
  | (_, d) => uptoBulk d + 1
 end
def uptoSmall : (H : Type) → List (DataW H) → Bool := fun _ ds => decide (uptoBulkAll ds ≤ 1048576)
def OpenSpec.upto (s : _root_.Go.ChangeSpec) : _root_.Go.OpenSpec := { _root_.Go.OpenSpec.ofChange s with cond := some uptoSmall }

/-- 'debuggerlaw01.WireWrites', WHERE WHAT IT READS IS OF BULK AT MOST 1048576: true; the input reads as it did. -/
def wireWritesUptoRow : OpenClaim := { program := "ytljjabccgbakgaa", sum := "f1c2b90ccb3f5fbdc108a8187da1081a98bee2c0acaef06233197a6adb6b24e7", func := "debugger/debuggerlaw01.WireWrites", spec := "wireWrites", unfollowed := true, recurses := true, apart := false, narrowed := true }
def WireWritesUptoSaid : Prop := wireWritesUptoRow.holds Try.pinned (OpenSpec.upto wireWritesSpec)

/-- 'debuggerlaw01.WireOwn', WHERE WHAT IT READS IS OF BULK AT MOST 1048576: true; the input reads as it did. -/
def wireOwnUptoRow : OpenClaim := { program := "ytljjabccgbakgaa", sum := "f1c2b90ccb3f5fbdc108a8187da1081a98bee2c0acaef06233197a6adb6b24e7", func := "debugger/debuggerlaw01.WireOwn", spec := "wireOwn", unfollowed := true, recurses := true, apart := false, narrowed := true }
def WireOwnUptoSaid : Prop := wireOwnUptoRow.holds Try.pinned (OpenSpec.upto wireOwnSpec)

/-- 'debuggerlaw33.PacketSums', WHERE WHAT IT READS IS OF BULK AT MOST 1048576: true; the input reads as it did. -/
def packetSumsUptoRow : OpenClaim := { program := "ytljjabccgbakgaa", sum := "f1c2b90ccb3f5fbdc108a8187da1081a98bee2c0acaef06233197a6adb6b24e7", func := "debugger/debuggerlaw33.PacketSums", spec := "packetSums", apart := false, narrowed := true }
def PacketSumsUptoSaid : Prop := packetSumsUptoRow.holds Try.pinned (OpenSpec.upto packetSumsSpec)

/-- 'debuggerlaw01.WireReads', WHERE WHAT IT READS IS OF BULK AT MOST 1048576: true; the input reads as it did. -/
def wireReadsUptoRow : OpenClaim := { program := "ytljjabccgbakgaa", sum := "f1c2b90ccb3f5fbdc108a8187da1081a98bee2c0acaef06233197a6adb6b24e7", func := "debugger/debuggerlaw01.WireReads", spec := "wireReads", unfollowed := true, recurses := true, apart := false, narrowed := true }
def WireReadsUptoSaid : Prop := wireReadsUptoRow.holds Try.pinned (OpenSpec.upto wireReadsSpec)

/-- 'debuggerlaw01.WireBack', WHERE WHAT IT READS IS OF BULK AT MOST 1048576: true; the input reads as it did. -/
def wireBackUptoRow : OpenClaim := { program := "ytljjabccgbakgaa", sum := "f1c2b90ccb3f5fbdc108a8187da1081a98bee2c0acaef06233197a6adb6b24e7", func := "debugger/debuggerlaw01.WireBack", spec := "wireBack", unfollowed := true, recurses := true, apart := false, narrowed := true }
def WireBackUptoSaid : Prop := wireBackUptoRow.holds Try.pinned (OpenSpec.upto wireBackSpec)

/-- 'debuggerlaw36.MessageCommands', WHERE WHAT IT READS IS OF BULK AT MOST 1048576: true; the input reads as it did. -/
def messageCommandsUptoRow : OpenClaim := { program := "ytljjabccgbakgaa", sum := "f1c2b90ccb3f5fbdc108a8187da1081a98bee2c0acaef06233197a6adb6b24e7", func := "debugger/debuggerlaw36.MessageCommands", spec := "messageCommands", unfollowed := true, recurses := true, apart := false, narrowed := true }
def MessageCommandsUptoSaid : Prop := messageCommandsUptoRow.holds Try.pinned (OpenSpec.upto messageCommandsSpec)

/-- 'debuggerlaw33.PacketCodes', WHERE WHAT IT READS IS OF BULK AT MOST 1048576: true; the input reads as it did. -/
def packetCodesUptoRow : OpenClaim := { program := "ytljjabccgbakgaa", sum := "f1c2b90ccb3f5fbdc108a8187da1081a98bee2c0acaef06233197a6adb6b24e7", func := "debugger/debuggerlaw33.PacketCodes", spec := "packetCodes", unfollowed := true, recurses := true, apart := false, narrowed := true }
def PacketCodesUptoSaid : Prop := packetCodesUptoRow.holds Try.pinned (OpenSpec.upto packetCodesSpec)

/-- 'debuggerlaw33.PacketDecodes', WHERE WHAT IT READS IS OF BULK AT MOST 1048576: true; the input reads as it did. -/
def packetDecodesUptoRow : OpenClaim := { program := "ytljjabccgbakgaa", sum := "f1c2b90ccb3f5fbdc108a8187da1081a98bee2c0acaef06233197a6adb6b24e7", func := "debugger/debuggerlaw33.PacketDecodes", spec := "packetDecodes", unfollowed := true, recurses := true, apart := false, narrowed := true }
def PacketDecodesUptoSaid : Prop := packetDecodesUptoRow.holds Try.pinned (OpenSpec.upto packetDecodesSpec)

/-- 'debuggerlaw33.PacketBursts', WHERE WHAT IT READS IS OF BULK AT MOST 1048576: true; the input reads as it did. -/
def packetBurstsUptoRow : OpenClaim := { program := "ytljjabccgbakgaa", sum := "f1c2b90ccb3f5fbdc108a8187da1081a98bee2c0acaef06233197a6adb6b24e7", func := "debugger/debuggerlaw33.PacketBursts", spec := "packetBursts", unfollowed := true, recurses := true, apart := false, narrowed := true }
def PacketBurstsUptoSaid : Prop := packetBurstsUptoRow.holds Try.pinned (OpenSpec.upto packetBurstsSpec)

/-- 'debuggerlaw33.PacketOne', WHERE WHAT IT READS IS OF BULK AT MOST 1048576: true; the input reads as it did. -/
def packetOneUptoRow : OpenClaim := { program := "ytljjabccgbakgaa", sum := "f1c2b90ccb3f5fbdc108a8187da1081a98bee2c0acaef06233197a6adb6b24e7", func := "debugger/debuggerlaw33.PacketOne", spec := "packetOne", unfollowed := true, recurses := true, apart := false, narrowed := true }
def PacketOneUptoSaid : Prop := packetOneUptoRow.holds Try.pinned (OpenSpec.upto packetOneSpec)

/-- 'debuggerlaw36.MessageFits', WHERE WHAT IT READS IS OF BULK AT MOST 1048576: true; the input reads as it did. -/
def messageFitsUptoRow : OpenClaim := { program := "ytljjabccgbakgaa", sum := "f1c2b90ccb3f5fbdc108a8187da1081a98bee2c0acaef06233197a6adb6b24e7", func := "debugger/debuggerlaw36.MessageFits", spec := "messageFits", unfollowed := true, recurses := true, apart := false, narrowed := true }
def MessageFitsUptoSaid : Prop := messageFitsUptoRow.holds Try.pinned (OpenSpec.upto messageFitsSpec)

/-- 'debuggerlaw36.MessageDecodes', WHERE WHAT IT READS IS OF BULK AT MOST 1048576: true; the input reads as it did. -/
def messageDecodesUptoRow : OpenClaim := { program := "ytljjabccgbakgaa", sum := "f1c2b90ccb3f5fbdc108a8187da1081a98bee2c0acaef06233197a6adb6b24e7", func := "debugger/debuggerlaw36.MessageDecodes", spec := "messageDecodes", unfollowed := true, recurses := true, apart := false, narrowed := true }
def MessageDecodesUptoSaid : Prop := messageDecodesUptoRow.holds Try.pinned (OpenSpec.upto messageDecodesSpec)

/-- 'debuggerlaw36.MessageReplies', WHERE WHAT IT READS IS OF BULK AT MOST 1048576: true; the input reads as it did. -/
def messageRepliesUptoRow : OpenClaim := { program := "ytljjabccgbakgaa", sum := "f1c2b90ccb3f5fbdc108a8187da1081a98bee2c0acaef06233197a6adb6b24e7", func := "debugger/debuggerlaw36.MessageReplies", spec := "messageReplies", unfollowed := true, recurses := true, apart := false, narrowed := true }
def MessageRepliesUptoSaid : Prop := messageRepliesUptoRow.holds Try.pinned (OpenSpec.upto messageRepliesSpec)

/-- 'debuggerlaw36.MessageOne', WHERE WHAT IT READS IS OF BULK AT MOST 1048576: true; the input reads as it did. -/
def messageOneUptoRow : OpenClaim := { program := "ytljjabccgbakgaa", sum := "f1c2b90ccb3f5fbdc108a8187da1081a98bee2c0acaef06233197a6adb6b24e7", func := "debugger/debuggerlaw36.MessageOne", spec := "messageOne", unfollowed := true, recurses := true, apart := false, narrowed := true }
def MessageOneUptoSaid : Prop := messageOneUptoRow.holds Try.pinned (OpenSpec.upto messageOneSpec)

end Rows
end Go.Proofs.Ytljjabccgbakgaa
