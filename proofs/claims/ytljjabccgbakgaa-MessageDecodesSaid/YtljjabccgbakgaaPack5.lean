/- Packets: Decode. By the session itself. -/
import Derived.Test.YtljjabccgbakgaaPack4
namespace Go.Proofs.Ytljjabccgbakgaa
open Go Go.Abs
set_option maxRecDepth 100000
set_option maxHeartbeats 4000000
set_option linter.unusedSimpArgs false
set_option linter.unusedVariables false

def zeroPk : Pk := ⟨0, 0, 0, 0, 0, []⟩
/-- The check sum that stands behind bytes. -/
def tail2 (l : List Int) : Int := l.getD (l.length - 2) 0 * 256 + l.getD (l.length - 1) 0
/-- What bytes are decoded as. -/
def dec (l : List Int) : Pk × Int :=
  if 6060 < l.length then (zeroPk, 5) else if l.length < 3 ∨ (crc (l.take (l.length - 2)) : Int) ≠ tail2 l then (zeroPk, 28) else
    match readP (l.take (l.length - 2)) with
    | none => (zeroPk, 4)
    | some p => (p, 0)

def RDec (d : Pk × Int) (r : V) (H : Heap) : Prop := ∃ x, r = .tup [.agg (d.1.vals x), .t (.int .i64 d.2)] ∧ RBody d.1.body x H

end Go.Proofs.Ytljjabccgbakgaa
