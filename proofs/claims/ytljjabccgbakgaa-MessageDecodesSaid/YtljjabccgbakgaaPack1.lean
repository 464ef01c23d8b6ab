/- Packets: which ones are right. By the session itself. -/
import Derived.Test.YtljjabccgbakgaaSum
import Derived.Test.YtljjabccgbakgaaReads
import Derived.Test.YtljjabccgbakgaaWrites
namespace Go.Proofs.Ytljjabccgbakgaa
open Go Go.Abs
set_option maxRecDepth 100000
set_option maxHeartbeats 4000000
set_option linter.unusedSimpArgs false
set_option linter.unusedVariables false

/-- A packet. -/
structure Pk where
  kind : Int
  src : Int
  dst : Int
  seq : Int
  ack : Int
  body : List Int
  deriving DecidableEq

def I64 (n : Int) : Prop := -2 ^ 63 ≤ n ∧ n < 2 ^ 63
def Pk.Ok (p : Pk) : Prop := I64 p.kind ∧ I64 p.src ∧ I64 p.dst ∧ I64 p.seq ∧ I64 p.ack ∧ Bytes p.body ∧ p.body.length < 2 ^ 63

/-- A packet whose body stands in a list of that size. -/
def Pk.cells (p : Pk) (sz : Nat) (tight : Bool) : List T := [.int .i64 p.kind, .int .i64 p.src, .int .i64 p.dst, .int .i64 p.seq, .int .i64 p.ack, .lst sz tight (B p.body)]

def Pk.right (p : Pk) : Bool := decide (1 ≤ p.kind ∧ p.kind ≤ 3 ∧ 1 ≤ p.src ∧ p.src ≤ 1073741824 ∧ 0 ≤ p.dst ∧ p.dst ≤ 1073741824 ∧ 0 ≤ p.seq ∧ p.seq ≤ 1073741824 ∧ 0 ≤ p.ack ∧ p.ack ≤ 1073741824 ∧ p.body.length ≤ 6000 ∧ (p.kind = 2 → 1 ≤ p.seq) ∧ (p.kind ≠ 2 → p.seq = 0 ∧ p.body.length = 0))

end Go.Proofs.Ytljjabccgbakgaa
