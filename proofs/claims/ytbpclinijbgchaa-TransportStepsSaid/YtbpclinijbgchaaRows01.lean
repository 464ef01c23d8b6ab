/- WireRows: what the law returns. By the session itself. -/
import Derived.Test.YtbpclinijbgchaaCut
import Derived.Test.YtbpclinijbgchaaWireL
import Derived.Test.YtbpclinijbgchaaL2
namespace Go.Proofs.Ytbpclinijbgchaa
open Go Go.Abs
set_option maxRecDepth 100000
set_option linter.unusedSimpArgs false
set_option linter.unusedVariables false

/-- Numbers as data. -/
def Ns (l : List Int) : List T := l.map (T.int .i64)
theorem Ns_length (l : List Int) : (Ns l).length = l.length := by simp [Ns]
theorem at_Ns {l : List Int} {i : Nat} (h : i < l.length) : T.at (Ns l) i = .int .i64 (l[i]'h) := by simp [T.at, Ns, h]

/-- Numbers one behind the other. -/
def rows : List Int → List Int
  | [] => []
  | v :: r => groups (zig v) ++ rows r
def I64s (l : List Int) : Prop := ∀ x ∈ l, -2 ^ 63 ≤ x ∧ x < 2 ^ 63

end Go.Proofs.Ytbpclinijbgchaa
