/- Package debuggersame: List on bytes. By the session itself. -/
import Derived.Test.YtbpclinijbgchaaWire
import Derived.Test.YtbpclinijbgchaaFdebuggersame
namespace Go.Proofs.Ytbpclinijbgchaa
open Go Go.Abs
set_option maxRecDepth 100000
set_option linter.unusedSimpArgs false
set_option linter.unusedVariables false

theorem at_B' {l : List Int} {i : Nat} (h : i < l.length) : T.at (B l) i = .int .u8 (l[i]'h) := by
  simp [T.at, B, h]

end Go.Proofs.Ytbpclinijbgchaa
