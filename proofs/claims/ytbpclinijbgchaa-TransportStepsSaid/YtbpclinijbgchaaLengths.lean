/- WireLengths: what the law returns. By the session itself. -/
import Derived.Test.YtbpclinijbgchaaKnown
namespace Go.Proofs.Ytbpclinijbgchaa
open Go Go.Abs
set_option maxRecDepth 100000
set_option linter.unusedSimpArgs false
set_option linter.unusedVariables false

end Go.Proofs.Ytbpclinijbgchaa
