/- The reference of package wire: what its functions return. By the session itself. -/
import Derived.Test.YtbpclinijbgchaaWireT
namespace Go.Proofs.Ytbpclinijbgchaa
open Go Go.Abs
set_option maxRecDepth 100000
set_option linter.unusedSimpArgs false
set_option linter.unusedVariables false

end Go.Proofs.Ytbpclinijbgchaa
