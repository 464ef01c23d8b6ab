/- The sanity check of the laws of layer 1. By the session itself. -/
import Derived.Test.YtbpclinijbgchaaWireT
import Derived.Test.YtbpclinijbgchaaSame
namespace Go.Proofs.Ytbpclinijbgchaa
open Go Go.Abs
set_option maxRecDepth 100000
set_option linter.unusedSimpArgs false
set_option linter.unusedVariables false

theorem g5 : groups 5 = [5] := groups_lt (by decide)

end Go.Proofs.Ytbpclinijbgchaa
