/- WireWrites: what the law returns. By the session itself. -/
import Derived.Test.YtljjabccgbakgaaCut
import Derived.Test.YtljjabccgbakgaaWireRef
import Derived.Test.YtljjabccgbakgaaL2
namespace Go.Proofs.Ytljjabccgbakgaa
open Go Go.Abs
set_option maxRecDepth 100000
set_option linter.unusedSimpArgs false
set_option linter.unusedVariables false

end Go.Proofs.Ytljjabccgbakgaa
