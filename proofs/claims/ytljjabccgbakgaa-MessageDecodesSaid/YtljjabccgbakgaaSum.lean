/- The check sum of a packet: what both functions return. By the session itself. -/
import Derived.Test.YtljjabccgbakgaaBits
import Derived.Test.YtljjabccgbakgaaFpacket
import Derived.Test.YtljjabccgbakgaaFdebuggerref33
namespace Go.Proofs.Ytljjabccgbakgaa
open Go Go.Abs
set_option maxRecDepth 100000
set_option linter.unusedSimpArgs false
set_option linter.unusedVariables false

end Go.Proofs.Ytljjabccgbakgaa
