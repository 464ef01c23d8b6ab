/- The functions of package debuggersame as the code of the abstract machine. Written by a program of the session. -/
import Derived.Test.YtljjabccgbakgaaFn
namespace Go.Proofs.Ytljjabccgbakgaa
open Go Go.Abs
set_option maxRecDepth 100000
/-! ### debugger/debuggersame.List[byte] -/
end Go.Proofs.Ytljjabccgbakgaa
