/- The functions of package packet as the code of the abstract machine. Written by a program of the session. -/
import Derived.Test.YtljjabccgbakgaaFn
namespace Go.Proofs.Ytljjabccgbakgaa
open Go Go.Abs
set_option maxRecDepth 100000
/-! ### debugger/packet.Sum -/
/-! ### debugger/packet.Encode -/
/-! ### debugger/packet.Right -/
/-! ### debugger/packet.Decode -/
/-! ### debugger/packet.number -/
/-! ### debugger/packet.read -/
end Go.Proofs.Ytljjabccgbakgaa
