/- The functions of package debuggerlaw33 as the code of the abstract machine. Written by a program of the session. -/
import Derived.Test.YtljjabccgbakgaaFn
namespace Go.Proofs.Ytljjabccgbakgaa
open Go Go.Abs
set_option maxRecDepth 100000
/-! ### debugger/debuggerlaw33.PacketSums -/
/-! ### debugger/debuggerlaw33.PacketCodes -/
/-! ### debugger/debuggerlaw33.PacketDecodes -/
/-! ### debugger/debuggerlaw33.PacketBursts -/
/-! ### debugger/debuggerlaw33.PacketOne -/
/-! ### debugger/debuggerlaw33.awake -/
/-! ### debugger/debuggerlaw33.near -/
end Go.Proofs.Ytljjabccgbakgaa
