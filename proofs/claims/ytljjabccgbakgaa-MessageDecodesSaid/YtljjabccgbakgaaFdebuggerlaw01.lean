/- The functions of package debuggerlaw01 as the code of the abstract machine. Written by a program of the session. -/
import Derived.Test.YtljjabccgbakgaaFn
namespace Go.Proofs.Ytljjabccgbakgaa
open Go Go.Abs
set_option maxRecDepth 100000
/-! ### debugger/debuggerlaw01.WireWrites -/
/-! ### debugger/debuggerlaw01.WireOwn -/
/-! ### debugger/debuggerlaw01.WireReads -/
/-! ### debugger/debuggerlaw01.WireBack -/
/-! ### debugger/debuggerlaw01.known -/
/-! ### debugger/debuggerlaw01.reads -/
end Go.Proofs.Ytljjabccgbakgaa
