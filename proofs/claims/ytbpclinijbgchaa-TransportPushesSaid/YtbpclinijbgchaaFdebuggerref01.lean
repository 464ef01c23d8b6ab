/- The functions of package debuggerref01 as the code of the abstract machine. Written by a program of the session. -/
import Derived.Test.YtbpclinijbgchaaFn
namespace Go.Proofs.Ytbpclinijbgchaa
open Go Go.Abs
set_option maxRecDepth 100000
/-! ### debugger/debuggerref01.AppendUint -/
/-! ### debugger/debuggerref01.group -/
/-! ### debugger/debuggerref01.Uint -/
/-! ### debugger/debuggerref01.number -/
end Go.Proofs.Ytbpclinijbgchaa
