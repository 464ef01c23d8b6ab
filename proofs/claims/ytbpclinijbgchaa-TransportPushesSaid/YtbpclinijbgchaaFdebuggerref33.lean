/- The functions of package debuggerref33 as the code of the abstract machine. Written by a program of the session. -/
import Derived.Test.YtbpclinijbgchaaFn
namespace Go.Proofs.Ytbpclinijbgchaa
open Go Go.Abs
set_option maxRecDepth 100000
/-! ### debugger/debuggerref33.Encode -/
/-! ### debugger/debuggerref33.Right -/
/-! ### debugger/debuggerref33.Sum -/
/-! ### debugger/debuggerref33.Decode -/
end Go.Proofs.Ytbpclinijbgchaa
