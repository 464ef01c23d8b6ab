/- WireReads: what the law returns. By the session itself. -/
import Derived.Test.YtbpclinijbgchaaCut
import Derived.Test.YtbpclinijbgchaaWireRef
import Derived.Test.YtbpclinijbgchaaL2
namespace Go.Proofs.Ytbpclinijbgchaa
open Go Go.Abs
set_option maxRecDepth 100000
set_option linter.unusedSimpArgs false
set_option linter.unusedVariables false

theorem IsRow.bytes {W : World} {a : Option Addr} {len cap : Nat} {z : List Int} (h : IsRow .u8 W a len cap z) : Bytes (z.take len) := fun x hx => u8_of (h.wf x hx)

end Go.Proofs.Ytbpclinijbgchaa
