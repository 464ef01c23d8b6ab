/- MessageReplies: what the law returns. By the session itself. -/
import Derived.Test.YtljjabccgbakgaaMa
namespace Go.Proofs.Ytljjabccgbakgaa
open Go Go.Abs
set_option maxRecDepth 100000
set_option maxHeartbeats 4000000
set_option linter.unusedSimpArgs false
set_option linter.unusedVariables false

theorem encs_bytes : ∀ l : List Th, Bytes (encs l)
  | [] => fun x hx => by cases hx
  | q :: l => by
    have h1 : Bytes q.enc := (enI_bytes _).append (enI_bytes _)
    have := h1.append (encs_bytes l)
    simpa [encs] using this
theorem Rp.enc_bytes (R : Rp) : Bytes R.enc := ((((Bytes.groups _).append (enI_bytes _)).append (Bytes.groups _)).append (encs_bytes _)).append (enI_bytes _) |>.append (enI_bytes _)

end Go.Proofs.Ytljjabccgbakgaa
