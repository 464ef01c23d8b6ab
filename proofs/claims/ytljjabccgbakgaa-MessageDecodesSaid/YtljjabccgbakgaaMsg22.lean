/- MessageOne: what the law returns. By the session itself. -/
import Derived.Test.YtljjabccgbakgaaMsg21
namespace Go.Proofs.Ytljjabccgbakgaa
open Go Go.Abs
set_option maxRecDepth 100000
set_option maxHeartbeats 8000000
set_option linter.unusedSimpArgs false
set_option linter.unusedVariables false

/-- A reply with short lists. -/
def Rp.short (R : Rp) : Rp := { R with words := R.words.take 50, out := R.out.take 50 }
theorem decEnd_zero (b : List Int) (err : Int) (words : List Int) (ths : List Th) (o : List Int) (s : RS) (h : (decEnd b err words ths o s).2 ≠ 0) : decEnd b err words ths o s = (zeroRp, 4) := by
  unfold decEnd at h ⊢
  split
  · rename_i hc
    rw [if_pos hc] at h
    exact absurd rfl h
  · rfl
theorem decR_zero (b : List Int) (h : (decR b).2 ≠ 0) : decR b = (zeroRp, 4) := decEnd_zero _ _ _ _ _ _ h

end Go.Proofs.Ytljjabccgbakgaa
