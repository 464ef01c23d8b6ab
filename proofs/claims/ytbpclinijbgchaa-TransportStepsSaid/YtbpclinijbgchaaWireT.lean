/- Package wire: Text. By the session itself. -/
import Derived.Test.YtbpclinijbgchaaWireU
namespace Go.Proofs.Ytbpclinijbgchaa
open Go Go.Abs
set_option maxRecDepth 100000
set_option linter.unusedSimpArgs false
set_option linter.unusedVariables false

/-- Bytes as a text. -/
def textOf (l : List Int) : ByteArray := ⟨(bytesOf (B l)).toArray⟩

/-- A text at a place. -/
def textAt (l : List Int) (at_ : Int) : ByteArray × Int × Int :=
  if (readAt 8 127 l at_).2.2 ≠ 0 then (⟨#[]⟩, 0, (readAt 8 127 l at_).2.2) else
    if (l.length : Int) - (readAt 8 127 l at_).2.1 < (readAt 8 127 l at_).1 then (⟨#[]⟩, 0, 3) else
      (textOf ((l.take ((readAt 8 127 l at_).2.1.toNat + (readAt 8 127 l at_).1)).drop (readAt 8 127 l at_).2.1.toNat), (readAt 8 127 l at_).2.1 + (readAt 8 127 l at_).1, 0)

def tripT (x : ByteArray × Int × Int) : List T := [.str x.1, .int .i64 x.2.1, .int .i64 x.2.2]

theorem B_isByte {l : List Int} (hb : Bytes l) : (B l).all isByte = true := by
  rw [List.all_eq_true]
  intro x hx
  obtain ⟨c, hc, rfl⟩ := List.mem_map.1 hx
  rfl

end Go.Proofs.Ytbpclinijbgchaa
