/- WireCut: what the law returns. By the session itself. -/
import Derived.Test.YtbpclinijbgchaaLengths
import Derived.Test.YtbpclinijbgchaaWireL
namespace Go.Proofs.Ytbpclinijbgchaa
open Go Go.Abs
set_option maxRecDepth 100000
set_option linter.unusedSimpArgs false
set_option linter.unusedVariables false

/-- The bytes of a text. -/
def sb (s : ByteArray) : List Int := s.data.toList.map fun b => (b.toNat : Int)

theorem Bytes.sb (s : ByteArray) : Bytes (Go.Proofs.Ytbpclinijbgchaa.sb s) := by
  intro x hx
  obtain ⟨b, _, rfl⟩ := List.mem_map.1 hx
  have := b.toNat_lt
  omega

theorem Bytes.take {l : List Int} (h : Bytes l) (k : Nat) : Bytes (l.take k) := fun x hx => h x (List.mem_of_mem_take hx)

theorem B_take (l : List Int) (k : Nat) : (B l).take k = B (l.take k) := by simp [B, List.map_take]

end Go.Proofs.Ytbpclinijbgchaa
