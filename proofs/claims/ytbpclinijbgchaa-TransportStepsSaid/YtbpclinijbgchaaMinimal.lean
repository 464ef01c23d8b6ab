/- WireMinimal: what the law returns. By the session itself. -/
import Derived.Test.YtbpclinijbgchaaLengths
import Derived.Test.YtbpclinijbgchaaWireL
namespace Go.Proofs.Ytbpclinijbgchaa
open Go Go.Abs
set_option maxRecDepth 100000
set_option linter.unusedSimpArgs false
set_option linter.unusedVariables false

/-- Bytes that all have the mark. -/
def Marked (l : List Int) : Prop := ∀ x ∈ l, 128 ≤ x ∧ x < 256

theorem Marked.bytes {l : List Int} (h : Marked l) : Bytes l := fun x hx => by have := h x hx; omega

theorem mask_nat (a m k : Nat) (h : a < 2 ^ 64) (hm : m = 2 ^ k - 1) (hk : k ≤ 63) : IntKind.i64.wrap (((BitVec.ofNat 64 a &&& BitVec.ofNat 64 m).toNat : Nat) : Int) = ((a % 2 ^ k : Nat) : Int) := by
  have h1 : 2 ^ k ≤ 2 ^ 63 := Nat.pow_le_pow_right (by decide) hk
  have h2 : 0 < 2 ^ k := Nat.pow_pos (by decide)
  have h3 : a % 2 ^ k < 2 ^ k := Nat.mod_lt _ h2
  rw [BitVec.toNat_and, BitVec.toNat_ofNat, BitVec.toNat_ofNat, Nat.mod_eq_of_lt h, Nat.mod_eq_of_lt (by omega), hm, Nat.and_two_pow_sub_one_eq_mod, wi64_nat (by omega)]

end Go.Proofs.Ytbpclinijbgchaa
