/- WireLengths: what the law returns. By the session itself. -/
import Derived.Test.YtljjabccgbakgaaKnown
namespace Go.Proofs.Ytljjabccgbakgaa
open Go Go.Abs
set_option maxRecDepth 100000
set_option linter.unusedSimpArgs false
set_option linter.unusedVariables false

theorem len_mono : ∀ (n a b : Nat), b ≤ n → a ≤ b → (groups a).length ≤ (groups b).length := by
  intro n
  induction n with
  | zero => intro a b hb hab; obtain rfl : a = b := by omega
            exact Nat.le_refl _
  | succ n ih =>
    intro a b hb hab
    by_cases ha : a < 128
    · rw [groups_lt ha]; exact groups_pos b
    · rw [groups_ge ha, groups_ge (v := b) (by omega), List.length_cons, List.length_cons]
      have := ih (a / 128) (b / 128) (by omega) (Nat.div_le_div_right hab)
      omega

theorem len_double (u : Nat) : (groups u).length ≤ (groups (2 * u)).length ∧ (groups (2 * u)).length ≤ (groups u).length + 1 := by
  refine ⟨len_mono _ _ _ (Nat.le_refl _) (by omega), ?_⟩
  by_cases hu : u < 64
  · rw [groups_lt (v := 2 * u) (by omega)]; simp
  · have h1 := len_mono _ (2 * u) (128 * u) (Nat.le_refl _) (by omega)
    rw [groups_ge (v := 128 * u) (by omega), List.length_cons, Nat.mul_div_cancel_left _ (by decide)] at h1
    omega

theorem and63_nat (a : Nat) (h : a < 2 ^ 64) : IntKind.i64.wrap (((BitVec.ofNat 64 a &&& BitVec.ofNat 64 9223372036854775807).toNat : Nat) : Int) = ((a % 2 ^ 63 : Nat) : Int) := by
  rw [BitVec.toNat_and, BitVec.toNat_ofNat, BitVec.toNat_ofNat, Nat.mod_eq_of_lt h, show 9223372036854775807 % 2 ^ 64 = 2 ^ 63 - 1 by decide, Nat.and_two_pow_sub_one_eq_mod, wi64_nat (Nat.mod_lt _ (by decide))]

theorem and63 {v : Int} (hv : -2 ^ 63 ≤ v ∧ v < 2 ^ 63) : Abs.bits .and .i64 v 9223372036854775807 = (((v % 2 ^ 63).toNat : Nat) : Int) := by
  have e : BitVec.ofInt 64 v = BitVec.ofNat 64 (v % 2 ^ 64).toNat := by
    apply BitVec.eq_of_toNat_eq
    rw [BitVec.toNat_ofInt, BitVec.toNat_ofNat]
    omega
  have e1 : BitVec.ofInt 64 9223372036854775807 = BitVec.ofNat 64 9223372036854775807 := by decide
  have e2 : Abs.bits .and .i64 v 9223372036854775807 = IntKind.i64.wrap (((BitVec.ofInt 64 v &&& BitVec.ofInt 64 9223372036854775807).toNat : Nat) : Int) := rfl
  rw [e2, e, e1, and63_nat _ (by omega)]
  omega

end Go.Proofs.Ytljjabccgbakgaa
