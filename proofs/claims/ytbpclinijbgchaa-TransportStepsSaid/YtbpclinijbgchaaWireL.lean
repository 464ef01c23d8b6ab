/- Plain laws about groups: what is written is read again. By the session itself. -/
import Derived.Test.YtbpclinijbgchaaWireT
namespace Go.Proofs.Ytbpclinijbgchaa
open Go Go.Abs
set_option maxRecDepth 100000
set_option linter.unusedSimpArgs false
set_option linter.unusedVariables false

theorem groups_bytes : ∀ (n v : Nat), v ≤ n → Bytes (groups v) := by
  intro n
  induction n with
  | zero =>
    intro v hv x hx
    rw [groups_lt (by omega)] at hx
    simp at hx
    omega
  | succ n ih =>
    intro v hv x hx
    by_cases h : v < 128
    · rw [groups_lt h] at hx
      simp at hx
      omega
    · rw [groups_ge h] at hx
      cases hx with
      | head => omega
      | tail _ hx => exact ih (v / 128) (by omega) x hx

theorem Bytes.groups (v : Nat) : Bytes (Go.Proofs.Ytbpclinijbgchaa.groups v) := groups_bytes v v (Nat.le_refl _)
theorem Bytes.append {l m : List Int} (h : Bytes l) (k : Bytes m) : Bytes (l ++ m) := fun x hx => (List.mem_append.1 hx).elim (h x) (k x)

/-- What is written is read. -/
theorem readG_groups {last mx : Nat} (hmx : mx ≤ 127) (rest : List Int) : ∀ (n v i acc : Nat), v ≤ n → i ≤ last → v * 128 ^ i < (mx + 1) * 128 ^ last → (0 < v ∨ i = 0) →
    readG last mx (groups v ++ rest) i acc = (acc + v * 128 ^ i, i + (groups v).length, 0) := by
  intro n
  induction n with
  | zero =>
    intro v i acc hv hi hb h0
    have : v = 0 := by omega
    subst this
    have hi0 : i = 0 := by omega
    subst hi0
    rw [groups_lt (by decide)]
    simp only [List.cons_append, List.nil_append, readG]
    rw [if_neg (by simp), if_neg (by simp), if_pos (by decide)]
    simp
  | succ n ih =>
    intro v i acc hv hi hb h0
    have hpos : 0 < 128 ^ i := Nat.pow_pos (by decide)
    by_cases hlt : v < 128
    · rw [groups_lt hlt]
      simp only [List.cons_append, List.nil_append, readG]
      have h1 : ¬ (i = last ∧ (mx : Int) < v) := by
        rintro ⟨rfl, h⟩
        have := Nat.lt_of_mul_lt_mul_right hb
        omega
      rw [if_neg h1, if_neg (by omega), if_pos (by omega)]
      have : ((v : Int) % 128).toNat = v := by omega
      rw [this]
      rfl
    · rw [groups_ge hlt]
      simp only [List.cons_append, readG]
      have hne : i ≠ last := by
        rintro rfl
        have := Nat.lt_of_mul_lt_mul_right hb
        omega
      rw [if_neg (by rintro ⟨h, _⟩; exact hne h), if_neg (by omega), if_neg (by omega)]
      have hm : (((v % 128 + 128 : Nat) : Int) % 128).toNat = v % 128 := by omega
      rw [hm]
      have hpow : 128 ^ (i + 1) = 128 * 128 ^ i := by rw [Nat.pow_succ, Nat.mul_comm]
      have hsplit : v * 128 ^ i = (v % 128) * 128 ^ i + (v / 128) * 128 ^ (i + 1) := by
        rw [hpow, ← Nat.mul_assoc, ← Nat.add_mul]
        congr 1
        omega
      rw [ih (v / 128) (i + 1) _ (by omega) (by omega) (by omega) (.inl (by omega))]
      refine Prod.ext ?_ (Prod.ext ?_ rfl)
      · simp only; omega
      · simp only [List.length_cons]; omega

/-- A number is read behind what stands ahead of it. -/
theorem readAt_groups {last mx : Nat} (hmx : mx ≤ 127) (l rest : List Int) (v : Nat) (hv : v < (mx + 1) * 128 ^ last) :
    readAt last mx (l ++ groups v ++ rest) l.length = (v, ((l.length + (groups v).length : Nat) : Int), 0) := by
  unfold readAt
  rw [if_neg (by simp; omega), Int.toNat_natCast, List.append_assoc, List.drop_left, readG_groups hmx rest v v 0 0 (Nat.le_refl _) (by omega) (by simpa using hv) (.inr rfl)]
  simp

end Go.Proofs.Ytbpclinijbgchaa
