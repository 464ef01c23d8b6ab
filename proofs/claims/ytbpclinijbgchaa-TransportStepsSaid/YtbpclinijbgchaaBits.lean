/- Bits of whole numbers, and the check sum of a packet. By the session itself. -/
import Derived.Test.YtbpclinijbgchaaMinimal
namespace Go.Proofs.Ytbpclinijbgchaa
open Go Go.Abs
set_option maxRecDepth 100000
set_option linter.unusedSimpArgs false
set_option linter.unusedVariables false

theorem xorN {a b : Nat} (ha : a < 2 ^ 63) (hb : b < 2 ^ 63) : Abs.bits .xor .i64 (a : Int) (b : Int) = ((a ^^^ b : Nat) : Int) := by
  simp only [Abs.bits, IntKind.bits]
  have e : BitVec.ofInt 64 (a : Int) ^^^ BitVec.ofInt 64 (b : Int) = BitVec.ofNat 64 (a ^^^ b) := by
    rw [BitVec.ofInt_natCast, BitVec.ofInt_natCast]
    apply BitVec.eq_of_toNat_eq
    rw [BitVec.toNat_xor, BitVec.toNat_ofNat, BitVec.toNat_ofNat, BitVec.toNat_ofNat, Nat.xor_mod_two_pow]
  have hx : a ^^^ b < 2 ^ 63 := Nat.xor_lt_two_pow ha hb
  change IntKind.i64.wrap (((BitVec.ofInt 64 (a : Int) ^^^ BitVec.ofInt 64 (b : Int)).toNat : Nat) : Int) = _
  rw [e, BitVec.toNat_ofNat, Nat.mod_eq_of_lt (by omega), wi64_nat hx]

theorem andN16 {a : Nat} (ha : a < 2 ^ 63) : Abs.bits .and .i64 (a : Int) 65535 = ((a % 65536 : Nat) : Int) := by
  have e1 : BitVec.ofInt 64 65535 = BitVec.ofNat 64 65535 := by decide
  have e2 : Abs.bits .and .i64 (a : Int) 65535 = IntKind.i64.wrap (((BitVec.ofInt 64 (a : Int) &&& BitVec.ofInt 64 65535).toNat : Nat) : Int) := rfl
  rw [e2, BitVec.ofInt_natCast, e1, mask_nat _ _ 16 (by omega) (by decide) (by decide)]

/-- One step of the check sum. -/
def crcBit (r : Nat) : Nat := if 32768 ≤ r then (2 * r % 65536) ^^^ 4129 else 2 * r
def crcBits : Nat → Nat → Nat
  | 0, r => r
  | n + 1, r => crcBits n (crcBit r)
def crcByte (r : Nat) (c : Int) : Nat := crcBits 8 (r ^^^ (c.toNat * 256))
def crcFrom (r : Nat) (l : List Int) : Nat := l.foldl crcByte r
/-- The check sum of bytes. -/
def crc (l : List Int) : Nat := crcFrom 65535 l

theorem crcBit_lt {r : Nat} (h : r < 65536) : crcBit r < 65536 := by
  unfold crcBit
  split
  · exact Nat.xor_lt_two_pow (n := 16) (Nat.mod_lt _ (by decide)) (by decide)
  · omega
theorem crcBits_lt : ∀ (n : Nat) {r : Nat}, r < 65536 → crcBits n r < 65536
  | 0, r, h => h
  | n + 1, r, h => crcBits_lt n (crcBit_lt h)
theorem crcByte_lt {r : Nat} {c : Int} (h : r < 65536) (hc : 0 ≤ c ∧ c < 256) : crcByte r c < 65536 :=
  crcBits_lt 8 (Nat.xor_lt_two_pow (n := 16) h (by omega))
theorem crcFrom_cons (r : Nat) (c : Int) (l : List Int) : crcFrom r (c :: l) = crcFrom (crcByte r c) l := by simp only [crcFrom, List.foldl_cons]
theorem crcFrom_lt (l : List Int) : ∀ {r : Nat}, r < 65536 → Bytes l → crcFrom r l < 65536 := by
  induction l with
  | nil => intro r h _; exact h
  | cons c l ih =>
    intro r h hb
    rw [crcFrom_cons]
    exact ih (crcByte_lt h (hb c (by simp))) fun x hx => hb x (by simp [hx])
theorem crc_lt {l : List Int} (hb : Bytes l) : crc l < 65536 := by unfold crc; exact crcFrom_lt l (by omega) hb
theorem crcFrom_at {l : List Int} {i r : Nat} (h : i < l.length) : crcFrom r (l.drop i) = crcFrom (crcByte r (l[i]'h)) (l.drop (i + 1)) := by
  rw [List.drop_eq_getElem_cons h, crcFrom_cons]
end Go.Proofs.Ytbpclinijbgchaa
