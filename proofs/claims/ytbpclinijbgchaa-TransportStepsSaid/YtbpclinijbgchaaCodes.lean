/- PacketCodes: what the law returns. By the session itself. -/
import Derived.Test.YtbpclinijbgchaaPack6
import Derived.Test.YtbpclinijbgchaaL2
namespace Go.Proofs.Ytbpclinijbgchaa
open Go Go.Abs
set_option maxRecDepth 100000
set_option maxHeartbeats 4000000
set_option linter.unusedSimpArgs false
set_option linter.unusedVariables false

/-- A packet that is handed to a law. -/
theorem Cells.pk {W : World} {ts : List T} {cs : List Value} (h : Cells W [.int .i64, .int .i64, .int .i64, .int .i64, .int .i64, .lst false [.int .u8]] ts cs) : ∃ p : Pk, p.Ok ∧ ts = p.cells 1 false := by
  obtain ⟨_, _, _, _, rfl, rfl, f1, _, h⟩ := h.head
  obtain ⟨_, _, _, _, rfl, rfl, f2, _, h⟩ := h.head
  obtain ⟨_, _, _, _, rfl, rfl, f3, _, h⟩ := h.head
  obtain ⟨_, _, _, _, rfl, rfl, f4, _, h⟩ := h.head
  obtain ⟨_, _, _, _, rfl, rfl, f5, _, h⟩ := h.head
  obtain ⟨_, _, _, _, rfl, rfl, f6, _, h⟩ := h.head
  obtain ⟨rfl, rfl⟩ := h.tail_nil
  obtain ⟨n1, rfl, w1⟩ := f1.int_inv
  obtain ⟨n2, rfl, w2⟩ := f2.int_inv
  obtain ⟨n3, rfl, w3⟩ := f3.int_inv
  obtain ⟨n4, rfl, w4⟩ := f4.int_inv
  obtain ⟨n5, rfl, w5⟩ := f5.int_inv
  obtain ⟨l, rfl, wl, hl⟩ := f6.ints_inv
  have hm : maxLen = 2 ^ 63 - 1 := rfl
  exact ⟨⟨n1, n2, n3, n4, n5, l⟩, ⟨i64_of w1, i64_of w2, i64_of w3, i64_of w4, i64_of w5, fun x hx => u8_of (wl x hx), by simp only; omega⟩, rfl⟩

end Go.Proofs.Ytbpclinijbgchaa
