/- TransportPushes: what the law returns. By the session itself. -/
import Derived.Test.YtbpclinijbgchaaTr6
namespace Go.Proofs.Ytbpclinijbgchaa
open Go Go.Abs
set_option maxRecDepth 100000
set_option maxHeartbeats 8000000
set_option linter.unusedSimpArgs false
set_option linter.unusedVariables false

/-- An endpoint of any size. -/
abbrev epSh : List Sh := [.int .i64, .int .i64, .int .i64, .int .i64, .int .i64, .int .i64, .lst false [.lst false [.int .u8]], .bool]

theorem msgs_inv : ∀ {xs : List T}, (∀ x ∈ xs, Fits (.lst false [.int .u8]) x) → ∃ q : List (List Int), xs = q.map (fun l => T.lst 1 false (B l)) ∧ ∀ b ∈ q, Bytes b ∧ b.length ≤ maxLen
  | [], _ => ⟨[], rfl, fun b hb => by cases hb⟩
  | x :: xs, h => by
    obtain ⟨q, rfl, hq⟩ := msgs_inv (xs := xs) (fun y hy => h y (List.mem_cons_of_mem _ hy))
    obtain ⟨l, rfl, wl, hl⟩ := (h x (List.mem_cons_self)).ints_inv
    refine ⟨l :: q, rfl, fun b hb => ?_⟩
    rcases List.mem_cons.1 hb with rfl | hb
    · exact ⟨fun x hx => u8_of (wl x hx), hl⟩
    · exact hq b hb

theorem msgs_at (q : List (List Int)) : QAt q (q.map (fun l => T.lst 1 false (B l))) := by
  refine ⟨by simp, fun i h => ⟨1, false, .inl rfl, ?_⟩⟩
  simp [T.at, List.getD_eq_getElem?_getD, h]

theorem Cells.ep {W : World} {ts : List T} {cs : List Value} (h : Cells W epSh ts cs) : ∃ e : Ep, (I64 e.epoch ∧ I64 e.peer ∧ I64 e.acked ∧ I64 e.sent ∧ I64 e.got ∧ I64 e.timer) ∧ (∀ b ∈ e.queue, Bytes b) ∧ e.At ts := by
  obtain ⟨_, _, _, _, rfl, rfl, f1, _, h⟩ := h.head
  obtain ⟨_, _, _, _, rfl, rfl, f2, _, h⟩ := h.head
  obtain ⟨_, _, _, _, rfl, rfl, f3, _, h⟩ := h.head
  obtain ⟨_, _, _, _, rfl, rfl, f4, _, h⟩ := h.head
  obtain ⟨_, _, _, _, rfl, rfl, f5, _, h⟩ := h.head
  obtain ⟨_, _, _, _, rfl, rfl, f6, _, h⟩ := h.head
  obtain ⟨_, _, _, _, rfl, rfl, f7, _, h⟩ := h.head
  obtain ⟨_, _, _, _, rfl, rfl, f8, _, h⟩ := h.head
  obtain ⟨rfl, rfl⟩ := h.tail_nil
  obtain ⟨n1, rfl, w1⟩ := f1.int_inv
  obtain ⟨n2, rfl, w2⟩ := f2.int_inv
  obtain ⟨n3, rfl, w3⟩ := f3.int_inv
  obtain ⟨n4, rfl, w4⟩ := f4.int_inv
  obtain ⟨n5, rfl, w5⟩ := f5.int_inv
  obtain ⟨n6, rfl, w6⟩ := f6.int_inv
  cases f8 with
  | bool b =>
  cases f7 with
  | lst hl hx =>
    obtain ⟨q, rfl, hq⟩ := msgs_inv hx
    exact ⟨⟨n1, n2, n3, n4, n5, n6, q, b⟩, ⟨i64_of w1, i64_of w2, i64_of w3, i64_of w4, i64_of w5, i64_of w6⟩, fun b hb => (hq b hb).1, ⟨1, false, _, .inl rfl, msgs_at q, rfl⟩⟩

end Go.Proofs.Ytbpclinijbgchaa
