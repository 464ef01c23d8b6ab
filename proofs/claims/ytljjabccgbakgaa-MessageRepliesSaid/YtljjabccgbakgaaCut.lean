/- WireCut: what the law returns. By the session itself. -/
import Derived.Test.YtljjabccgbakgaaLengths
import Derived.Test.YtljjabccgbakgaaWireL
namespace Go.Proofs.Ytljjabccgbakgaa
open Go Go.Abs
set_option maxRecDepth 100000
set_option linter.unusedSimpArgs false
set_option linter.unusedVariables false

/-- The bytes of a text. -/
def sb (s : ByteArray) : List Int := s.data.toList.map fun b => (b.toNat : Int)

theorem sb_elems (s : ByteArray) : strElems s = B (sb s) := by simp [strElems, B, sb]
theorem sb_length (s : ByteArray) : (sb s).length = s.size := by simp [sb]
theorem Bytes.sb (s : ByteArray) : Bytes (Go.Proofs.Ytljjabccgbakgaa.sb s) := by
  intro x hx
  obtain ⟨b, _, rfl⟩ := List.mem_map.1 hx
  have := b.toNat_lt
  omega

theorem Bytes.take {l : List Int} (h : Bytes l) (k : Nat) : Bytes (l.take k) := fun x hx => h x (List.mem_of_mem_take hx)

theorem B_take (l : List Int) (k : Nat) : (B l).take k = B (l.take k) := by simp [B, List.map_take]

theorem textAt_cut (n : Nat) (t : List Int) (hn : n = t.length) (hn2 : n ≤ 2 ^ 40) (k : Nat) (hk : k < (groups n ++ t).length) : textAt ((groups n ++ t).take k) 0 = (⟨#[]⟩, 0, 3) := by
  unfold textAt
  by_cases h : k < (groups n).length
  · have e : (groups n ++ t).take k = [] ++ (groups n).take k := by rw [List.take_append_of_le_length (by omega)]; rfl
    have : readAt 8 127 ([] ++ (groups n).take k) 0 = (0, 0, 3) := readAt_cut (last := 8) (mx := 127) (by decide) [] n k (by omega) h
    rw [e, this, if_pos (by simp)]
  · have e : (groups n ++ t).take k = [] ++ groups n ++ t.take (k - (groups n).length) := by rw [List.take_append, List.take_of_length_le (by omega)]; rfl
    have : readAt 8 127 ([] ++ groups n ++ t.take (k - (groups n).length)) 0 = (n, ((0 + (groups n).length : Nat) : Int), 0) := readAt_groups (last := 8) (mx := 127) (by decide) [] (t.take (k - (groups n).length)) n (by omega)
    rw [e, this, if_neg (by simp), if_pos]
    rw [List.length_append] at hk
    simp
    omega

theorem intAt_cut {v : Int} (hv : -2 ^ 63 ≤ v ∧ v < 2 ^ 63) (k : Nat) (hk : k < (groups (zig v)).length) : intAt ((groups (zig v)).take k) 0 = [.int .i64 0, .int .i64 0, .int .i64 3] := by
  have : readAt 9 1 ([] ++ (groups (zig v)).take k) 0 = (0, 0, 3) := readAt_cut (last := 9) (mx := 1) (by decide) [] (zig v) k (Nat.lt_of_lt_of_le (zig_lt hv) (by decide)) hk
  rw [List.nil_append] at this
  rw [intAt, this]
  rfl

end Go.Proofs.Ytljjabccgbakgaa
