/- WireRows: what the law returns. By the session itself. -/
import Derived.Test.YtljjabccgbakgaaCut
import Derived.Test.YtljjabccgbakgaaWireL
import Derived.Test.YtljjabccgbakgaaL2
namespace Go.Proofs.Ytljjabccgbakgaa
open Go Go.Abs
set_option maxRecDepth 100000
set_option linter.unusedSimpArgs false
set_option linter.unusedVariables false

/-- Numbers as data. -/
def Ns (l : List Int) : List T := l.map (T.int .i64)
theorem Ns_length (l : List Int) : (Ns l).length = l.length := by simp [Ns]
theorem at_Ns {l : List Int} {i : Nat} (h : i < l.length) : T.at (Ns l) i = .int .i64 (l[i]'h) := by simp [T.at, Ns, h]

/-- Numbers one behind the other. -/
def rows : List Int → List Int
  | [] => []
  | v :: r => groups (zig v) ++ rows r
theorem rows_append : ∀ l m : List Int, rows (l ++ m) = rows l ++ rows m
  | [], m => rfl
  | v :: r, m => by simp [rows, rows_append r m]
theorem rows_bytes : ∀ l : List Int, Bytes (rows l)
  | [] => fun x h => by simp [rows] at h
  | v :: r => (Bytes.groups _).append (rows_bytes r)

def I64s (l : List Int) : Prop := ∀ x ∈ l, -2 ^ 63 ≤ x ∧ x < 2 ^ 63

theorem rows_len : ∀ l : List Int, I64s l → (rows l).length ≤ 10 * l.length
  | [], _ => by simp [rows]
  | v :: r, h => by
    have h1 := groups_le10 (zig_lt (h v (by simp)))
    have h2 := rows_len r fun x hx => h x (by simp [hx])
    simp only [rows, List.length_append, List.length_cons]
    omega

theorem rows_take {l : List Int} {i : Nat} (h : i < l.length) : rows (l.take (i + 1)) = rows (l.take i) ++ groups (zig (l[i]'h)) := by
  rw [List.take_succ_eq_append_getElem h, rows_append]; simp [rows]

end Go.Proofs.Ytljjabccgbakgaa
