/- A law's row of whole numbers is no longer than its weight allows. By the session itself. -/
import Derived.SizedLaws
import Derived.ChangeSlices
namespace Go.Abs
open Go Go.ChangeShapes Go.WideShapes
set_option linter.unusedSimpArgs false
set_option linter.unusedVariables false

theorem row_sized {H : Type} {enc : TypeId × Value → H} {P : Program} {W : World} {base : Nat} {spare : Nat → Bool} {held : Bool} {t e : TypeId} {k : IntKind} {a : Option Addr} {len cap : Nat} {d : DataW H} {ps : List MemPlace} {ts : List TypeId} {ds : List (DataW H)} {j : Nat}
    (hz : (DataW.weightsEach P ts ds).all (· ≤ reachBytes) = true) (ht : ts[j]? = some t) (hd : ds[j]? = some d) (hu : P.underlying t = some (.slice e)) (he : P.underlying e = some (.int k)) (hc : P.cellsOf e = 1) {b : Nat} (hb : P.bytesOf e = b)
    (h : DataW.Trod enc P W base spare held t (.slice a len cap) d ps) : len * b ≤ 140737488351232 := by
  obtain ⟨fuel, hf⟩ := h
  rcases open_ints hu he hc hf with ⟨e0, _⟩ | ⟨x, l, c, zs, e0, _, hl, _, hn, hx, _, _⟩
  · simp [Value.cells] at e0
    rw [e0.2.1, Nat.zero_mul]; omega
  · simp [Value.cells] at e0
    obtain ⟨_, rfl, rfl⟩ := e0
    have hx' := (Prod.mk.inj hx).1
    subst hx'
    have w := sized_slice hz ht hd hu
    rw [hb] at w
    have hle : len ≤ zs.length := by rw [hn]; split <;> omega
    have hsum : (lits (H := H) k (zs.take len)).length + (lits (H := H) k (zs.drop len)).length = zs.length := by simp [lits]; omega
    rw [hsum] at w
    exact Nat.le_trans (Nat.mul_le_mul_right _ hle) w
end Go.Abs
