/- A struct that is handed to a law. By the session itself. -/
import Derived.Test.YtljjabccgbakgaaAb22
namespace Go.Abs
open Go Go.RowKit
set_option linter.unusedSimpArgs false
set_option linter.unusedVariables false

theorem rv_agg {μ : Nat → Loc} {H : Heap} {W : World} {ss : List Sh} {ts : List T} {cs : List Value} (h : Cells W ss ts cs) : RV μ (fun b => b < W.heap.size) H W (.t (.agg ts)) (.agg ⟨cs⟩) :=
  .t (RT.agg cs (h.2.1.trans h.1.symm) h.2.2.2)

theorem Fits.int_inv {k : IntKind} {x : T} (h : Fits (.int k) x) : ∃ n, x = .int k n ∧ (Lit.int k n).wf = true := by
  cases h with
  | int h => exact ⟨_, rfl, h⟩

theorem Fits.ints_inv {k : IntKind} {x : T} (h : Fits (.lst false [.int k]) x) : ∃ l : List Int, x = .lst 1 false (l.map (T.int k)) ∧ (∀ n ∈ l, (Lit.int k n).wf = true) ∧ l.length ≤ maxLen := by
  cases h with
  | lst hl h =>
    rename_i xs
    have : ∃ l : List Int, xs = l.map (T.int k) ∧ ∀ n ∈ l, (Lit.int k n).wf = true := by
      clear hl
      induction xs with
      | nil => exact ⟨[], rfl, fun n h => by cases h⟩
      | cons x xs ih =>
        obtain ⟨l, rfl, hl⟩ := ih fun y hy => h y (List.mem_cons_of_mem _ hy)
        obtain ⟨n, rfl, hn⟩ := (h x (List.mem_cons_self ..)).int_inv
        refine ⟨n :: l, rfl, fun m hm => ?_⟩
        rcases List.mem_cons.1 hm with rfl | hm
        · exact hn
        · exact hl m hm
    obtain ⟨l, rfl, hw⟩ := this
    exact ⟨l, rfl, hw, by simpa using hl⟩

/-- The cells of a struct, one after another. -/
theorem Cells.head {W : World} {s : Sh} {ss : List Sh} {ts : List T} {cs : List Value} (h : Cells W (s :: ss) ts cs) : ∃ c tr u cr, ts = c :: tr ∧ cs = u :: cr ∧ Fits s c ∧ RT (fun b => b < W.heap.size) W c u ∧ Cells W ss tr cr := by
  obtain ⟨h1, h2, h3, h4⟩ := h
  match ts, cs, h1, h2 with
  | c :: tr, u :: cr, h1, h2 =>
    refine ⟨c, tr, u, cr, rfl, rfl, h3 0 s c rfl rfl, h4 0 c u rfl rfl, by simpa using h1, by simpa using h2, fun i s c hs hc => h3 (i + 1) s c (by simpa using hs) (by simpa using hc), fun i c u hc hu => h4 (i + 1) c u (by simpa using hc) (by simpa using hu)⟩

theorem Cells.tail_nil {W : World} {ts : List T} {cs : List Value} (h : Cells W [] ts cs) : ts = [] ∧ cs = [] := ⟨List.length_eq_zero_iff.1 h.1, List.length_eq_zero_iff.1 h.2.1⟩
end Go.Abs
