/- Loops whose edges keep different objects, and what a law's rows say. By the session itself. -/
import Derived.Test.YtljjabccgbakgaaAb19
namespace Go.Abs
open Go Go.RowKit
set_option linter.unusedSimpArgs false
set_option linter.unusedVariables false

/-- A loop, where at its head the slots that are named are kept, and on each edge some objects. -/
theorem wpC_loop_any {P : Program} {n : Nat} {c : Cd} {Q : Ex → St → Prop} {s : St} (slots : List Nat) (I : Nat → St → Prop) (m : Nat) (h0 : ∃ keep, keepOk n keep s.h.length ∧ I m (gcSt slots keep s))
    (hstep : ∀ m s, I m s → wpC (SCall P) n c (thenK (fun s' => ∃ m', m' < m ∧ ∃ keep, keepOk n keep s'.h.length ∧ I m' (gcSt slots keep s')) Q) s) : wpC (SCall P) n (.loop c) Q s := by
  obtain ⟨keep, h0, h1⟩ := h0
  refine wpC_loop I m _ (weak_keep h0) h1 fun m s hI => wpC_mono mono_scall c s (fun e s he => ?_) (hstep m s hI)
  cases e with
  | norm =>
    obtain ⟨m', hlt, k', hk, hI'⟩ := he
    exact ⟨m', _, hlt, weak_keep hk, hI'⟩
  | exit id => exact he
  | ret => exact he

theorem IsRow.length {k : IntKind} {W : World} {a : Option Addr} {len cap : Nat} {zs : List Int} (h : IsRow k W a len cap zs) : (zs.take len).length = len := (rv_row (H := []) (μ := fun _ => ⟨0, 0, 0⟩) h).2

theorem IsRow.wf {k : IntKind} {W : World} {a : Option Addr} {len cap : Nat} {zs : List Int} (h : IsRow k W a len cap zs) : ∀ n ∈ zs.take len, (Lit.int k n).wf = true := by
  rcases h with ⟨_, _, _, rfl⟩ | ⟨_, _, _, _, _, _, hwf⟩
  · intro n hn; simp at hn
  · exact fun n hn => hwf n (List.mem_of_mem_take hn)
end Go.Abs
