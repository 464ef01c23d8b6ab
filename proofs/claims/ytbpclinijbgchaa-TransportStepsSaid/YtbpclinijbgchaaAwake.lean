/- The sanity check of the laws of layer 33, and PacketSums. By the session itself. -/
import Derived.Test.YtbpclinijbgchaaPack2
import Derived.Test.YtbpclinijbgchaaFdebuggerkit
namespace Go.Proofs.Ytbpclinijbgchaa
open Go Go.Abs
set_option maxRecDepth 100000
set_option maxHeartbeats 4000000
set_option linter.unusedSimpArgs false
set_option linter.unusedVariables false

/-- The result of a call may hold new memory. -/
theorem step_enc {P : Program} {f : FuncId} {H : Heap} {K : St → Prop} {vs : List (Nat × V)} {r : List Ins} {d : Nat} {xs : List Opnd} {ys : List Int}
    (h : SCall P f ((xs.map (ev vs)).map (Abs.view H)) [] (REnc ys)) (hk : ∀ g, wpR (SCall P) r K ⟨(d, .tup [.sl H.length 0 ys.length g 1, .t (.int .i64 0)]) :: vs, H ++ [.row 1 g (B ys)]⟩) : wpR (SCall P) (⟨some d, none, .call f xs⟩ :: r) K ⟨vs, H⟩ := by
  refine step_call (call_any h ?_ ?_)
  · rintro r N ⟨g, rfl, rfl⟩
    exact ⟨rfl, by simpa [Obj.flatO] using B_flat ys⟩
  · rintro r N ⟨g, rfl, rfl⟩
    simpa [V.ren, V.renL, tau, Obj.ren] using hk g

end Go.Proofs.Ytbpclinijbgchaa
