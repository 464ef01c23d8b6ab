/- Packets: Mod, near and Same. By the session itself. -/
import Derived.Test.YtbpclinijbgchaaAwake
namespace Go.Proofs.Ytbpclinijbgchaa
open Go Go.Abs
set_option maxRecDepth 100000
set_option maxHeartbeats 4000000
set_option linter.unusedSimpArgs false
set_option linter.unusedVariables false

/-- A packet that is mostly right. -/
def Pk.near0 (p : Pk) : Pk :=
  if 1 + p.kind % 3 = 2 then ⟨1 + p.kind % 3, 1 + p.src % 1073741824, p.dst % 1073741824, 1 + p.seq % 1073741824, p.ack % 1073741824, p.body⟩
  else ⟨1 + p.kind % 3, 1 + p.src % 1073741824, p.dst % 1073741824, 0, p.ack % 1073741824, []⟩
def Pk.near (p : Pk) (w : Int) : Pk :=
  if w % 12 = 0 then { p.near0 with seq := 0 } else if w % 12 = 1 then { p.near0 with src := 0 } else if w % 12 = 2 then { p.near0 with dst := 1073741825 } else if w % 12 = 3 then { p.near0 with body := [1] } else p.near0

/-- A packet as the result. -/
def RPk (q : Pk) (r : V) (H : Heap) : Prop := ∃ sz t, (sz = 1 ∨ q.body = []) ∧ r = .agg ((q.cells sz t).map V.t) ∧ H = []

/-- A call that is handed nothing that is written to: its results may hold what it was handed. -/
theorem call_own {P : Program} {f : FuncId} {args : List V} {H : Heap} {k Q : V → Heap → Prop} (h : SCall P f (args.map (V.ren (idx []))) [] Q)
    (hk : ∀ r N, Q r N → k (r.ren (tau [] H.length)) (H ++ N.map (Obj.ren (tau [] H.length)))) : SCall P f args H k :=
  (SCall.frame [] (by simp) (by simp) h).mono fun r H' ⟨r0, N, hq, e1, e2⟩ => by
    subst e1 e2
    simpa [merge, setAll] using hk r0 N hq

end Go.Proofs.Ytbpclinijbgchaa
