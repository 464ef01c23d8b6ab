/- Packets: what Decode of both packages returns. By the session itself. -/
import Derived.Test.YtljjabccgbakgaaPack3
namespace Go.Proofs.Ytljjabccgbakgaa
open Go Go.Abs
set_option maxRecDepth 100000
set_option maxHeartbeats 4000000
set_option linter.unusedSimpArgs false
set_option linter.unusedVariables false

/-- Numbers one behind the other, from a place on. -/
def rdNums (b : List Int) : Nat → Int → Option (List Int × Int)
  | 0, at_ => some ([], at_)
  | n + 1, at_ => if (readAt 8 127 b at_).2.2 ≠ 0 then none else (rdNums b n (readAt 8 127 b at_).2.1).map fun x => (((readAt 8 127 b at_).1 : Int) :: x.1, x.2)

/-- The packet that bytes without a check sum are. -/
def mkPk (b : List Int) (ns : List Int) (at_ : Int) : Pk := ⟨b.headD 0, ns.getD 0 0, ns.getD 1 0, ns.getD 2 0, ns.getD 3 0, b.drop at_.toNat⟩
def readP (b : List Int) : Option Pk := match rdNums b 5 1 with
  | none => none
  | some (ns, at_) => if ns.getD 4 0 = (mkPk b ns at_).body.length ∧ (mkPk b ns at_).right = true then some (mkPk b ns at_) else none

/-- The body of a packet that was read: nothing, or new memory. -/
def RBody (l : List Int) (x : V) (H : Heap) : Prop := (x = .t (.lst 0 true []) ∧ l = [] ∧ H = []) ∨ ∃ g, x = .sl 0 0 l.length g 1 ∧ H = [.row 1 g (B l)]
def Pk.vals (q : Pk) (x : V) : List V := [.t (.int .i64 q.kind), .t (.int .i64 q.src), .t (.int .i64 q.dst), .t (.int .i64 q.seq), .t (.int .i64 q.ack), x]
def RRead (o : Option Pk) (r : V) (H : Heap) : Prop := ∃ q x, r = .tup [.agg (q.vals x), .t (.bool o.isSome)] ∧ RBody q.body x H ∧ ∀ p, o = some p → p = q

theorem putAt_zero {α : Type} {cs ds : List α} : putAt cs 0 ds = ds ++ cs.drop ds.length := by simp [putAt]
theorem putAt_succ {α : Type} {x : α} {cs ds : List α} {k : Nat} : putAt (x :: cs) (k + 1) ds = x :: putAt cs k ds := by simp [putAt, Nat.succ_add]
theorem fillV_nil {cs : List V} : fillV cs [] [] = some cs := (rfl)

end Go.Proofs.Ytljjabccgbakgaa
