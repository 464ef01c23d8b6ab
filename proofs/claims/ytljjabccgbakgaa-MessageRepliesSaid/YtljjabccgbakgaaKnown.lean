/- The sanity check of the laws of layer 1. By the session itself. -/
import Derived.Test.YtljjabccgbakgaaWireT
import Derived.Test.YtljjabccgbakgaaSame
import Derived.Test.YtljjabccgbakgaaFdebuggerlaw01
namespace Go.Proofs.Ytljjabccgbakgaa
open Go Go.Abs
set_option maxRecDepth 100000
set_option linter.unusedSimpArgs false
set_option linter.unusedVariables false

theorem g300 : groups 300 = [172, 2] := by rw [groups_ge (by decide), groups_lt (by decide)]; rfl
theorem g5 : groups 5 = [5] := groups_lt (by decide)

theorem known_sc : SCall PP N.debuggerlaw01_known [] [] (RTree (.bool true)) := by
  refine debuggerlaw01_known.intro (by simp) ?_
  have b3 : Bytes [172, 2, 5] := by intro x hx; simp at hx; omega
  simp (maxSteps := 4000000) -implicitDefEqProofs (disch := omega) only [↓sxPre, sxPost, sxLib, if_true, if_false, Nat.reduceEqDiff, ↓reduceIte, Nat.reduceAdd, Nat.reduceSub, Nat.reduceMul, Nat.reduceLT, Nat.reduceLeDiff, reduceCtorEq, eq_self, K.isEff, List.reduceReplicate]
  refine step_row (ys := B [172, 2]) (nil_at 0 1 rfl (by simpa [g300, Abs.view, ev, B] using AppendUint_sc [] true 300 (by decide) (by decide))) (B_flat _) fun g => ?_
  simp (maxSteps := 4000000) -implicitDefEqProofs (disch := omega) only [↓sxPre, sxPost, sxLib, if_true, if_false, Nat.reduceEqDiff, ↓reduceIte, Nat.reduceAdd, Nat.reduceSub, Nat.reduceMul, Nat.reduceLT, Nat.reduceLeDiff, reduceCtorEq, eq_self, K.isEff, List.reduceReplicate]
  refine step_row (ys := B [172, 2, 5]) (by simpa [Abs.view, rowOf, Abs.get, ev, B, zig, g5] using AppendInt_sc [172, 2] false (-3) (by decide) (by decide)) (B_flat _) fun g2 => ?_
  simp (maxSteps := 4000000) -implicitDefEqProofs (disch := omega) only [↓sxPre, sxPost, sxLib, if_true, if_false, Nat.reduceEqDiff, ↓reduceIte, Nat.reduceAdd, Nat.reduceSub, Nat.reduceMul, Nat.reduceLT, Nat.reduceLeDiff, reduceCtorEq, eq_self, K.isEff, List.reduceReplicate]
  refine step_tup (ys := [.int .i64 300, .int .i64 2, .int .i64 0]) (by simpa [Abs.view, rowOf, Abs.get, ev, B, uintAt, readAt, readG] using Uint_sc [172, 2, 5] b3 (by decide) false 0 (by decide)) rfl ?_
  simp (maxSteps := 4000000) -implicitDefEqProofs (disch := omega) only [List.getD_cons_zero, List.getD_cons_succ, ↓sxPre, sxPost, sxLib, if_true, if_false, Nat.reduceEqDiff, ↓reduceIte, Nat.reduceAdd, Nat.reduceSub, Nat.reduceMul, Nat.reduceLT, Nat.reduceLeDiff, reduceCtorEq, eq_self, K.isEff, List.reduceReplicate]
  refine step_tup (ys := [.int .i64 (-3), .int .i64 3, .int .i64 0]) (by simpa [Abs.view, rowOf, Abs.get, ev, B, intAt, readAt, readG, unzig] using Int_sc [172, 2, 5] b3 (by decide) false 2 (by decide)) rfl ?_
  simp (maxSteps := 4000000) -implicitDefEqProofs (disch := omega) only [List.getD_cons_zero, List.getD_cons_succ, ↓sxPre, sxPost, sxLib, if_true, if_false, Nat.reduceEqDiff, ↓reduceIte, Nat.reduceAdd, Nat.reduceSub, Nat.reduceMul, Nat.reduceLT, Nat.reduceLeDiff, reduceCtorEq, eq_self, K.isEff, List.reduceReplicate]
  refine step_tree (x := .bool true) (by simpa [Abs.view, rowOf, Abs.get, ev, B] using SameBytes_sc [172, 2, 5] [172, 2, 5] false true (by decide)) rfl ?_
  simp (maxSteps := 4000000) -implicitDefEqProofs (disch := omega) only [↓sxPre, sxPost, sxLib, if_true, if_false, Nat.reduceEqDiff, ↓reduceIte, Nat.reduceAdd, Nat.reduceSub, Nat.reduceMul, Nat.reduceLT, Nat.reduceLeDiff, reduceCtorEq, eq_self, K.isEff, List.reduceReplicate]
  refine finK_gc [] ?_
  simp [gcSt, keepOk, finG, resV, resOne, resAll, idx, V.ren, V.renL, Obj.ren, get_cons, get_nil, RTree, RTup, RRow]
end Go.Proofs.Ytljjabccgbakgaa
