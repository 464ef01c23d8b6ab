/- WireWrites: what the law returns. By the session itself. -/
import Derived.Test.YtljjabccgbakgaaCut
import Derived.Test.YtljjabccgbakgaaWireRef
import Derived.Test.YtljjabccgbakgaaL2
namespace Go.Proofs.Ytljjabccgbakgaa
open Go Go.Abs
set_option maxRecDepth 100000
set_option linter.unusedSimpArgs false
set_option linter.unusedVariables false

theorem AppendText_sb (l : List Int) (tight : Bool) (s : ByteArray) (hs : s.size ≤ 2 ^ 40) (hl : l.length ≤ 2 ^ 39) :
    SCall PP N.wire_AppendText [.t (.lst 1 tight (B l)), .t (.str s)] [] (RRow 1 (B (l ++ groups s.size ++ sb s))) := by
  have := AppendText_sc l tight s hs hl
  rwa [sb_elems, ← B_append] at this

theorem rAppendText_sb (l : List Int) (tight : Bool) (s : ByteArray) (hs : s.size ≤ 2 ^ 40) (hl : l.length ≤ 2 ^ 39) :
    SCall PP N.debuggerref01_AppendText [.t (.lst 1 tight (B l)), .t (.str s)] [] (RRow 1 (B (l ++ groups s.size ++ sb s))) := by
  have := rAppendText_sc l tight s hs hl
  rwa [sb_elems, ← B_append] at this

theorem WireWrites_main (b : List Int) (v : Int) (hv : -2 ^ 63 ≤ v ∧ v < 2 ^ 63) (s : ByteArray) (hlen : b.length ≤ 2 ^ 47) (hs : s.size ≤ 2 ^ 47) :
    SCall PP N.debuggerlaw01_WireWrites [.t (.lst 1 false (B b)), .t (.int .i64 v), .t (.str s)] [] (RTree (.bool true)) := by
  refine debuggerlaw01_WireWrites.intro (by simp) ?_
  by_cases h1 : (300 : Int) < b.length
  · simp (maxSteps := 4000000) -implicitDefEqProofs (disch := omega) only [B_length, h1, ↓sxPre, sxPost, sxLib, if_true, if_false, Nat.reduceEqDiff, ↓reduceIte, Nat.reduceAdd, Nat.reduceSub, Nat.reduceMul, Nat.reduceLT, Nat.reduceLeDiff, reduceCtorEq, eq_self, K.isEff, List.reduceReplicate]
    refine step_tree known_sc rfl ?_
    simp (maxSteps := 4000000) -implicitDefEqProofs (disch := omega) only [↓sxPre, sxPost, sxLib, if_true, if_false, Nat.reduceEqDiff, ↓reduceIte, Nat.reduceAdd, Nat.reduceSub, Nat.reduceMul, Nat.reduceLT, Nat.reduceLeDiff, reduceCtorEq, eq_self, K.isEff, List.reduceReplicate]
    refine finK_gc [] ?_
    simp [gcSt, keepOk, finG, resV, resOne, resAll, idx, V.ren, V.renL, Obj.ren, get_cons, get_nil, RTree, RTup, RRow]
  by_cases h2 : (500 : Int) < s.size
  · simp (maxSteps := 4000000) -implicitDefEqProofs (disch := omega) only [B_length, h1, h2, ↓sxPre, sxPost, sxLib, if_true, if_false, Nat.reduceEqDiff, ↓reduceIte, Nat.reduceAdd, Nat.reduceSub, Nat.reduceMul, Nat.reduceLT, Nat.reduceLeDiff, reduceCtorEq, eq_self, K.isEff, List.reduceReplicate]
    refine step_tree known_sc rfl ?_
    simp (maxSteps := 4000000) -implicitDefEqProofs (disch := omega) only [↓sxPre, sxPost, sxLib, if_true, if_false, Nat.reduceEqDiff, ↓reduceIte, Nat.reduceAdd, Nat.reduceSub, Nat.reduceMul, Nat.reduceLT, Nat.reduceLeDiff, reduceCtorEq, eq_self, K.isEff, List.reduceReplicate]
    refine finK_gc [] ?_
    simp [gcSt, keepOk, finG, resV, resOne, resAll, idx, V.ren, V.renL, Obj.ren, get_cons, get_nil, RTree, RTup, RRow]
  simp (maxSteps := 4000000) -implicitDefEqProofs (disch := omega) only [B_length, h1, h2, ↓sxPre, sxPost, sxLib, if_true, if_false, Nat.reduceEqDiff, ↓reduceIte, Nat.reduceAdd, Nat.reduceSub, Nat.reduceMul, Nat.reduceLT, Nat.reduceLeDiff, reduceCtorEq, eq_self, K.isEff, List.reduceReplicate]
  have hz := groups_le10 (zig_lt hv)
  have hs10 := groups_le10 (v := s.size) (by omega)
  refine step_row (AppendUint_sc b false v hv (by omega)) (B_flat _) fun g => ?_
  simp (maxSteps := 4000000) -implicitDefEqProofs (disch := omega) only [↓sxPre, sxPost, sxLib, if_true, if_false, Nat.reduceEqDiff, ↓reduceIte, Nat.reduceAdd, Nat.reduceSub, Nat.reduceMul, Nat.reduceLT, Nat.reduceLeDiff, reduceCtorEq, eq_self, K.isEff, List.reduceReplicate]
  refine step_row (rAppendUint_sc b false v hv (by omega)) (B_flat _) fun g2 => ?_
  have hu : (if v < 0 then b else b ++ groups v.toNat).length ≤ 2 ^ 40 := by
    split
    · omega
    · have := groups_le10 (v := v.toNat) (by omega)
      simp
      omega
  generalize (if v < 0 then b else b ++ groups v.toNat) = U at *
  simp (maxSteps := 4000000) -implicitDefEqProofs (disch := omega) only [↓sxPre, sxPost, sxLib, if_true, if_false, Nat.reduceEqDiff, ↓reduceIte, Nat.reduceAdd, Nat.reduceSub, Nat.reduceMul, Nat.reduceLT, Nat.reduceLeDiff, reduceCtorEq, eq_self, K.isEff, List.reduceReplicate]
  refine step_tree (x := .bool true) ?_ rfl ?_
  · have := SameBytes_sc U U false false hu
    rw [decide_eq_true rfl] at this
    simpa [Abs.view, rowOf, Abs.get, ev, B_take] using this
  simp (maxSteps := 4000000) -implicitDefEqProofs (disch := omega) only [B_length, ↓sxPre, sxPost, sxLib, if_true, if_false, Nat.reduceEqDiff, ↓reduceIte, Nat.reduceAdd, Nat.reduceSub, Nat.reduceMul, Nat.reduceLT, Nat.reduceLeDiff, reduceCtorEq, eq_self, K.isEff, List.reduceReplicate]
  refine step_guard rfl (fun _ => ?_) (fun h => absurd rfl h)
  refine step_row (AppendInt_sc b false v hv (by omega)) (B_flat _) fun g3 => ?_
  simp (maxSteps := 4000000) -implicitDefEqProofs (disch := omega) only [↓sxPre, sxPost, sxLib, if_true, if_false, Nat.reduceEqDiff, ↓reduceIte, Nat.reduceAdd, Nat.reduceSub, Nat.reduceMul, Nat.reduceLT, Nat.reduceLeDiff, reduceCtorEq, eq_self, K.isEff, List.reduceReplicate]
  refine step_guard rfl (fun _ => ?_) (fun h => absurd rfl h)
  refine step_row (rAppendInt_sc b false v hv (by omega)) (B_flat _) fun g4 => ?_
  refine step_guard rfl (fun _ => ?_) (fun h => absurd rfl h)
  refine step_tree (x := .bool true) ?_ rfl ?_
  · have := SameBytes_sc (b ++ groups (zig v)) (b ++ groups (zig v)) false false (by simp; omega)
    rw [decide_eq_true rfl] at this
    simpa [Abs.view, rowOf, Abs.get, ev, B_take] using this
  simp (maxSteps := 4000000) -implicitDefEqProofs (disch := omega) only [B_length, ↓sxPre, sxPost, sxLib, if_true, if_false, Nat.reduceEqDiff, ↓reduceIte, Nat.reduceAdd, Nat.reduceSub, Nat.reduceMul, Nat.reduceLT, Nat.reduceLeDiff, reduceCtorEq, eq_self, K.isEff, List.reduceReplicate]
  refine step_guard rfl (fun _ => ?_) (fun h => absurd rfl h)
  refine step_row (AppendText_sb b false s (by omega) (by omega)) (B_flat _) fun g5 => ?_
  simp (maxSteps := 4000000) -implicitDefEqProofs (disch := omega) only [↓sxPre, sxPost, sxLib, if_true, if_false, Nat.reduceEqDiff, ↓reduceIte, Nat.reduceAdd, Nat.reduceSub, Nat.reduceMul, Nat.reduceLT, Nat.reduceLeDiff, reduceCtorEq, eq_self, K.isEff, List.reduceReplicate]
  refine step_guard rfl (fun _ => ?_) (fun h => absurd rfl h)
  refine step_row (rAppendText_sb b false s (by omega) (by omega)) (B_flat _) fun g6 => ?_
  refine step_guard rfl (fun _ => ?_) (fun h => absurd rfl h)
  refine step_tree (x := .bool true) ?_ rfl ?_
  · have := SameBytes_sc (b ++ groups s.size ++ sb s) (b ++ groups s.size ++ sb s) false false (by simp [sb_length]; omega)
    rw [decide_eq_true rfl] at this
    simpa [Abs.view, rowOf, Abs.get, ev, B_take] using this
  simp (maxSteps := 4000000) -implicitDefEqProofs (disch := omega) only [B_length, ↓sxPre, sxPost, sxLib, if_true, if_false, Nat.reduceEqDiff, ↓reduceIte, Nat.reduceAdd, Nat.reduceSub, Nat.reduceMul, Nat.reduceLT, Nat.reduceLeDiff, reduceCtorEq, eq_self, K.isEff, List.reduceReplicate]
  refine step_guard rfl (fun _ => step_tree known_sc rfl ?_) (fun h => absurd rfl h)
  simp (maxSteps := 4000000) -implicitDefEqProofs (disch := omega) only [↓sxPre, sxPost, sxLib, if_true, if_false, Nat.reduceEqDiff, ↓reduceIte, Nat.reduceAdd, Nat.reduceSub, Nat.reduceMul, Nat.reduceLT, Nat.reduceLeDiff, reduceCtorEq, eq_self, K.isEff, List.reduceReplicate]
  refine finK_gc [] ?_
  simp [gcSt, keepOk, finG, resV, resOne, resAll, idx, V.ren, V.renL, Obj.ren, get_cons, get_nil, RTree, RTup, RRow]

theorem WireWrites_sc {W : World} {a : Option Addr} {len cap : Nat} {z : List Int} (h : IsRow .u8 W a len cap z) (y : len * 1 ≤ 140737488351232) (v : Int) (hv : -2 ^ 63 ≤ v ∧ v < 2 ^ 63) (s : ByteArray) (hs : s.size ≤ 140737488351232) :
    SCall PP N.debuggerlaw01_WireWrites [.t (.lst 1 false ((z.take len).map (T.int .u8))), .t (.int .i64 v), .t (.str s)] [] (RTree (.bool true)) :=
  WireWrites_main (z.take len) v hv s (by rw [h.length]; omega) (by omega)
end Go.Proofs.Ytljjabccgbakgaa
