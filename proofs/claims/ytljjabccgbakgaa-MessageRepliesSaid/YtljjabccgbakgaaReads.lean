/- WireReads: what the law returns. By the session itself. -/
import Derived.Test.YtljjabccgbakgaaCut
import Derived.Test.YtljjabccgbakgaaWireRef
import Derived.Test.YtljjabccgbakgaaL2
namespace Go.Proofs.Ytljjabccgbakgaa
open Go Go.Abs
set_option maxRecDepth 100000
set_option linter.unusedSimpArgs false
set_option linter.unusedVariables false

theorem decide_self {α : Type} [DecidableEq α] (x : α) : decide (x = x) = true := decide_eq_true rfl

theorem reads_sc (l : List Int) (hb : Bytes l) (hl : l.length ≤ 2 ^ 40) (tight : Bool) (at_ : Int) (ha : -2 ^ 63 ≤ at_ ∧ at_ < 2 ^ 63) :
    SCall PP N.debuggerlaw01_reads [.t (.lst 1 tight (B l)), .t (.int .i64 at_)] [] (RTree (.bool true)) := by
  refine debuggerlaw01_reads.intro (by simp) ?_
  obtain ⟨u1, u2, u3, eu⟩ : ∃ u1 u2 u3 : Int, uintAt l at_ = [.int .i64 u1, .int .i64 u2, .int .i64 u3] := ⟨_, _, _, rfl⟩
  obtain ⟨i1, i2, i3, ei⟩ : ∃ u1 u2 u3 : Int, intAt l at_ = [.int .i64 u1, .int .i64 u2, .int .i64 u3] := ⟨_, _, _, rfl⟩
  obtain ⟨t1, t2, t3, et⟩ : ∃ (t1 : ByteArray) (t2 t3 : Int), tripT (textAt l at_) = [.str t1, .int .i64 t2, .int .i64 t3] := ⟨_, _, _, rfl⟩
  have c1 := Uint_sc l hb hl tight at_ ha
  have c2 := rUint_sc l hb hl tight at_ ha
  have c3 := Int_sc l hb hl tight at_ ha
  have c4 := rInt_sc l hb hl tight at_ ha
  have c5 := Text_sc l hb hl tight at_ ha
  have c6 := rText_sc l hb hl tight at_ ha
  rw [eu] at c1 c2
  rw [ei] at c3 c4
  rw [et] at c5 c6
  simp (maxSteps := 4000000) -implicitDefEqProofs (disch := omega) only [↓sxPre, sxPost, sxLib, if_true, if_false, Nat.reduceEqDiff, ↓reduceIte, Nat.reduceAdd, Nat.reduceSub, Nat.reduceMul, Nat.reduceLT, Nat.reduceLeDiff, reduceCtorEq, eq_self, K.isEff, List.reduceReplicate]
  refine step_tup c1 rfl ?_
  simp (maxSteps := 4000000) -implicitDefEqProofs (disch := omega) only [List.getD_cons_zero, List.getD_cons_succ, ↓sxPre, sxPost, sxLib, if_true, if_false, Nat.reduceEqDiff, ↓reduceIte, Nat.reduceAdd, Nat.reduceSub, Nat.reduceMul, Nat.reduceLT, Nat.reduceLeDiff, reduceCtorEq, eq_self, K.isEff, List.reduceReplicate]
  refine step_tup c2 rfl ?_
  simp (maxSteps := 4000000) -implicitDefEqProofs (disch := omega) only [List.getD_cons_zero, List.getD_cons_succ, ↓sxPre, sxPost, sxLib, if_true, if_false, Nat.reduceEqDiff, ↓reduceIte, Nat.reduceAdd, Nat.reduceSub, Nat.reduceMul, Nat.reduceLT, Nat.reduceLeDiff, reduceCtorEq, eq_self, K.isEff, List.reduceReplicate]
  refine step_tup c3 rfl ?_
  simp (maxSteps := 4000000) -implicitDefEqProofs (disch := omega) only [List.getD_cons_zero, List.getD_cons_succ, ↓sxPre, sxPost, sxLib, if_true, if_false, Nat.reduceEqDiff, ↓reduceIte, Nat.reduceAdd, Nat.reduceSub, Nat.reduceMul, Nat.reduceLT, Nat.reduceLeDiff, reduceCtorEq, eq_self, K.isEff, List.reduceReplicate]
  refine step_tup c4 rfl ?_
  simp (maxSteps := 4000000) -implicitDefEqProofs (disch := omega) only [List.getD_cons_zero, List.getD_cons_succ, ↓sxPre, sxPost, sxLib, if_true, if_false, Nat.reduceEqDiff, ↓reduceIte, Nat.reduceAdd, Nat.reduceSub, Nat.reduceMul, Nat.reduceLT, Nat.reduceLeDiff, reduceCtorEq, eq_self, K.isEff, List.reduceReplicate]
  refine step_tup c5 rfl ?_
  simp (maxSteps := 4000000) -implicitDefEqProofs (disch := omega) only [List.getD_cons_zero, List.getD_cons_succ, ↓sxPre, sxPost, sxLib, if_true, if_false, Nat.reduceEqDiff, ↓reduceIte, Nat.reduceAdd, Nat.reduceSub, Nat.reduceMul, Nat.reduceLT, Nat.reduceLeDiff, reduceCtorEq, eq_self, K.isEff, List.reduceReplicate]
  refine step_tup c6 rfl ?_
  simp (maxSteps := 4000000) -implicitDefEqProofs (disch := omega) only [List.getD_cons_zero, List.getD_cons_succ, ↓sxPre, sxPost, sxLib, if_true, if_false, Nat.reduceEqDiff, ↓reduceIte, Nat.reduceAdd, Nat.reduceSub, Nat.reduceMul, Nat.reduceLT, Nat.reduceLeDiff, reduceCtorEq, eq_self, K.isEff, List.reduceReplicate]
  refine finK_gc [] ?_
  simp [gcSt, keepOk, finG, resV, resOne, resAll, idx, V.ren, V.renL, Obj.ren, get_cons, get_nil, RTree, RTup, RRow]

theorem WireReads_main (l : List Int) (hb : Bytes l) (hlen : l.length ≤ 2 ^ 47) (at_ : Int) (ha : -2 ^ 63 ≤ at_ ∧ at_ < 2 ^ 63) :
    SCall PP N.debuggerlaw01_WireReads [.t (.lst 1 false (B l)), .t (.int .i64 at_)] [] (RTree (.bool true)) := by
  refine debuggerlaw01_WireReads.intro (by simp) ?_
  have e200 : (B l).take (Int.toNat 200) = B (l.take 200) := B_take _ _
  simp (maxSteps := 4000000) -implicitDefEqProofs (disch := omega) only [B_length, ↓sxPre, sxPost, sxLib, if_true, if_false, Nat.reduceEqDiff, ↓reduceIte, Nat.reduceAdd, Nat.reduceSub, Nat.reduceMul, Nat.reduceLT, Nat.reduceLeDiff, reduceCtorEq, eq_self, K.isEff, List.reduceReplicate]
  refine condV_dec (fun h => ⟨by omega, ?_⟩) fun h => ?_
  simp only [e200]
  have hq : Bytes (l.take 200) := hb.take _
  have hq5 : (l.take 200).length ≤ 200 := by simp; omega
  generalize l.take 200 = q at *
  rotate_left
  have hq : Bytes l := hb
  have hq5 : l.length ≤ 200 := by omega
  rename List Int => q
  all_goals
    refine wpC_loop_gc [0, 1, 5] [] (fun m s => ∃ i : Nat, m + i = q.length + 1 ∧ s = ⟨[(0, .t (.lst 1 false (B q))), (1, .t (.int .i64 at_)), (5, .t (.int .i64 i))], []⟩) (q.length + 1)
      ⟨by simp [gcSt, keepOk, finG, resV, resOne, resAll, idx, V.ren, V.renL, Obj.ren, get_cons, get_nil, RTree, RTup, RRow], 0, by omega, by simp [gcSt, keepOk, finG, resV, resOne, resAll, idx, V.ren, V.renL, Obj.ren, get_cons, get_nil, RTree, RTup, RRow]⟩ ?_
    rintro m s ⟨i, hm, rfl⟩
    by_cases hi : i ≤ q.length
    · have hi' : (i : Int) ≤ q.length := by omega
      simp (maxSteps := 4000000) -implicitDefEqProofs (disch := omega) only [hi', B_length, ↓sxPre, sxPost, sxLib, if_true, if_false, Nat.reduceEqDiff, ↓reduceIte, Nat.reduceAdd, Nat.reduceSub, Nat.reduceMul, Nat.reduceLT, Nat.reduceLeDiff, reduceCtorEq, eq_self, K.isEff, List.reduceReplicate]
      refine step_tree (reads_sc q hq (by omega) false i (by omega)) rfl ?_
      simp (maxSteps := 4000000) -implicitDefEqProofs (disch := omega) only [↓sxPre, sxPost, sxLib, if_true, if_false, Nat.reduceEqDiff, ↓reduceIte, Nat.reduceAdd, Nat.reduceSub, Nat.reduceMul, Nat.reduceLT, Nat.reduceLeDiff, reduceCtorEq, eq_self, K.isEff, List.reduceReplicate]
      refine ⟨m - 1, by omega, by simp [gcSt, keepOk, finG, resV, resOne, resAll, idx, V.ren, V.renL, Obj.ren, get_cons, get_nil, RTree, RTup, RRow], i + 1, by omega, by simp [gcSt, keepOk, finG, resV, resOne, resAll, idx, V.ren, V.renL, Obj.ren, get_cons, get_nil, RTree, RTup, RRow]⟩
    · have hi' : ¬ (i : Int) ≤ q.length := by omega
      simp (maxSteps := 4000000) -implicitDefEqProofs (disch := omega) only [hi', B_length, ↓sxPre, sxPost, sxLib, if_true, if_false, Nat.reduceEqDiff, ↓reduceIte, Nat.reduceAdd, Nat.reduceSub, Nat.reduceMul, Nat.reduceLT, Nat.reduceLeDiff, reduceCtorEq, eq_self, K.isEff, List.reduceReplicate]
      refine step_tree (reads_sc q hq (by omega) false at_ ha) rfl ?_
      simp (maxSteps := 4000000) -implicitDefEqProofs (disch := omega) only [↓sxPre, sxPost, sxLib, if_true, if_false, Nat.reduceEqDiff, ↓reduceIte, Nat.reduceAdd, Nat.reduceSub, Nat.reduceMul, Nat.reduceLT, Nat.reduceLeDiff, reduceCtorEq, eq_self, K.isEff, List.reduceReplicate]
      refine step_guard rfl (fun _ => step_tree known_sc rfl ?_) (fun h => absurd rfl h)
      simp (maxSteps := 4000000) -implicitDefEqProofs (disch := omega) only [↓sxPre, sxPost, sxLib, if_true, if_false, Nat.reduceEqDiff, ↓reduceIte, Nat.reduceAdd, Nat.reduceSub, Nat.reduceMul, Nat.reduceLT, Nat.reduceLeDiff, reduceCtorEq, eq_self, K.isEff, List.reduceReplicate]
      refine finK_gc [] ?_
      simp [gcSt, keepOk, finG, resV, resOne, resAll, idx, V.ren, V.renL, Obj.ren, get_cons, get_nil, RTree, RTup, RRow]

theorem IsRow.bytes {W : World} {a : Option Addr} {len cap : Nat} {z : List Int} (h : IsRow .u8 W a len cap z) : Bytes (z.take len) := fun x hx => u8_of (h.wf x hx)

theorem WireReads_sc {W : World} {a : Option Addr} {len cap : Nat} {z : List Int} (h : IsRow .u8 W a len cap z) (y : len * 1 ≤ 140737488351232) (at_ : Int) (ha : -2 ^ 63 ≤ at_ ∧ at_ < 2 ^ 63) :
    SCall PP N.debuggerlaw01_WireReads [.t (.lst 1 false ((z.take len).map (T.int .u8))), .t (.int .i64 at_)] [] (RTree (.bool true)) :=
  WireReads_main (z.take len) (IsRow.bytes h) (by rw [h.length]; omega) at_ ha
end Go.Proofs.Ytljjabccgbakgaa
