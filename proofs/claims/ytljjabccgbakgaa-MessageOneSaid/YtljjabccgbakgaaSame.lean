/- Package debuggersame: List on bytes. By the session itself. -/
import Derived.Test.YtljjabccgbakgaaWire
import Derived.Test.YtljjabccgbakgaaFdebuggersame
namespace Go.Proofs.Ytljjabccgbakgaa
open Go Go.Abs
set_option maxRecDepth 100000
set_option linter.unusedSimpArgs false
set_option linter.unusedVariables false

theorem at_B' {l : List Int} {i : Nat} (h : i < l.length) : T.at (B l) i = .int .u8 (l[i]'h) := by
  simp [T.at, B, h]

theorem SameBytes_sc (a b : List Int) (ta tb : Bool) (ha : a.length ≤ 2 ^ 40) :
    SCall PP N.debuggersame_List_byte [.t (.lst 1 ta (B a)), .t (.lst 1 tb (B b))] [] (RTree (.bool (decide (a = b)))) := by
  refine debuggersame_List_byte.intro (by simp) ?_
  simp (maxSteps := 4000000) -implicitDefEqProofs (disch := omega) only [B_length, ↓sxPre, sxPost, sxLib, if_true, if_false, Nat.reduceEqDiff, ↓reduceIte, Nat.reduceAdd, Nat.reduceSub, Nat.reduceMul, Nat.reduceLT, Nat.reduceLeDiff, reduceCtorEq, eq_self, K.isEff, List.reduceReplicate]
  refine condV_ndec (fun h => ?_) fun h => ?_
  · refine finK_gc [] ?_
    have : ¬ a = b := by rintro rfl; exact h rfl
    simp [this, gcSt, keepOk, finG, resV, resOne, resAll, idx, V.ren, V.renL, Obj.ren, get_cons, get_nil, RTree, RTup, RRow]
  · have hl : a.length = b.length := by omega
    refine wpC_loop_gc [0, 1, 5] [] (fun m s => ∃ i : Nat, m + i = a.length ∧ a.take i = b.take i ∧ s = ⟨[(0, .t (.lst 1 ta (B a))), (1, .t (.lst 1 tb (B b))), (5, .t (.int .i64 i))], []⟩) a.length
      ⟨by simp [gcSt, keepOk, finG, resV, resOne, resAll, idx, V.ren, V.renL, Obj.ren, get_cons, get_nil, RTree, RTup, RRow], 0, by omega, by simp, by simp [gcSt, keepOk, finG, resV, resOne, resAll, idx, V.ren, V.renL, Obj.ren, get_cons, get_nil, RTree, RTup, RRow]⟩ ?_
    rintro m s ⟨i, hm, heq, rfl⟩
    by_cases hi : i < a.length
    · have hi' : (i : Int) < a.length := by omega
      have hib : i < b.length := by omega
      simp (maxSteps := 4000000) -implicitDefEqProofs (disch := omega) only [B_length, hi', Int.toNat_natCast, at_B' hi, at_B' hib, at_zero, ↓sxPre, sxPost, sxLib, if_true, if_false, Nat.reduceEqDiff, ↓reduceIte, Nat.reduceAdd, Nat.reduceSub, Nat.reduceMul, Nat.reduceLT, Nat.reduceLeDiff, reduceCtorEq, eq_self, K.isEff, List.reduceReplicate]
      refine ⟨by omega, ⟨by omega, by omega⟩, condV_ndec (fun hne => ?_) fun he => ?_⟩
      · refine finK_gc [] ?_
        have : ¬ a = b := by rintro rfl; exact hne rfl
        simp [this, gcSt, keepOk, finG, resV, resOne, resAll, idx, V.ren, V.renL, Obj.ren, get_cons, get_nil, RTree, RTup, RRow]
      · refine ⟨m - 1, by omega, by simp [gcSt, keepOk, finG, resV, resOne, resAll, idx, V.ren, V.renL, Obj.ren, get_cons, get_nil, RTree, RTup, RRow], i + 1, by omega, ?_, by simp [gcSt, keepOk, finG, resV, resOne, resAll, idx, V.ren, V.renL, Obj.ren, get_cons, get_nil, RTree, RTup, RRow]⟩
        rw [List.take_succ_eq_append_getElem hi, List.take_succ_eq_append_getElem hib, heq, he]
    · have hi' : ¬ (i : Int) < a.length := by omega
      simp (maxSteps := 4000000) -implicitDefEqProofs (disch := omega) only [B_length, hi', ↓sxPre, sxPost, sxLib, if_true, if_false, Nat.reduceEqDiff, ↓reduceIte, Nat.reduceAdd, Nat.reduceSub, Nat.reduceMul, Nat.reduceLT, Nat.reduceLeDiff, reduceCtorEq, eq_self, K.isEff, List.reduceReplicate]
      refine finK_gc [] ?_
      rw [List.take_of_length_le (by omega), List.take_of_length_le (by omega)] at heq
      simp [heq, gcSt, keepOk, finG, resV, resOne, resAll, idx, V.ren, V.renL, Obj.ren, get_cons, get_nil, RTree, RTup, RRow]
end Go.Proofs.Ytljjabccgbakgaa
