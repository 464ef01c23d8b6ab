/- Transport: the specification's Push, and what is compared. By the session itself. -/
import Derived.Test.YtbpclinijbgchaaTr1
import Derived.Test.YtbpclinijbgchaaFdebuggerlaw35
namespace Go.Proofs.Ytbpclinijbgchaa
open Go Go.Abs
set_option maxRecDepth 100000
set_option maxHeartbeats 8000000
set_option linter.unusedSimpArgs false
set_option linter.unusedVariables false

theorem elems_q {q : List (List Int)} {s : Nat} {t : Bool} {ys : List T} (hs : s = 1 ∨ q = []) (hy : ys.length = q.length) (H : Heap) : elems H 1 (.t (.lst s t ys)) = some ys := by
  simp only [elems]
  rcases hs with h | h
  · rw [if_pos (.inl h)]
  · rw [if_pos (.inr (by rw [h] at hy; exact List.length_eq_zero_iff.1 hy))]

theorem elems_b {b : List Int} {s : Nat} {t : Bool} (hs : s = 1 ∨ b = []) (H : Heap) : elems H 1 (.t (.lst s t (B b))) = some (B b) := by
  simp only [elems]
  rcases hs with h | h
  · rw [if_pos (.inl h)]
  · rw [if_pos (.inr (by rw [h]; rfl))]

theorem rtNew_sc (n : Int) : SCall PP N.debuggerref35_New [.t (.int .i64 n)] [] (REp ⟨n, 0, 0, 0, 0, 0, [], false⟩) := by
  refine debuggerref35_New.intro (by simp) ?_
  simp (maxSteps := 4000000) -implicitDefEqProofs (disch := omega) only [stepK_build', fillV, kstore_ref, putAt_zero, putAt_succ, ↓sxPre, sxPost, sxLib, if_true, if_false, Nat.reduceEqDiff, ↓reduceIte, Nat.reduceAdd, Nat.reduceSub, Nat.reduceMul, Nat.reduceLT, Nat.reduceLeDiff, reduceCtorEq, eq_self, K.isEff, List.reduceReplicate]
  refine finK_one (n := 0) [] (c := True) (v := .agg ((Ep.cells ⟨n, 0, 0, 0, 0, 0, [], false⟩ 0 true []).map V.t)) (x := .agg (Ep.cells ⟨n, 0, 0, 0, 0, 0, [], false⟩ 0 true [])) (H1 := [.box ((Ep.cells ⟨n, 0, 0, 0, 0, 0, [], false⟩ 0 true []).map V.t)]) ?_ trivial ?_ (by simp [keepOk]) ⟨_, ⟨0, true, [], .inr rfl, QAt.nil, rfl⟩, rfl, rfl⟩
  · simp [resV, resOne, get_cons, kloadN_ref, Ep.cells]
  · simp only [Ep.cells, List.map_cons, List.map_nil, toElem_agg, toTs_cons, toTs_nil, toT_t]

/-- The same endpoint, whatever it is made of. -/
theorem rtSame_sc (e : Ep) (cs cs' : List T) (hA : e.At cs) (hA' : e.At cs') (hq : QOk e.queue) : SCall PP N.debuggerref35_Same [.agg (cs.map V.t), .agg (cs'.map V.t)] [] (RTree (.bool true)) := by
  refine debuggerref35_Same.intro (by simp) ?_
  obtain ⟨s, t, ys, hs, ⟨hyl, hya⟩, rfl⟩ := hA
  obtain ⟨s', t', ys', hs', ⟨hyl', hya'⟩, rfl⟩ := hA'
  obtain ⟨ep, pe, ac, se, go, ti, q, ow⟩ := e
  simp only [Ep.cells, List.map_cons, List.map_nil] at *
  have d1 : decide (ep = ep) = true := decide_eq_true rfl
  have d2 : decide (pe = pe) = true := decide_eq_true rfl
  have d3 : decide (ac = ac) = true := decide_eq_true rfl
  have d4 : decide (se = se) = true := decide_eq_true rfl
  have d5 : decide (go = go) = true := decide_eq_true rfl
  have d6 : decide (ti = ti) = true := decide_eq_true rfl
  have d7 : decide ((q.length : Int) = q.length) = true := decide_eq_true rfl
  have d8 : (ow != ow) = false := by cases ow <;> rfl
  have d9 : decide (ow = ow) = true := decide_eq_true rfl
  simp (maxSteps := 4000000) -implicitDefEqProofs (disch := omega) only [d1, d2, d3, d4, d5, d6, d7, d8, d9, hyl, hyl', ↓sxPre, sxPost, sxLib, if_true, if_false, Nat.reduceEqDiff, ↓reduceIte, Nat.reduceAdd, Nat.reduceSub, Nat.reduceMul, Nat.reduceLT, Nat.reduceLeDiff, reduceCtorEq, eq_self, K.isEff, List.reduceReplicate]
  refine wpC_loop_gc [2, 3, 5] [0, 1] (fun m st => ∃ i : Nat, m + i = q.length ∧ st = ⟨[(2, .ref 0 0), (3, .ref 1 0), (5, .t (.int .i64 i))],
      [.box [.t (.int .i64 ep), .t (.int .i64 pe), .t (.int .i64 ac), .t (.int .i64 se), .t (.int .i64 go), .t (.int .i64 ti), .t (.lst s t ys), .t (.bool ow)],
       .box [.t (.int .i64 ep), .t (.int .i64 pe), .t (.int .i64 ac), .t (.int .i64 se), .t (.int .i64 go), .t (.int .i64 ti), .t (.lst s' t' ys'), .t (.bool ow)]]⟩) q.length
    ⟨by simp [keepOk], 0, by omega, by simp [gcSt, keepOk, finG, resV, resOne, resAll, idx, V.ren, V.renL, Obj.ren, get_cons, get_nil, RTree, RTup, RRow]⟩ ?_
  rintro m st ⟨i, hm, rfl⟩
  by_cases hi : i < q.length
  · have hi' : (i : Int) < q.length := by omega
    obtain ⟨s1, t1, hs1, hat⟩ := hya i hi
    obtain ⟨s2, t2, hs2, hat2⟩ := hya' i hi
    have k1 : s = 1 := hs.resolve_right (by rintro rfl; simp at hi)
    have k2 : s' = 1 := hs'.resolve_right (by rintro rfl; simp at hi)
    subst k1 k2
    have hql : q.length ≤ 2 ^ 40 := hq.1
    obtain ⟨hb, _⟩ := hq.2 _ (List.getElem_mem hi)
    have hbb := B_isByte hb
    generalize q[i] = b at *
    have g1 := elems_b (t := t1) hs1
    have g2 := elems_b (t := t2) hs2
    have gs : decide ((⟨(bytesOf (B b)).toArray⟩ : ByteArray) = ⟨(bytesOf (B b)).toArray⟩) = true := decide_eq_true rfl
    simp (maxSteps := 4000000) -implicitDefEqProofs (disch := omega) only [hi', hyl, hyl', Int.toNat_natCast, hat, hat2, at_zero, ktoStr, g1, g2, hbb, gs, ↓sxPre, sxPost, sxLib, if_true, if_false, Nat.reduceEqDiff, ↓reduceIte, Nat.reduceAdd, Nat.reduceSub, Nat.reduceMul, Nat.reduceLT, Nat.reduceLeDiff, reduceCtorEq, eq_self, K.isEff, List.reduceReplicate]
    refine ⟨by omega, by omega, m - 1, by omega, by simp [gcSt, keepOk, finG, resV, resOne, resAll, idx, V.ren, V.renL, Obj.ren, get_cons, get_nil, RTree, RTup, RRow], i + 1, by omega, by simp [gcSt, keepOk, finG, resV, resOne, resAll, idx, V.ren, V.renL, Obj.ren, get_cons, get_nil, RTree, RTup, RRow]⟩
  · have hi' : ¬ (i : Int) < q.length := by omega
    simp (maxSteps := 4000000) -implicitDefEqProofs (disch := omega) only [hi', hyl, hyl', ↓sxPre, sxPost, sxLib, if_true, if_false, Nat.reduceEqDiff, ↓reduceIte, Nat.reduceAdd, Nat.reduceSub, Nat.reduceMul, Nat.reduceLT, Nat.reduceLeDiff, reduceCtorEq, eq_self, K.isEff, List.reduceReplicate]
    refine finK_gc [] ?_
    simp [gcSt, keepOk, finG, resV, resOne, resAll, idx, V.ren, V.renL, Obj.ren, get_cons, get_nil, RTree, RTup, RRow]

theorem same35_sc (e : Ep) (cs cs' : List T) (hA : e.At cs) (hA' : e.At cs') (hq : QOk e.queue) : SCall PP N.debuggerlaw35_same [.agg (cs.map V.t), .agg (cs'.map V.t)] [] (RTree (.bool true)) := by
  refine debuggerlaw35_same.intro (by simp) ?_
  have c := rtSame_sc e cs cs' hA hA' hq
  obtain ⟨s, t, ys, hs, hqa, rfl⟩ := hA
  obtain ⟨s', t', ys', hs', hqa', rfl⟩ := hA'
  simp only [Ep.cells, List.map_cons, List.map_nil] at *
  simp (maxSteps := 4000000) -implicitDefEqProofs (disch := omega) only [↓sxPre, sxPost, sxLib, if_true, if_false, Nat.reduceEqDiff, ↓reduceIte, Nat.reduceAdd, Nat.reduceSub, Nat.reduceMul, Nat.reduceLT, Nat.reduceLeDiff, reduceCtorEq, eq_self, K.isEff, List.reduceReplicate]
  refine step_tree (x := .bool true) ?_ rfl ?_
  · simpa [Abs.view, viewL, Abs.get, ev] using c
  simp (maxSteps := 4000000) -implicitDefEqProofs (disch := omega) only [↓sxPre, sxPost, sxLib, if_true, if_false, Nat.reduceEqDiff, ↓reduceIte, Nat.reduceAdd, Nat.reduceSub, Nat.reduceMul, Nat.reduceLT, Nat.reduceLeDiff, reduceCtorEq, eq_self, K.isEff, List.reduceReplicate]
  refine finK_gc [] ?_
  simp [gcSt, keepOk, finG, resV, resOne, resAll, idx, V.ren, V.renL, Obj.ren, get_cons, get_nil, RTree, RTup, RRow]

/-- Messages that are neither too long nor too many. -/
def Little (q : List (List Int)) : Prop := q.length ≤ 20 ∧ ∀ b ∈ q, b.length ≤ 300
instance (q : List (List Int)) : Decidable (Little q) := inferInstanceAs (Decidable (_ ∧ _))

theorem large_sc (q : List (List Int)) (s : Nat) (t : Bool) (ys : List T) (hs : s = 1 ∨ q = []) (hqa : QAt q ys) : SCall PP N.debuggerlaw35_large [.t (.lst s t ys)] [] (RTree (.bool (decide (¬ Little q)))) := by
  refine debuggerlaw35_large.intro (by simp) ?_
  obtain ⟨hyl, hya⟩ := hqa
  obtain ⟨D, hD⟩ : ∃ D, D = decide (¬ Little q) := ⟨_, rfl⟩
  rw [← hD]
  simp (maxSteps := 4000000) -implicitDefEqProofs (disch := omega) only [↓sxPre, sxPost, sxLib, if_true, if_false, Nat.reduceEqDiff, ↓reduceIte, Nat.reduceAdd, Nat.reduceSub, Nat.reduceMul, Nat.reduceLT, Nat.reduceLeDiff, reduceCtorEq, eq_self, K.isEff, List.reduceReplicate]
  refine wpC_loop_gc [0, 3] [] (fun m st => ∃ i : Nat, m + i = q.length ∧ i ≤ 20 ∧ (∀ b ∈ q.take i, b.length ≤ 300) ∧ st = ⟨[(0, .t (.lst s t ys)), (3, .t (.int .i64 i))], []⟩) q.length
    ⟨by simp [keepOk], 0, by omega, by omega, by simp, by simp [gcSt, keepOk, finG, resV, resOne, resAll, idx, V.ren, V.renL, Obj.ren, get_cons, get_nil, RTree, RTup, RRow]⟩ ?_
  rintro m st ⟨i, hm, hi20, hall, rfl⟩
  cases d1 : decide ((i : Int) < q.length) with
  | false =>
    have d1' := of_decide_eq_false d1
    have hL : q.take i = q := List.take_of_length_le (by omega)
    rw [hL] at hall
    have hD' : D = false := by rw [hD]; exact decide_eq_false (fun h => h ⟨by omega, hall⟩)
    have d3 : decide ((20 : Int) < q.length) = false := decide_eq_false (by omega)
    simp (maxSteps := 4000000) -implicitDefEqProofs (disch := omega) only [hyl, d1, d3, ↓sxPre, sxPost, sxLib, if_true, if_false, Nat.reduceEqDiff, ↓reduceIte, Nat.reduceAdd, Nat.reduceSub, Nat.reduceMul, Nat.reduceLT, Nat.reduceLeDiff, reduceCtorEq, eq_self, K.isEff, List.reduceReplicate]
    refine finK_gc [] ?_
    simp [hD', gcSt, keepOk, finG, resV, resOne, resAll, idx, V.ren, V.renL, Obj.ren, get_cons, get_nil, RTree, RTup, RRow]
  | true =>
  have d1' := of_decide_eq_true d1
  have hi : i < q.length := by omega
  cases d2 : decide ((i : Int) < 20) with
  | false =>
    have d2' := of_decide_eq_false d2
    have hD' : D = true := by rw [hD]; exact decide_eq_true (fun h => by have := h.1; omega)
    have d3 : decide ((20 : Int) < q.length) = true := decide_eq_true (by omega)
    simp (maxSteps := 4000000) -implicitDefEqProofs (disch := omega) only [hyl, d1, d2, d3, ↓sxPre, sxPost, sxLib, if_true, if_false, Nat.reduceEqDiff, ↓reduceIte, Nat.reduceAdd, Nat.reduceSub, Nat.reduceMul, Nat.reduceLT, Nat.reduceLeDiff, reduceCtorEq, eq_self, K.isEff, List.reduceReplicate]
    refine finK_gc [] ?_
    simp [hD', gcSt, keepOk, finG, resV, resOne, resAll, idx, V.ren, V.renL, Obj.ren, get_cons, get_nil, RTree, RTup, RRow]
  | true =>
  have d2' := of_decide_eq_true d2
  obtain ⟨s1, t1, hs1, hat⟩ := hya i hi
  have k1 : s = 1 := hs.resolve_right (by rintro rfl; simp at hi)
  subst k1
  cases d4 : decide ((300 : Int) < q[i].length) with
  | true =>
    have d4' := of_decide_eq_true d4
    have hD' : D = true := by rw [hD]; exact decide_eq_true (fun h => by have := h.2 _ (List.getElem_mem hi); omega)
    simp (maxSteps := 4000000) -implicitDefEqProofs (disch := omega) only [hyl, d1, d2, d1', Int.toNat_natCast, hat, at_zero, B_length, d4, ↓sxPre, sxPost, sxLib, if_true, if_false, Nat.reduceEqDiff, ↓reduceIte, Nat.reduceAdd, Nat.reduceSub, Nat.reduceMul, Nat.reduceLT, Nat.reduceLeDiff, reduceCtorEq, eq_self, K.isEff, List.reduceReplicate]
    refine ⟨by omega, ?_⟩
    refine finK_gc [] ?_
    simp [hD', gcSt, keepOk, finG, resV, resOne, resAll, idx, V.ren, V.renL, Obj.ren, get_cons, get_nil, RTree, RTup, RRow]
  | false =>
    have d4' := of_decide_eq_false d4
    simp (maxSteps := 4000000) -implicitDefEqProofs (disch := omega) only [hyl, d1, d2, d1', Int.toNat_natCast, hat, at_zero, B_length, d4, ↓sxPre, sxPost, sxLib, if_true, if_false, Nat.reduceEqDiff, ↓reduceIte, Nat.reduceAdd, Nat.reduceSub, Nat.reduceMul, Nat.reduceLT, Nat.reduceLeDiff, reduceCtorEq, eq_self, K.isEff, List.reduceReplicate]
    refine ⟨by omega, m - 1, by omega, by simp [gcSt, keepOk, finG, resV, resOne, resAll, idx, V.ren, V.renL, Obj.ren, get_cons, get_nil, RTree, RTup, RRow], i + 1, by omega, by omega, fun b hb => ?_, by simp [gcSt, keepOk, finG, resV, resOne, resAll, idx, V.ren, V.renL, Obj.ren, get_cons, get_nil, RTree, RTup, RRow]⟩
    rw [List.take_succ_eq_append_getElem hi] at hb
    rcases List.mem_append.1 hb with hb | hb
    · exact hall b hb
    · rw [List.mem_singleton.1 hb]; omega
end Go.Proofs.Ytbpclinijbgchaa
