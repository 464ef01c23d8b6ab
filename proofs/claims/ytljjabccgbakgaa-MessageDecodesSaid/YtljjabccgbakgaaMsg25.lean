/- Messages: the specification reads commands. By the session itself. -/
import Derived.Test.YtljjabccgbakgaaMsg24
namespace Go.Proofs.Ytljjabccgbakgaa
open Go Go.Abs
set_option maxRecDepth 100000
set_option maxHeartbeats 8000000
set_option linter.unusedSimpArgs false
set_option linter.unusedVariables false

theorem rdExact_pos {b : List Int} {n : Nat} {s : RS} (h : (rdInts b n s).1.length = n) : rdExact b n s = rdInts b n s := by
  unfold rdExact; rw [if_pos h]
theorem rdExact_neg {b : List Int} {n : Nat} {s : RS} (h : ¬ (rdInts b n s).1.length = n) : rdExact b n s = (List.replicate n 0, ((rdInts b n s).2.1, true)) := by
  unfold rdExact; rw [if_neg h]

theorem rDecodeCommand_sc (b : List Int) (hb : Bytes b) (hl : b.length ≤ 2 ^ 40) : SCall PP N.debuggerref36_DecodeCommand [.t (.lst 1 false (B b))] [] (RDecCT (decC b)) := by
  refine debuggerref36_DecodeCommand.intro (by simp) ?_
  have h0 : SOk b (0, false) := ⟨by simp, by simp⟩
  have c1 := rlistT_sc b hb hl (0, false) h0 4 (by decide)
  obtain ⟨k1, k2, k3⟩ := rdInts_ok hb 4 h0
  by_cases hlen : (rdInts b 4 (0, false)).1.length = 4
  case neg =>
    have e2 : decC b = (zeroCm, 4) := by
      unfold decC
      rw [rdExact_neg (n := 4) hlen]
      simp only
      rw [rdInts_bad b 128 _ (by decide)]
      simp
    rw [e2]
    generalize rdInts b 4 (0, false) = x at *
    obtain ⟨l, s1⟩ := x
    simp only at hlen ⊢
    simp (maxSteps := 4000000) -implicitDefEqProofs (disch := omega) only [stepK_build', fillV, putAt_zero, putAt_succ, ↓sxPre, sxPost, sxLib, if_true, if_false, Nat.reduceEqDiff, ↓reduceIte, Nat.reduceAdd, Nat.reduceSub, Nat.reduceMul, Nat.reduceLT, Nat.reduceLeDiff, reduceCtorEq, eq_self, K.isEff, List.reduceReplicate]
    refine step_intsT (b := b) (x := (l, s1)) 1 (by simp) ?_ (fun sz t hsz => ?_)
    · simpa [V.ren, V.renL, idx, Abs.get, ev, sub, rbox, Obj.ren] using c1
    have d1 : decide ((l.length : Int) = 4) = false := decide_eq_false (by omega)
    simp (maxSteps := 4000000) -implicitDefEqProofs (disch := omega) only [Ns_length, d1, stepK_build', fillV, kstore_ref, putAt_zero, putAt_succ, ↓sxPre, sxPost, sxLib, if_true, if_false, Nat.reduceEqDiff, ↓reduceIte, Nat.reduceAdd, Nat.reduceSub, Nat.reduceMul, Nat.reduceLT, Nat.reduceLeDiff, reduceCtorEq, eq_self, K.isEff, List.reduceReplicate]
    refine finK_tup (n := 0) [] (c := True) (vs := [.agg [.t (.int .i64 0), .t (.int .i64 0), .t (.int .i64 0), .t (.int .i64 0), .t (.lst 0 true [])], .t (.int .i64 4)]) (xs := [.agg (zeroCm.cells 0 true), .int .i64 4])
      (H1 := [.box [.t (.int .i64 0), .t (.int .i64 0), .t (.int .i64 0), .t (.int .i64 0), .t (.lst 0 true [])], rbox b s1]) ?_ trivial ?_ (by simp [keepOk]) ⟨0, true, .inr rfl, rfl, rfl⟩
    · simp [resV, resAll, resOne, get_cons, kloadN_ref]
    · simp only [toElems_cons, toElems_nil, toElem_agg, toElem_t, toTs_cons, toTs_nil, toT_t]
      rfl
  have c2 := rlistT_sc b hb hl (rdInts b 4 (0, false)).2 k1 128 (by decide)
  unfold decC
  rw [rdExact_pos (n := 4) hlen]
  have hc : ((4 : Nat) : Int) = 4 := rfl
  simp only [hc]
  generalize rdInts b 4 (0, false) = x at *
  obtain ⟨l, s1⟩ := x
  simp only at k1 k2 k3 c2 hlen ⊢
  generalize rdInts b 128 s1 = z at *
  obtain ⟨y, s2⟩ := z
  simp only at c2 ⊢
  have k3 : l.length = 4 := hlen
  match l, k3 with
  | [l0, l1, l2, l3], _ =>
  obtain ⟨D, hD⟩ : ∃ D, D = if s2.2 = false ∧ s2.1 = (b.length : Int) then (⟨[l0, l1, l2, l3].getD 0 0, [l0, l1, l2, l3].getD 1 0, [l0, l1, l2, l3].getD 2 0, [l0, l1, l2, l3].getD 3 0, y⟩, 0) else ((zeroCm, 4) : Cm × Int) := ⟨_, rfl⟩
  rw [← hD]
  simp only [List.getD_cons_zero, List.getD_cons_succ] at hD
  have c1' : SCall PP N.debuggerref36_reader_list [.ref 0 0, .t (.int .i64 4)] [rbox b (0, false)] (RIntsT b ([l0, l1, l2, l3], s1)) := c1
  simp (maxSteps := 4000000) -implicitDefEqProofs (disch := omega) only [stepK_build', fillV, putAt_zero, putAt_succ, ↓sxPre, sxPost, sxLib, if_true, if_false, Nat.reduceEqDiff, ↓reduceIte, Nat.reduceAdd, Nat.reduceSub, Nat.reduceMul, Nat.reduceLT, Nat.reduceLeDiff, reduceCtorEq, eq_self, K.isEff, List.reduceReplicate]
  refine step_intsT (b := b) (x := ([l0, l1, l2, l3], s1)) 1 (by simp) ?_ (fun sz t hsz => ?_)
  · simpa [V.ren, V.renL, idx, Abs.get, ev, sub, rbox, Obj.ren] using c1'
  obtain rfl : sz = 1 := hsz.resolve_right (by simp)
  have a0 := at_Ns (l := [l0, l1, l2, l3]) (i := 0) (by simp)
  have a1 := at_Ns (l := [l0, l1, l2, l3]) (i := 1) (by simp)
  have a2 := at_Ns (l := [l0, l1, l2, l3]) (i := 2) (by simp)
  have a3 := at_Ns (l := [l0, l1, l2, l3]) (i := 3) (by simp)
  simp only [List.getElem_cons_zero, List.getElem_cons_succ] at a0 a1 a2 a3
  have d1 : decide (((4 : Nat) : Int) = 4) = true := by decide
  have hXl : (Ns [l0, l1, l2, l3]).length = 4 := by simp [Ns]
  obtain ⟨X, hX⟩ : ∃ X, X = Ns [l0, l1, l2, l3] := ⟨_, rfl⟩
  rw [← hX] at a0 a1 a2 a3 hXl
  simp only [← hX]
  simp (maxSteps := 4000000) -implicitDefEqProofs (disch := omega) only [hXl, d1, kload1_elt, Int.reduceToNat, a0, a1, a2, a3, at_zero, ↓sxPre, sxPost, sxLib, if_true, if_false, Nat.reduceEqDiff, ↓reduceIte, Nat.reduceAdd, Nat.reduceSub, Nat.reduceMul, Nat.reduceLT, Nat.reduceLeDiff, reduceCtorEq, eq_self, K.isEff, List.reduceReplicate]
  refine ⟨⟨by omega, by omega⟩, ⟨by omega, by omega⟩, ⟨by omega, by omega⟩, ⟨by omega, by omega⟩, ?_, ⟨by omega, by omega⟩, ⟨by omega, by omega⟩, ⟨by omega, by omega⟩, ⟨by omega, by omega⟩, ?_⟩
  all_goals
    refine step_eff (step_intsT (b := b) (x := (y, s2)) 1 (by simp) ?_ (fun sz2 t2 hsz2 => ?_))
    · simpa [V.ren, V.renL, idx, Abs.get, ev, sub, rbox, Obj.ren] using c2
    obtain ⟨sa, sbad⟩ := s2
    unfold rbox
    rw [wpR_nil]
    simp only [flos]
    refine ⟨?_, ?_, ?_, ?_, ?_, ?_, ?_, ?_, ?_⟩
    iterate 8
      · simp (maxSteps := 4000000) -implicitDefEqProofs (disch := omega) only [hXl, Int.reduceToNat, a0, a1, a2, a3, at_zero, ↓sxPre, sxPost, sxLib, if_true, if_false, Nat.reduceEqDiff, ↓reduceIte, Nat.reduceAdd, Nat.reduceSub, Nat.reduceMul, Nat.reduceLT, Nat.reduceLeDiff, reduceCtorEq, eq_self, K.isEff, List.reduceReplicate]
        first | done | (refine ⟨?_, ?_⟩ <;> omega) | trivial
    generalize hKK : thenK _ _ Ex.norm = KK
    simp (maxSteps := 4000000) -implicitDefEqProofs (disch := omega) only [hXl, kload1_elt, Int.reduceToNat, a0, a1, a2, a3, at_zero, stepK_build', fillV, putAt_zero, putAt_succ, kstore_ref, ↓sxPre, sxPost, sxLib, if_true, if_false, Nat.reduceEqDiff, ↓reduceIte, Nat.reduceAdd, Nat.reduceSub, Nat.reduceMul, Nat.reduceLT, Nat.reduceLeDiff, reduceCtorEq, eq_self, K.isEff, List.reduceReplicate]
    try refine ⟨⟨by omega, by omega⟩, ⟨by omega, by omega⟩, ⟨by omega, by omega⟩, ⟨by omega, by omega⟩, ?_⟩
    subst hKK
    clear hX a0 a1 a2 a3 c1 c2 c1'
    cases sbad with
    | true =>
      rw [if_neg (by simp)] at hD
      rw [hD]
      simp (maxSteps := 4000000) -implicitDefEqProofs (disch := omega) only [stepK_build', fillV, kstore_ref, putAt_zero, putAt_succ, ↓sxPre, sxPost, sxLib, if_true, if_false, Nat.reduceEqDiff, ↓reduceIte, Nat.reduceAdd, Nat.reduceSub, Nat.reduceMul, Nat.reduceLT, Nat.reduceLeDiff, reduceCtorEq, eq_self, K.isEff, List.reduceReplicate]
      refine finK_tup (n := 0) [] (c := True) (vs := [.agg [.t (.int .i64 0), .t (.int .i64 0), .t (.int .i64 0), .t (.int .i64 0), .t (.lst 0 true [])], .t (.int .i64 4)]) (xs := [.agg (zeroCm.cells 0 true), .int .i64 4])
        (H1 := [.box [.t (.int .i64 0), .t (.int .i64 0), .t (.int .i64 0), .t (.int .i64 0), .t (.lst 0 true [])], .box [.t (.lst 1 false (B b)), .t (.int .i64 sa), .t (.bool true)], .box [.t (.int .i64 l0), .t (.int .i64 l1), .t (.int .i64 l2), .t (.int .i64 l3), .t (.lst sz2 t2 (Ns y))]]) ?_ trivial ?_ (by simp [keepOk]) ⟨0, true, .inr rfl, rfl, rfl⟩
      · simp [resV, resAll, resOne, get_cons, kloadN_ref]
      · simp only [toElems_cons, toElems_nil, toElem_agg, toElem_t, toTs_cons, toTs_nil, toT_t]
        rfl
    | false =>
      by_cases hok : sa = (b.length : Int)
      · have d2 : decide (sa = (b.length : Int)) = true := decide_eq_true hok
        rw [if_pos ⟨rfl, hok⟩] at hD
        rw [hD]
        simp (maxSteps := 4000000) -implicitDefEqProofs (disch := omega) only [B_length, d2, stepK_build', fillV, kstore_ref, putAt_zero, putAt_succ, ↓sxPre, sxPost, sxLib, if_true, if_false, Nat.reduceEqDiff, ↓reduceIte, Nat.reduceAdd, Nat.reduceSub, Nat.reduceMul, Nat.reduceLT, Nat.reduceLeDiff, reduceCtorEq, eq_self, K.isEff, List.reduceReplicate]
        refine finK_tup (n := 0) [] (c := True) (vs := [.agg [.t (.int .i64 l0), .t (.int .i64 l1), .t (.int .i64 l2), .t (.int .i64 l3), .t (.lst sz2 t2 (Ns y))], .t (.int .i64 0)]) (xs := [.agg ((⟨l0, l1, l2, l3, y⟩ : Cm).cells sz2 t2), .int .i64 0])
          (H1 := [.box [.t (.int .i64 l0), .t (.int .i64 l1), .t (.int .i64 l2), .t (.int .i64 l3), .t (.lst sz2 t2 (Ns y))], .box [.t (.lst 1 false (B b)), .t (.int .i64 sa), .t (.bool false)], .box [.t (.int .i64 l0), .t (.int .i64 l1), .t (.int .i64 l2), .t (.int .i64 l3), .t (.lst sz2 t2 (Ns y))]]) ?_ trivial ?_ (by simp [keepOk]) ⟨sz2, t2, hsz2, rfl, rfl⟩
        · simp [resV, resAll, resOne, get_cons, kloadN_ref]
        · simp only [toElems_cons, toElems_nil, toElem_agg, toElem_t, toTs_cons, toTs_nil, toT_t]
          rfl
      · have d2 : decide (sa = (b.length : Int)) = false := decide_eq_false hok
        rw [if_neg (fun h => hok h.2)] at hD
        rw [hD]
        simp (maxSteps := 4000000) -implicitDefEqProofs (disch := omega) only [B_length, d2, stepK_build', fillV, kstore_ref, putAt_zero, putAt_succ, ↓sxPre, sxPost, sxLib, if_true, if_false, Nat.reduceEqDiff, ↓reduceIte, Nat.reduceAdd, Nat.reduceSub, Nat.reduceMul, Nat.reduceLT, Nat.reduceLeDiff, reduceCtorEq, eq_self, K.isEff, List.reduceReplicate]
        refine finK_tup (n := 0) [] (c := True) (vs := [.agg [.t (.int .i64 0), .t (.int .i64 0), .t (.int .i64 0), .t (.int .i64 0), .t (.lst 0 true [])], .t (.int .i64 4)]) (xs := [.agg (zeroCm.cells 0 true), .int .i64 4])
          (H1 := [.box [.t (.int .i64 0), .t (.int .i64 0), .t (.int .i64 0), .t (.int .i64 0), .t (.lst 0 true [])], .box [.t (.lst 1 false (B b)), .t (.int .i64 sa), .t (.bool false)], .box [.t (.int .i64 l0), .t (.int .i64 l1), .t (.int .i64 l2), .t (.int .i64 l3), .t (.lst sz2 t2 (Ns y))]]) ?_ trivial ?_ (by simp [keepOk]) ⟨0, true, .inr rfl, rfl, rfl⟩
        · simp [resV, resAll, resOne, get_cons, kloadN_ref]
        · simp only [toElems_cons, toElems_nil, toElem_agg, toElem_t, toTs_cons, toTs_nil, toT_t]
          rfl
end Go.Proofs.Ytljjabccgbakgaa
