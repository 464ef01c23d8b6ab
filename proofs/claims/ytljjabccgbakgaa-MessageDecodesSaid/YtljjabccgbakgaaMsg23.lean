/- Messages: the specification's reader. By the session itself. -/
import Derived.Test.YtljjabccgbakgaaMsg22
namespace Go.Proofs.Ytljjabccgbakgaa
open Go Go.Abs
set_option maxRecDepth 100000
set_option maxHeartbeats 8000000
set_option linter.unusedSimpArgs false
set_option linter.unusedVariables false

theorem rint_sc (b : List Int) (hb : Bytes b) (hl : b.length ≤ 2 ^ 40) (s : RS) (hs : SOk b s) : SCall PP N.debuggerref36_reader_int [.ref 0 0] [rbox b s] (RNum b (rdN (RI b) s)) := by
  refine debuggerref36_reader_int.intro (by simp) ?_
  obtain ⟨at_, bad⟩ := s
  obtain ⟨h1, h2⟩ := hs
  simp only at h1 h2
  have c := rInt_sc b hb hl false at_ (by omega)
  unfold rbox rdN
  change SCall PP _ _ [] (RTup [.int .i64 (RI b at_).1, .int .i64 (RI b at_).2.1, .int .i64 (RI b at_).2.2]) at c
  generalize RI b at_ = q at *
  obtain ⟨v, n, e⟩ := q
  simp only at c ⊢
  simp (maxSteps := 4000000) -implicitDefEqProofs (disch := omega) only [↓sxPre, sxPost, sxLib, if_true, if_false, Nat.reduceEqDiff, ↓reduceIte, Nat.reduceAdd, Nat.reduceSub, Nat.reduceMul, Nat.reduceLT, Nat.reduceLeDiff, reduceCtorEq, eq_self, K.isEff, List.reduceReplicate]
  refine step_eff (step_tup (ys := [.int .i64 v, .int .i64 n, .int .i64 e]) ?_ rfl ?_)
  · simpa [Abs.view, viewL, Abs.get, ev] using c
  cases bad with
  | true =>
    rw [if_pos rfl]
    simp (maxSteps := 4000000) -implicitDefEqProofs (disch := omega) only [kstore_ref, putAt_zero, putAt_succ, ↓sxPre, sxPost, sxLib, if_true, if_false, Nat.reduceEqDiff, ↓reduceIte, Nat.reduceAdd, Nat.reduceSub, Nat.reduceMul, Nat.reduceLT, Nat.reduceLeDiff, reduceCtorEq, eq_self, K.isEff, List.reduceReplicate]
    refine finK_gc [0] ?_
    simp [RNum, rbox, gcSt, keepOk, finG, resV, resOne, resAll, idx, V.ren, V.renL, Obj.ren, get_cons, get_nil, RTree, RTup, RRow]
  | false =>
    rw [if_neg (by simp)]
    by_cases he : e = 0
    · have d1 : decide (e = 0) = true := decide_eq_true he
      rw [if_neg (by simpa using he)]
      simp (maxSteps := 4000000) -implicitDefEqProofs (disch := omega) only [d1, kstore_ref, putAt_zero, putAt_succ, ↓sxPre, sxPost, sxLib, if_true, if_false, Nat.reduceEqDiff, ↓reduceIte, Nat.reduceAdd, Nat.reduceSub, Nat.reduceMul, Nat.reduceLT, Nat.reduceLeDiff, reduceCtorEq, eq_self, K.isEff, List.reduceReplicate]
      refine finK_gc [0] ?_
      simp [RNum, rbox, gcSt, keepOk, finG, resV, resOne, resAll, idx, V.ren, V.renL, Obj.ren, get_cons, get_nil, RTree, RTup, RRow]
    · have d1 : decide (e = 0) = false := decide_eq_false he
      rw [if_pos he]
      simp (maxSteps := 4000000) -implicitDefEqProofs (disch := omega) only [d1, kstore_ref, putAt_zero, putAt_succ, ↓sxPre, sxPost, sxLib, if_true, if_false, Nat.reduceEqDiff, ↓reduceIte, Nat.reduceAdd, Nat.reduceSub, Nat.reduceMul, Nat.reduceLT, Nat.reduceLeDiff, reduceCtorEq, eq_self, K.isEff, List.reduceReplicate]
      refine finK_gc [0] ?_
      simp [RNum, rbox, gcSt, keepOk, finG, resV, resOne, resAll, idx, V.ren, V.renL, Obj.ren, get_cons, get_nil, RTree, RTup, RRow]

theorem ruint_sc (b : List Int) (hb : Bytes b) (hl : b.length ≤ 2 ^ 40) (s : RS) (hs : SOk b s) : SCall PP N.debuggerref36_reader_uint [.ref 0 0] [rbox b s] (RNum b (rdN (RU b) s)) := by
  refine debuggerref36_reader_uint.intro (by simp) ?_
  obtain ⟨at_, bad⟩ := s
  obtain ⟨h1, h2⟩ := hs
  simp only at h1 h2
  have c := rUint_sc b hb hl false at_ (by omega)
  unfold rbox rdN
  change SCall PP _ _ [] (RTup [.int .i64 (RU b at_).1, .int .i64 (RU b at_).2.1, .int .i64 (RU b at_).2.2]) at c
  generalize RU b at_ = q at *
  obtain ⟨v, n, e⟩ := q
  simp only at c ⊢
  simp (maxSteps := 4000000) -implicitDefEqProofs (disch := omega) only [↓sxPre, sxPost, sxLib, if_true, if_false, Nat.reduceEqDiff, ↓reduceIte, Nat.reduceAdd, Nat.reduceSub, Nat.reduceMul, Nat.reduceLT, Nat.reduceLeDiff, reduceCtorEq, eq_self, K.isEff, List.reduceReplicate]
  refine step_eff (step_tup (ys := [.int .i64 v, .int .i64 n, .int .i64 e]) ?_ rfl ?_)
  · simpa [Abs.view, viewL, Abs.get, ev] using c
  cases bad with
  | true =>
    rw [if_pos rfl]
    simp (maxSteps := 4000000) -implicitDefEqProofs (disch := omega) only [kstore_ref, putAt_zero, putAt_succ, ↓sxPre, sxPost, sxLib, if_true, if_false, Nat.reduceEqDiff, ↓reduceIte, Nat.reduceAdd, Nat.reduceSub, Nat.reduceMul, Nat.reduceLT, Nat.reduceLeDiff, reduceCtorEq, eq_self, K.isEff, List.reduceReplicate]
    refine finK_gc [0] ?_
    simp [RNum, rbox, gcSt, keepOk, finG, resV, resOne, resAll, idx, V.ren, V.renL, Obj.ren, get_cons, get_nil, RTree, RTup, RRow]
  | false =>
    rw [if_neg (by simp)]
    by_cases he : e = 0
    · have d1 : decide (e = 0) = true := decide_eq_true he
      rw [if_neg (by simpa using he)]
      simp (maxSteps := 4000000) -implicitDefEqProofs (disch := omega) only [d1, kstore_ref, putAt_zero, putAt_succ, ↓sxPre, sxPost, sxLib, if_true, if_false, Nat.reduceEqDiff, ↓reduceIte, Nat.reduceAdd, Nat.reduceSub, Nat.reduceMul, Nat.reduceLT, Nat.reduceLeDiff, reduceCtorEq, eq_self, K.isEff, List.reduceReplicate]
      refine finK_gc [0] ?_
      simp [RNum, rbox, gcSt, keepOk, finG, resV, resOne, resAll, idx, V.ren, V.renL, Obj.ren, get_cons, get_nil, RTree, RTup, RRow]
    · have d1 : decide (e = 0) = false := decide_eq_false he
      rw [if_pos he]
      simp (maxSteps := 4000000) -implicitDefEqProofs (disch := omega) only [d1, kstore_ref, putAt_zero, putAt_succ, ↓sxPre, sxPost, sxLib, if_true, if_false, Nat.reduceEqDiff, ↓reduceIte, Nat.reduceAdd, Nat.reduceSub, Nat.reduceMul, Nat.reduceLT, Nat.reduceLeDiff, reduceCtorEq, eq_self, K.isEff, List.reduceReplicate]
      refine finK_gc [0] ?_
      simp [RNum, rbox, gcSt, keepOk, finG, resV, resOne, resAll, idx, V.ren, V.renL, Obj.ren, get_cons, get_nil, RTree, RTup, RRow]

theorem rlistR_sc (b : List Int) (hb : Bytes b) (hl : b.length ≤ 2 ^ 40) (s : RS) (hs : SOk b s) (most : Int) (hm : 0 ≤ most ∧ most ≤ 2 ^ 20) :
    SCall PP N.debuggerref36_reader_list [.ref 0 0, .t (.int .i64 most)] [rbox b s] (RInts b (rdInts b most s)) := by
  refine debuggerref36_reader_list.intro (by simp) ?_
  obtain ⟨k1, k2, k3⟩ := rdU_ok hb hs
  have cU := ruint_sc b hb hl s hs
  unfold rdInts
  generalize rdN (RU b) s = u at *
  obtain ⟨n, at_, bad⟩ := u
  simp only at k1 k2 k3 ⊢
  simp (maxSteps := 4000000) -implicitDefEqProofs (disch := omega) only [↓sxPre, sxPost, sxLib, if_true, if_false, Nat.reduceEqDiff, ↓reduceIte, Nat.reduceAdd, Nat.reduceSub, Nat.reduceMul, Nat.reduceLT, Nat.reduceLeDiff, reduceCtorEq, eq_self, K.isEff, List.reduceReplicate]
  refine step_num (b := b) (x := (n, at_, bad)) 0 (by simp) ?_ ?_
  · simpa [V.ren, V.renL, idx, Abs.get, ev, sub, rbox, Obj.ren] using cU
  by_cases hn : most < n
  · have g : decide (most < n) = true := decide_eq_true hn
    rw [if_pos hn]
    unfold rbox
    simp (maxSteps := 4000000) -implicitDefEqProofs (disch := omega) only [g, kstore_ref, putAt_zero, putAt_succ, ↓sxPre, sxPost, sxLib, if_true, if_false, Nat.reduceEqDiff, ↓reduceIte, Nat.reduceAdd, Nat.reduceSub, Nat.reduceMul, Nat.reduceLT, Nat.reduceLeDiff, reduceCtorEq, eq_self, K.isEff, List.reduceReplicate]
    refine wpC_loop_gc [0, 5, 6, 7] [0] (fun m s => s = ⟨[(0, .ref 0 0), (5, .t (.int .i64 n)), (6, .t (.lst 0 true [])), (7, .t (.int .i64 0))], [rbox b (at_, true)]⟩) 0
      ⟨by simp [gcSt, keepOk, finG, resV, resOne, resAll, idx, V.ren, V.renL, Obj.ren, get_cons, get_nil, RTree, RTup, RRow], by simp [rbox, gcSt, keepOk, finG, resV, resOne, resAll, idx, V.ren, V.renL, Obj.ren, get_cons, get_nil, RTree, RTup, RRow]⟩ ?_
    rintro m s rfl
    have gn : decide ((0 : Int) < n) = true := decide_eq_true (by omega)
    unfold rbox
    simp (maxSteps := 4000000) -implicitDefEqProofs (disch := omega) only [gn, ↓sxPre, sxPost, sxLib, if_true, if_false, Nat.reduceEqDiff, ↓reduceIte, Nat.reduceAdd, Nat.reduceSub, Nat.reduceMul, Nat.reduceLT, Nat.reduceLeDiff, reduceCtorEq, eq_self, K.isEff, List.reduceReplicate]
    refine finK_gc [0] ?_
    simp [RInts, rbox, gcSt, keepOk, finG, resV, resOne, resAll, idx, V.ren, V.renL, Obj.ren, get_cons, get_nil, RTree, RTup, RRow]
  · have g : decide (most < n) = false := decide_eq_false hn
    rw [if_neg hn]
    unfold rbox
    simp (maxSteps := 4000000) -implicitDefEqProofs (disch := omega) only [g, kstore_ref, putAt_zero, putAt_succ, ↓sxPre, sxPost, sxLib, if_true, if_false, Nat.reduceEqDiff, ↓reduceIte, Nat.reduceAdd, Nat.reduceSub, Nat.reduceMul, Nat.reduceLT, Nat.reduceLeDiff, reduceCtorEq, eq_self, K.isEff, List.reduceReplicate]
    refine wpC_loop_any [0, 5, 6, 7] (fun m s => ∃ (i : Nat) (l : List Int) (t : RS) (x : V) (H : Heap), (m : Int) + i = n ∧ l.length = i ∧ SOk b t ∧ rdLoop b n.toNat (at_, bad) = (l ++ (rdLoop b m t).1, (rdLoop b m t).2) ∧
        ((x = .t (.lst 0 true []) ∧ l = [] ∧ H = [rbox b t]) ∨ ∃ g, x = .sl 1 0 l.length g 1 ∧ H = [rbox b t, .row 1 g (Ns l)]) ∧
        s = ⟨[(0, .ref 0 0), (5, .t (.int .i64 n)), (6, x), (7, .t (.int .i64 i))], H⟩) n.toNat
      ⟨[0], by simp [gcSt, keepOk, finG, resV, resOne, resAll, idx, V.ren, V.renL, Obj.ren, get_cons, get_nil, RTree, RTup, RRow], 0, [], (at_, bad), _, _, by omega, rfl, k1, by simp, .inl ⟨rfl, rfl, rfl⟩, by simp [rbox, gcSt, keepOk, finG, resV, resOne, resAll, idx, V.ren, V.renL, Obj.ren, get_cons, get_nil, RTree, RTup, RRow]⟩ ?_
    rintro m s ⟨i, l, t, x, H, hmi, hli, ht, hrd, hx, rfl⟩
    have hHb : ∃ R, H = rbox b t :: R := by
      rcases hx with ⟨_, _, rfl⟩ | ⟨g, _, rfl⟩
      · exact ⟨_, rfl⟩
      · exact ⟨_, rfl⟩
    have fin : rdLoop b n.toNat (at_, bad) = (l, t) → ∀ s : St, s.h = H → get s.vs 4 = x → finK 1 [.tmp 4] (RInts b (rdLoop b n.toNat (at_, bad))) s := by
      intro e s e1 e2
      rw [e]
      obtain ⟨svs, sh⟩ := s
      simp only at e1 e2
      subst e1
      rcases hx with ⟨rfl, hl0, rfl⟩ | ⟨g, rfl, rfl⟩
      · refine finK_gc [0] ?_
        simp [finG, keepOk, resV, resOne, e2, V.ren, Obj.ren, rbox, V.renL, RInts, hl0]
      · refine finK_gc [0, 1] ?_
        simp [finG, keepOk, resV, resOne, e2, V.ren, Obj.ren, rbox, V.renL, RInts, idx]
    obtain ⟨ta, tb⟩ := t
    have hloop0 : tb = true → rdLoop b m (ta, tb) = ([], (ta, tb)) := by
      rintro rfl
      cases m <;> simp [rdLoop]
    by_cases hi : (i : Int) < n
    case neg =>
      have gi : decide ((i : Int) < n) = false := decide_eq_false hi
      obtain rfl : m = 0 := by omega
      simp only [rdLoop, List.append_nil] at hrd
      obtain ⟨R, rfl⟩ := hHb
      unfold rbox
      simp (maxSteps := 4000000) -implicitDefEqProofs (disch := omega) only [gi, ↓sxPre, sxPost, sxLib, if_true, if_false, Nat.reduceEqDiff, ↓reduceIte, Nat.reduceAdd, Nat.reduceSub, Nat.reduceMul, Nat.reduceLT, Nat.reduceLeDiff, reduceCtorEq, eq_self, K.isEff, List.reduceReplicate]
      exact fin hrd _ rfl rfl
    have gi : decide ((i : Int) < n) = true := decide_eq_true hi
    cases tb with
    | true =>
      rw [hloop0 rfl, List.append_nil] at hrd
      obtain ⟨R, rfl⟩ := hHb
      unfold rbox
      simp (maxSteps := 4000000) -implicitDefEqProofs (disch := omega) only [gi, ↓sxPre, sxPost, sxLib, if_true, if_false, Nat.reduceEqDiff, ↓reduceIte, Nat.reduceAdd, Nat.reduceSub, Nat.reduceMul, Nat.reduceLT, Nat.reduceLeDiff, reduceCtorEq, eq_self, K.isEff, List.reduceReplicate]
      exact fin hrd _ rfl rfl
    | false =>
      clear fin hloop0
      obtain ⟨m, rfl⟩ : ∃ m', m = m' + 1 := ⟨m - 1, by omega⟩
      obtain ⟨j1, j2⟩ := rdI_ok hb ht
      have cI := rint_sc b hb hl (ta, false) ht
      simp only [rdLoop, if_neg Bool.false_ne_true] at hrd
      generalize rdN (RI b) (ta, false) = w at *
      obtain ⟨v, wa, wb⟩ := w
      simp only at j1 j2 hrd cI
      clear hHb
      rcases hx with ⟨rfl, hl0, rfl⟩ | ⟨g, rfl, rfl⟩
      · unfold rbox
        simp (maxSteps := 4000000) -implicitDefEqProofs (disch := omega) only [gi, ↓sxPre, sxPost, sxLib, if_true, if_false, Nat.reduceEqDiff, ↓reduceIte, Nat.reduceAdd, Nat.reduceSub, Nat.reduceMul, Nat.reduceLT, Nat.reduceLeDiff, reduceCtorEq, eq_self, K.isEff, List.reduceReplicate]
        refine step_num (b := b) (x := (v, wa, wb)) 0 (by simp) ?_ ?_
        · simpa [V.ren, V.renL, idx, Abs.get, ev, sub, rbox, Obj.ren] using cI
        unfold rbox
        simp (maxSteps := 4000000) -implicitDefEqProofs (disch := omega) only [keff_buildSlice, toElems_cons, toElems_nil, toElem_t, setElems_cons, setElems_nil, elems_lst', kappend_nil, ↓sxPre, sxPost, sxLib, if_true, if_false, Nat.reduceEqDiff, ↓reduceIte, Nat.reduceAdd, Nat.reduceSub, Nat.reduceMul, Nat.reduceLT, Nat.reduceLeDiff, reduceCtorEq, eq_self, K.isEff, List.reduceReplicate]
        refine ⟨by decide, m, by omega, [0, 1], by simp [gcSt, keepOk, finG, resV, resOne, resAll, idx, V.ren, V.renL, Obj.ren, get_cons, get_nil, RTree, RTup, RRow], i + 1, l ++ [v], (wa, wb), _, _, by omega, by simp [hli], j1, ?_, .inr ⟨0, rfl, rfl⟩, by simp [rbox, hl0, Ns, hli, gcSt, keepOk, finG, resV, resOne, resAll, idx, V.ren, V.renL, Obj.ren, get_cons, get_nil, RTree, RTup, RRow]⟩
        rw [hrd]; simp
      · unfold rbox
        simp (maxSteps := 4000000) -implicitDefEqProofs (disch := omega) only [gi, ↓sxPre, sxPost, sxLib, if_true, if_false, Nat.reduceEqDiff, ↓reduceIte, Nat.reduceAdd, Nat.reduceSub, Nat.reduceMul, Nat.reduceLT, Nat.reduceLeDiff, reduceCtorEq, eq_self, K.isEff, List.reduceReplicate]
        refine step_num (b := b) (x := (v, wa, wb)) 0 (by simp) ?_ ?_
        · simpa [V.ren, V.renL, idx, Abs.get, ev, sub, rbox, Obj.ren] using cI
        unfold rbox
        simp (maxSteps := 4000000) -implicitDefEqProofs (disch := omega) only [Ns_length, keff_buildSlice, toElems_cons, toElems_nil, toElem_t, setElems_cons, setElems_nil, elems_lst', kappend_nil, ↓sxPre, sxPost, sxLib, if_true, if_false, Nat.reduceEqDiff, ↓reduceIte, Nat.reduceAdd, Nat.reduceSub, Nat.reduceMul, Nat.reduceLT, Nat.reduceLeDiff, reduceCtorEq, eq_self, K.isEff, List.reduceReplicate]
        refine ⟨by omega, m, by omega, [0, 1], by simp [gcSt, keepOk, finG, resV, resOne, resAll, idx, V.ren, V.renL, Obj.ren, get_cons, get_nil, RTree, RTup, RRow], i + 1, l ++ [v], (wa, wb), _, _, by omega, by simp [hli], j1, ?_, .inr ⟨g + 1, rfl, rfl⟩, by simp [rbox, Ns, hli, gcSt, keepOk, finG, resV, resOne, resAll, idx, V.ren, V.renL, Obj.ren, get_cons, get_nil, RTree, RTup, RRow]⟩
        rw [hrd]; simp

theorem rlistT_sc (b : List Int) (hb : Bytes b) (hl : b.length ≤ 2 ^ 40) (s : RS) (hs : SOk b s) (most : Int) (hm : 0 ≤ most ∧ most ≤ 2 ^ 20) :
    SCall PP N.debuggerref36_reader_list [.ref 0 0, .t (.int .i64 most)] [rbox b s] (RIntsT b (rdInts b most s)) := by
  refine (rlistR_sc b hb hl s hs most hm).weak ?_
  rintro r F (⟨rfl, h0, rfl⟩ | ⟨g, rfl, rfl⟩)
  · exact ⟨_, _, Weak.refl _ _, 0, true, .inr h0, by rw [h0]; rfl, rfl⟩
  · exact ⟨_, _, frz_row, 1, false, .inl rfl, rfl, rfl⟩
end Go.Proofs.Ytljjabccgbakgaa
