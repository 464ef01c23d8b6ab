/- Messages: the specification reads replies: the threads, and all of it. By the session itself. -/
import Derived.Test.YtljjabccgbakgaaMsg26
namespace Go.Proofs.Ytljjabccgbakgaa
open Go Go.Abs
set_option maxRecDepth 100000
set_option maxHeartbeats 8000000
set_option linter.unusedSimpArgs false
set_option linter.unusedVariables false

theorem rDecodeReply_l0 (b : List Int) (hb : Bytes b) (hl : b.length ≤ 2 ^ 40) (s : RS) (hs : SOk b s) (n : Int) (hn : n ≤ 8) (hn0 : 0 ≤ n) (err : Int) (words : List Int) (s1 : Nat) (t1 : Bool) (h1 : s1 = 1 ∨ words = []) (st : St)
    (hk : keepOk 0 [0, 1, 2] st.h.length) (hst : gcSt [0, 2, 4, 5, 6, 7] [0, 1, 2] st = ⟨[(0, .t (.lst 1 false (B b))), (2, .ref 0 0), (4, .ref 1 0), (5, .ref 2 0), (6, .t (.int .i64 n)), (7, .t (.int .i64 0))], [.box [.t (.int .i64 0), .t (.lst 0 true []), .t (.lst 0 true []), .t (.lst 0 true []), .t (.int .i64 0), .t (.int .i64 0), .t (.int .i64 0), .t (.int .i64 0), .t (.int .i64 0), .t (.int .i64 0), .t (.int .i64 0)], rbox b s, .box [.t (.int .i64 err), .t (.lst s1 t1 (Ns words)), .t (.lst 0 true []), .t (.lst 0 true []), .t (.int .i64 0), .t (.int .i64 0), .t (.int .i64 0), .t (.int .i64 0), .t (.int .i64 0), .t (.int .i64 0), .t (.int .i64 0)]]⟩) :
    wpC (SCall PP) 0 (.loop debuggerref36_DecodeReply.l0) (blockK 0 (thenK (wpC (SCall PP) 0 rrTail (exitK 0 [.cell 2 11 false, .tmp 3] (RDecR (afterThs b err words (rdThs b n.toNat s))))) (exitK 0 [.cell 2 11 false, .tmp 3] (RDecR (afterThs b err words (rdThs b n.toNat s)))))) st := by
  refine wpC_loop (fun m st => ∃ (i : Nat) (l : List Th) (ys : List T) (t : RS) (x : V) (H : Heap), m + i = n.toNat ∧ l.length = i ∧ ys.length = l.length ∧ (∀ j (h : j < l.length), (l[j]'h).At (T.at ys j)) ∧ SOk b t ∧
      rdThs b n.toNat s = (l ++ (rdThs b m t).1, (rdThs b m t).2) ∧
      ((l = [] ∧ x = .t (.lst 0 true []) ∧ H = []) ∨ ∃ g', x = .sl 3 0 i g' 20 ∧ H = [.row 20 g' ys]) ∧
      st = ⟨[(0, .t (.lst 1 false (B b))), (2, .ref 0 0), (4, .ref 1 0), (5, .ref 2 0), (6, .t (.int .i64 n)), (7, .t (.int .i64 i))], .box [.t (.int .i64 0), .t (.lst 0 true []), .t (.lst 0 true []), .t (.lst 0 true []), .t (.int .i64 0), .t (.int .i64 0), .t (.int .i64 0), .t (.int .i64 0), .t (.int .i64 0), .t (.int .i64 0), .t (.int .i64 0)] :: rbox b t :: .box [.t (.int .i64 err), .t (.lst s1 t1 (Ns words)), x, .t (.lst 0 true []), .t (.int .i64 0), .t (.int .i64 0), .t (.int .i64 0), .t (.int .i64 0), .t (.int .i64 0), .t (.int .i64 0), .t (.int .i64 0)] :: H⟩) n.toNat _ (weak_keep hk)
    ⟨0, [], [], s, _, [], by simp, rfl, rfl, fun j h => absurd h (by simp), hs, by simp, .inl ⟨rfl, rfl, rfl⟩, hst⟩ ?_
  clear hst hk st
  rintro m st ⟨i, l, ys, t, x, H, hm, hli, hyl, hya, ht, hrd, hxH, rfl⟩
  have hend : (m = 0 ∨ t.2 = true) → rdThs b n.toNat s = (l, t) := by
    intro h
    rw [hrd]
    rcases h with rfl | h
    · simp [rdThs]
    · cases m <;> simp [rdThs, h]
  obtain ⟨ta, tb⟩ := t
  by_cases hgo : (i : Int) < n ∧ tb = false
  · obtain ⟨hlt, rfl⟩ := hgo
    clear hend
    have d1 : decide ((i : Int) < n) = true := decide_eq_true hlt
    have hn8 : n ≤ 8 := hn
    obtain ⟨m, rfl⟩ : ∃ m', m = m' + 1 := ⟨m - 1, by omega⟩
    obtain ⟨j1, j2, j3⟩ := rdTh_ok hb ht
    have cT := rthreadR_sc b hb hl (ta, false) ht
    simp only [rdThs, if_neg Bool.false_ne_true] at hrd
    generalize rdTh b (ta, false) = w at *
    obtain ⟨q, wt⟩ := w
    simp only at j1 j2 j3 hrd cT
    have hstep : ∀ (C : List T) (sz : Nat) (tt : Bool), (sz = 1 ∨ q.args = []) → C = q.cells sz tt → ∀ j (h : j < (l ++ [q]).length), ((l ++ [q])[j]'h).At (T.at (ys ++ [.agg C]) j) := by
      intro C sz tt hsz hC j h
      by_cases hj : j < l.length
      · have e : T.at (ys ++ [.agg C]) j = T.at ys j := by simp [T.at, List.getD_eq_getElem?_getD, List.getElem?_append_left (show j < ys.length by omega)]
        rw [List.getElem_append_left hj, e]
        exact hya j hj
      · have hj2 : j = l.length := by simp at h; omega
        have e : T.at (ys ++ [.agg C]) j = .agg C := by simp [T.at, List.getD_eq_getElem?_getD, hj2, ← hyl]
        rw [e]
        subst hj2
        rw [List.getElem_append_right (Nat.le_refl _)]
        simp only [Nat.sub_self, List.getElem_cons_zero]
        exact ⟨sz, tt, hsz, by rw [hC]⟩
    rcases hxH with ⟨hl0, rfl, rfl⟩ | ⟨g', rfl, rfl⟩
    · have hy0 : ys = [] := List.length_eq_zero_iff.1 (by rw [hyl, hl0]; rfl)
      have hyl2 := hyl
      have hyX := hy0
      unfold rbox
      simp (maxSteps := 4000000) -implicitDefEqProofs (disch := omega) only [d1, ↓sxPre, sxPost, sxLib, if_true, if_false, Nat.reduceEqDiff, ↓reduceIte, Nat.reduceAdd, Nat.reduceSub, Nat.reduceMul, Nat.reduceLT, Nat.reduceLeDiff, reduceCtorEq, eq_self, K.isEff, List.reduceReplicate]
      refine step_eff (step_th (b := b) (x := (q, wt)) 1 (by simp) ?_ (fun sz tt hsz => ?_))
      · simpa [V.ren, V.renL, idx, Abs.get, ev, sub, rbox, Obj.ren] using cT
      have k1 := (q.facts2 j2 sz tt _ rfl).1
      have kone := Th.cells_one (q := q) sz tt
      have hst2 := hstep _ sz tt hsz rfl
      generalize q.cells sz tt = C at *
      simp (maxSteps := 4000000) -implicitDefEqProofs (disch := omega) only [k1, kone, putAt_zero, putAt_succ, keff_buildSlice, toElems_cons, toElems_nil, toElem_t, setElems_cons, setElems_nil, kappend_nil, hyl2, ↓sxPre, sxPost, sxLib, if_true, if_false, Nat.reduceEqDiff, ↓reduceIte, Nat.reduceAdd, Nat.reduceSub, Nat.reduceMul, Nat.reduceLT, Nat.reduceLeDiff, reduceCtorEq, eq_self, K.isEff, List.reduceReplicate]
      rw [hy0] at hst2
      refine ⟨by omega, m, _, by omega, weak_keep (slots := [0, 2, 4, 5, 6, 7]) (keep := [0, 1, 2, 3]) (by simp [keepOk]), i + 1, l ++ [q], [.agg C], wt, _, _, by omega, by simp [hli], by simp [hl0], hst2, j1, by rw [hrd]; simp, .inr ⟨0, rfl, rfl⟩, ?_⟩
      simp [rbox, hyX, gcSt, keepOk, finG, resV, resOne, resAll, idx, V.ren, V.renL, Obj.ren, get_cons, get_nil, RTree, RTup, RRow]
      rw [← hli, hl0]; rfl
    · have hyl2 : ys.length = i := by omega
      have hyX := hyl2
      unfold rbox
      simp (maxSteps := 4000000) -implicitDefEqProofs (disch := omega) only [d1, ↓sxPre, sxPost, sxLib, if_true, if_false, Nat.reduceEqDiff, ↓reduceIte, Nat.reduceAdd, Nat.reduceSub, Nat.reduceMul, Nat.reduceLT, Nat.reduceLeDiff, reduceCtorEq, eq_self, K.isEff, List.reduceReplicate]
      refine step_eff (step_th (b := b) (x := (q, wt)) 1 (by simp) ?_ (fun sz tt hsz => ?_))
      · simpa [V.ren, V.renL, idx, Abs.get, ev, sub, rbox, Obj.ren] using cT
      have k1 := (q.facts2 j2 sz tt _ rfl).1
      have kone := Th.cells_one (q := q) sz tt
      have hst2 := hstep _ sz tt hsz rfl
      generalize q.cells sz tt = C at *
      simp (maxSteps := 4000000) -implicitDefEqProofs (disch := omega) only [k1, kone, putAt_zero, putAt_succ, keff_buildSlice, toElems_cons, toElems_nil, toElem_t, setElems_cons, setElems_nil, kappend_nil, hyl2, ↓sxPre, sxPost, sxLib, if_true, if_false, Nat.reduceEqDiff, ↓reduceIte, Nat.reduceAdd, Nat.reduceSub, Nat.reduceMul, Nat.reduceLT, Nat.reduceLeDiff, reduceCtorEq, eq_self, K.isEff, List.reduceReplicate]
      refine ⟨by omega, m, _, by omega, weak_keep (slots := [0, 2, 4, 5, 6, 7]) (keep := [0, 1, 2, 3]) (by simp [keepOk]), i + 1, l ++ [q], ys ++ [.agg C], wt, _, _, by omega, by simp [hli], by simp [hyl], hst2, j1, by rw [hrd]; simp, .inr ⟨g' + 1, rfl, rfl⟩, ?_⟩
      simp [rbox, hyX, gcSt, keepOk, finG, resV, resOne, resAll, idx, V.ren, V.renL, Obj.ren, get_cons, get_nil, RTree, RTup, RRow]
  · have hm0 : m = 0 ∨ tb = true := by
      cases tb with
      | true => exact .inr rfl
      | false => exact .inl (by simp at hgo; omega)
    rw [hend hm0]
    have dd : decide ((i : Int) < n) = false ∨ (decide ((i : Int) < n) = true ∧ tb = true) := by
      by_cases h : (i : Int) < n
      · right
        refine ⟨decide_eq_true h, ?_⟩
        cases tb with
        | true => rfl
        | false => exact absurd ⟨h, rfl⟩ hgo
      · exact .inl (decide_eq_false h)
    clear hend hgo hm0 hrd
    have hxH' : (l = [] ∧ x = .t (.lst 0 true []) ∧ H = []) ∨ ∃ g', x = .sl 3 0 l.length g' 20 ∧ H = [.row 20 g' ys] := by rw [hli]; exact hxH
    have tail := rDecodeReply_tail b hb hl (ta, tb) ht err words l s1 t1 h1 ys hyl hya x H hxH'
    generalize hKK : wpC (SCall PP) 0 rrTail (exitK 0 [.cell 2 11 false, .tmp 3] (RDecR (afterThs b err words (l, (ta, tb))))) = KK at tail ⊢
    clear hKK
    unfold rbox at tail ⊢
    rcases dd with d1 | ⟨d1, rfl⟩
    · simp (maxSteps := 4000000) -implicitDefEqProofs (disch := omega) only [d1, ↓sxPre, sxPost, sxLib, if_true, if_false, Nat.reduceEqDiff, ↓reduceIte, Nat.reduceAdd, Nat.reduceSub, Nat.reduceMul, Nat.reduceLT, Nat.reduceLeDiff, reduceCtorEq, eq_self, K.isEff, List.reduceReplicate]
      exact tail _ rfl rfl rfl rfl
    · simp (maxSteps := 4000000) -implicitDefEqProofs (disch := omega) only [d1, ↓sxPre, sxPost, sxLib, if_true, if_false, Nat.reduceEqDiff, ↓reduceIte, Nat.reduceAdd, Nat.reduceSub, Nat.reduceMul, Nat.reduceLT, Nat.reduceLeDiff, reduceCtorEq, eq_self, K.isEff, List.reduceReplicate]
      exact tail _ rfl rfl rfl rfl

/-- The whole of it. -/
theorem rDecodeReply_sc (b : List Int) (hb : Bytes b) (hl : b.length ≤ 2 ^ 40) : SCall PP N.debuggerref36_DecodeReply [.t (.lst 1 false (B b))] [] (RDecR (decR b)) := by
  refine debuggerref36_DecodeReply.intro (by simp) ?_
  have h0 : SOk b (0, false) := ⟨by simp, by simp⟩
  have c1 := rint_sc b hb hl (0, false) h0
  obtain ⟨k1, _⟩ := rdI_ok hb h0
  unfold decR
  generalize rdN (RI b) (0, false) = x1 at *
  obtain ⟨err, t1⟩ := x1
  simp only at k1 ⊢
  have c2 := rlistT_sc b hb hl t1 k1 128 (by decide)
  obtain ⟨k2, _⟩ := rdInts_ok hb 128 k1
  generalize rdInts b 128 t1 = x2 at *
  obtain ⟨words, t2⟩ := x2
  simp only at k2 ⊢
  have c3 := ruint_sc b hb hl t2 k2
  obtain ⟨k3, k4, k5⟩ := rdU_ok hb k2
  generalize rdN (RU b) t2 = x3 at *
  obtain ⟨n, t3⟩ := x3
  simp only at k3 k4 k5 ⊢
  simp (maxSteps := 4000000) -implicitDefEqProofs (disch := omega) only [stepK_build', fillV, putAt_zero, putAt_succ, ↓sxPre, sxPost, sxLib, if_true, if_false, Nat.reduceEqDiff, ↓reduceIte, Nat.reduceAdd, Nat.reduceSub, Nat.reduceMul, Nat.reduceLT, Nat.reduceLeDiff, reduceCtorEq, eq_self, K.isEff, List.reduceReplicate]
  refine step_num (b := b) (x := (err, t1)) 1 (by simp) ?_ ?_
  · simpa [V.ren, V.renL, idx, Abs.get, ev, sub, rbox, Obj.ren] using c1
  simp (maxSteps := 4000000) -implicitDefEqProofs (disch := omega) only [↓sxPre, sxPost, sxLib, if_true, if_false, Nat.reduceEqDiff, ↓reduceIte, Nat.reduceAdd, Nat.reduceSub, Nat.reduceMul, Nat.reduceLT, Nat.reduceLeDiff, reduceCtorEq, eq_self, K.isEff, List.reduceReplicate]
  refine step_intsT (b := b) (x := (words, t2)) 1 (by simp) ?_ (fun sz t hsz => ?_)
  · simpa [V.ren, V.renL, idx, Abs.get, ev, sub, rbox, Obj.ren] using c2
  simp (maxSteps := 4000000) -implicitDefEqProofs (disch := omega) only [stepK_build', fillV, kstore_ref, putAt_zero, putAt_succ, ↓sxPre, sxPost, sxLib, if_true, if_false, Nat.reduceEqDiff, ↓reduceIte, Nat.reduceAdd, Nat.reduceSub, Nat.reduceMul, Nat.reduceLT, Nat.reduceLeDiff, reduceCtorEq, eq_self, K.isEff, List.reduceReplicate]
  refine step_num (b := b) (x := (n, t3)) 1 (by simp) ?_ ?_
  · simpa [V.ren, V.renL, idx, Abs.get, ev, sub, rbox, Obj.ren] using c3
  by_cases hn : 8 < n
  · have d1 : decide ((8 : Int) < n) = true := decide_eq_true hn
    rw [if_pos hn, rdThs_bad, afterThs_bad]
    simp (maxSteps := 4000000) -implicitDefEqProofs (disch := omega) only [d1, stepK_build', fillV, kstore_ref, putAt_zero, putAt_succ, ↓sxPre, sxPost, sxLib, if_true, if_false, Nat.reduceEqDiff, ↓reduceIte, Nat.reduceAdd, Nat.reduceSub, Nat.reduceMul, Nat.reduceLT, Nat.reduceLeDiff, reduceCtorEq, eq_self, K.isEff, List.reduceReplicate]
    obtain ⟨ta, tb⟩ := t3
    exact finK_tup (n := 0) [] (c := True) (vs := [.agg [.t (.int .i64 0), .t (.lst 0 true []), .t (.lst 0 true []), .t (.lst 0 true []), .t (.int .i64 0), .t (.int .i64 0), .t (.int .i64 0), .t (.int .i64 0), .t (.int .i64 0), .t (.int .i64 0), .t (.int .i64 0)], .t (.int .i64 4)]) (xs := [.agg [.int .i64 0, .lst 0 true [], .lst 0 true [], .lst 0 true [], .int .i64 0, .int .i64 0, .int .i64 0, .int .i64 0, .int .i64 0, .int .i64 0, .int .i64 0], .int .i64 4])
      (H1 := .box [.t (.int .i64 0), .t (.lst 0 true []), .t (.lst 0 true []), .t (.lst 0 true []), .t (.int .i64 0), .t (.int .i64 0), .t (.int .i64 0), .t (.int .i64 0), .t (.int .i64 0), .t (.int .i64 0), .t (.int .i64 0)] :: .box [.t (.lst 1 false (B b)), .t (.int .i64 ta), .t (.bool tb)] :: .box [.t (.int .i64 err), .t (.lst sz t (Ns words)), .t (.lst 0 true []), .t (.lst 0 true []), .t (.int .i64 0), .t (.int .i64 0), .t (.int .i64 0), .t (.int .i64 0), .t (.int .i64 0), .t (.int .i64 0), .t (.int .i64 0)] :: []) (by simp [resV, resAll, resOne, get_cons, kloadN_ref]) trivial (by simp only [toElems_cons, toElems_nil, toElem_agg, toElem_t, toTs_cons, toTs_nil, toT_t]; rfl) (by simp [keepOk]) ⟨_, zeroRp_at, rfl, rfl⟩
  · have d1 : decide ((8 : Int) < n) = false := decide_eq_false hn
    rw [if_neg hn]
    simp (maxSteps := 4000000) -implicitDefEqProofs (disch := omega) only [d1, ↓sxPre, sxPost, sxLib, if_true, if_false, Nat.reduceEqDiff, ↓reduceIte, Nat.reduceAdd, Nat.reduceSub, Nat.reduceMul, Nat.reduceLT, Nat.reduceLeDiff, reduceCtorEq, eq_self, K.isEff, List.reduceReplicate]
    refine rDecodeReply_l0 b hb hl t3 k3 n (by omega) k4 err words sz t hsz _ (by simp [keepOk]) ?_
    simp [rbox, gcSt, keepOk, finG, resV, resOne, resAll, idx, V.ren, V.renL, Obj.ren, get_cons, get_nil, RTree, RTup, RRow]
end Go.Proofs.Ytljjabccgbakgaa
