/- TransportSteps: what the law returns. By the session itself. -/
import Derived.Test.YtbpclinijbgchaaTr9
namespace Go.Proofs.Ytbpclinijbgchaa
open Go Go.Abs
set_option maxRecDepth 100000
set_option maxHeartbeats 8000000
set_option linter.unusedSimpArgs false
set_option linter.unusedVariables false

/-- The same messages, whatever they are made of. -/
theorem bodies_sc (q : List (List Int)) (hql : q.length ≤ 2 ^ 40) (hqb : ∀ b ∈ q, Bytes b) (s s' : Nat) (t t' : Bool) (ys ys' : List T) (hs : s = 1 ∨ q = []) (hs' : s' = 1 ∨ q = []) (hq : QAt q ys) (hq' : QAt q ys') :
    SCall PP N.debuggerref34_Bodies [.t (.lst s t ys), .t (.lst s' t' ys')] [] (RTree (.bool true)) := by
  refine debuggerref34_Bodies.intro (by simp) ?_
  obtain ⟨hyl, hya⟩ := hq
  obtain ⟨hyl', hya'⟩ := hq'
  have d7 : decide ((q.length : Int) = q.length) = true := decide_eq_true rfl
  simp (maxSteps := 4000000) -implicitDefEqProofs (disch := omega) only [d7, hyl, hyl', ↓sxPre, sxPost, sxLib, if_true, if_false, Nat.reduceEqDiff, ↓reduceIte, Nat.reduceAdd, Nat.reduceSub, Nat.reduceMul, Nat.reduceLT, Nat.reduceLeDiff, reduceCtorEq, eq_self, K.isEff, List.reduceReplicate]
  refine wpC_loop_gc [0, 1, 5] [] (fun m st => ∃ i : Nat, m + i = q.length ∧ st = ⟨[(0, .t (.lst s t ys)), (1, .t (.lst s' t' ys')), (5, .t (.int .i64 i))], []⟩) q.length
    ⟨by simp [keepOk], 0, by omega, by simp [gcSt, keepOk, finG, resV, resOne, resAll, idx, V.ren, V.renL, Obj.ren, get_cons, get_nil, RTree, RTup, RRow]⟩ ?_
  rintro m st ⟨i, hm, rfl⟩
  by_cases hi : i < q.length
  · have hi' : (i : Int) < q.length := by omega
    obtain ⟨s1, t1, hs1, hat⟩ := hya i hi
    obtain ⟨s2, t2, hs2, hat2⟩ := hya' i hi
    have k1 : s = 1 := hs.resolve_right (by rintro rfl; simp at hi)
    have k2 : s' = 1 := hs'.resolve_right (by rintro rfl; simp at hi)
    subst k1 k2
    have hb := hqb _ (List.getElem_mem hi)
    have hbb := B_isByte hb
    generalize q[i] = b at *
    have g1 := elems_b (t := t1) hs1
    have g2 := elems_b (t := t2) hs2
    have gs : decide ((⟨(bytesOf (B b)).toArray⟩ : ByteArray) = ⟨(bytesOf (B b)).toArray⟩) = true := decide_eq_true rfl
    simp (maxSteps := 4000000) -implicitDefEqProofs (disch := omega) only [hi', hyl, hyl', Int.toNat_natCast, hat, hat2, at_zero, ktoStr, g1, g2, hbb, gs, ↓sxPre, sxPost, sxLib, if_true, if_false, Nat.reduceEqDiff, ↓reduceIte, Nat.reduceAdd, Nat.reduceSub, Nat.reduceMul, Nat.reduceLT, Nat.reduceLeDiff, reduceCtorEq, eq_self, K.isEff, List.reduceReplicate]
    refine ⟨by omega, by omega, m - 1, by omega, by simp [gcSt, keepOk, finG, resV, resOne, resAll, idx, V.ren, V.renL, Obj.ren, get_cons, get_nil, RTree, RTup, RRow], i + 1, by omega, by simp [gcSt, keepOk, finG, resV, resOne, resAll, idx, V.ren, V.renL, Obj.ren, get_cons, get_nil, RTree, RTup, RRow]⟩
  · have hi' : ¬ (i : Int) < q.length := by omega
    simp (maxSteps := 4000000) -implicitDefEqProofs (disch := omega) only [hi', hyl, hyl', ↓sxPre, sxPost, sxLib, if_true, if_false, Nat.reduceEqDiff, ↓reduceIte, Nat.reduceAdd, Nat.reduceSub, Nat.reduceMul, Nat.reduceLT, Nat.reduceLeDiff, reduceCtorEq, eq_self, K.isEff, List.reduceReplicate]
    refine finK_gc [] ?_
    simp [gcSt, keepOk, finG, resV, resOne, resAll, idx, V.ren, V.renL, Obj.ren, get_cons, get_nil, RTree, RTup, RRow]

/-- An endpoint that the law asks about. -/
def rightE (e : Ep) : Ep := { e with epoch := 1 + e.epoch % 6, peer := e.peer % 6, acked := e.acked % 50, sent := e.acked % 50 + e.sent % ((if (4 : Int) < e.queue.length then 4 else (e.queue.length : Int)) + 1), got := e.got % 50, timer := e.timer % 40 }

theorem rightE_fine {e : Ep} (hL : Little e.queue) (hqb : ∀ b ∈ e.queue, Bytes b) : (rightE e).Fine := by
  have h1 := Int.emod_nonneg e.sent (show (if (4 : Int) < e.queue.length then (4 : Int) else (e.queue.length : Int)) + 1 ≠ 0 by split <;> omega)
  have h2 := Int.emod_lt_of_pos e.sent (show 0 < (if (4 : Int) < e.queue.length then (4 : Int) else (e.queue.length : Int)) + 1 by split <;> omega)
  have h3 : (if (4 : Int) < e.queue.length then (4 : Int) else (e.queue.length : Int)) ≤ 4 := by split <;> omega
  have h4 := hL.1
  refine ⟨⟨?_, ?_⟩, ⟨?_, ?_⟩, ⟨?_, ?_⟩, ⟨?_, ?_⟩, ⟨?_, ?_⟩, ⟨?_, ?_⟩, by simp only [rightE]; omega, fun b hb => ⟨hqb b hb, by have := hL.2 b hb; omega⟩⟩ <;> simp only [rightE] <;> omega

theorem right_sc (e : Ep) (cs : List T) (hA : e.At cs) (hql : e.queue.length ≤ 2 ^ 40) : SCall PP N.debuggerlaw35_right [.agg (cs.map V.t)] [] (REp (rightE e)) := by
  refine debuggerlaw35_right.intro (by simp) ?_
  obtain ⟨s, t, ys, hs, hqa, rfl⟩ := hA
  have hyl := hqa.1
  have m1 := Mod_sc e.epoch 6 (by decide) (by decide)
  have m2 := Mod_sc e.peer 6 (by decide) (by decide)
  have m3 := Mod_sc e.acked 50 (by decide) (by decide)
  have m4 := Mod_sc e.sent ((if (4 : Int) < e.queue.length then 4 else (e.queue.length : Int)) + 1) (by split <;> omega) (by split <;> omega)
  have m5 := Mod_sc e.got 50 (by decide) (by decide)
  have m6 := Mod_sc e.timer 40 (by decide) (by decide)
  have h1 := Int.emod_nonneg e.sent (show (if (4 : Int) < e.queue.length then (4 : Int) else (e.queue.length : Int)) + 1 ≠ 0 by split <;> omega)
  have h2 := Int.emod_lt_of_pos e.sent (show 0 < (if (4 : Int) < e.queue.length then (4 : Int) else (e.queue.length : Int)) + 1 by split <;> omega)
  have h3 : (if (4 : Int) < e.queue.length then (4 : Int) else (e.queue.length : Int)) ≤ 4 ∧ 0 ≤ (if (4 : Int) < e.queue.length then (4 : Int) else (e.queue.length : Int)) := by split <;> omega
  have hE : rightE e = { e with epoch := 1 + e.epoch % 6, peer := e.peer % 6, acked := e.acked % 50, sent := e.acked % 50 + e.sent % ((if (4 : Int) < e.queue.length then 4 else (e.queue.length : Int)) + 1), got := e.got % 50, timer := e.timer % 40 } := rfl
  generalize hmn : (if (4 : Int) < e.queue.length then (4 : Int) else (e.queue.length : Int)) = mn at *
  generalize hr4 : e.sent % (mn + 1) = r4 at *
  generalize hr1 : e.epoch % 6 = r1 at *
  generalize hr2 : e.peer % 6 = r2 at *
  generalize hr3 : e.acked % 50 = r3 at *
  generalize hr5 : e.got % 50 = r5 at *
  generalize hr6 : e.timer % 40 = r6 at *
  have b1 : 0 ≤ r1 ∧ r1 < 6 := by omega
  have b3 : 0 ≤ r3 ∧ r3 < 50 := by omega
  simp only [Ep.cells, List.map_cons, List.map_nil]
  simp (maxSteps := 4000000) -implicitDefEqProofs (disch := omega) only [kstore_ref, putAt_zero, putAt_succ, ↓sxPre, sxPost, sxLib, if_true, if_false, Nat.reduceEqDiff, ↓reduceIte, Nat.reduceAdd, Nat.reduceSub, Nat.reduceMul, Nat.reduceLT, Nat.reduceLeDiff, reduceCtorEq, eq_self, K.isEff, List.reduceReplicate]
  refine step_eff (step_tree (x := .int .i64 r1) ?_ rfl ?_)
  · simpa [Abs.view, viewL, Abs.get, ev] using m1
  simp (maxSteps := 4000000) -implicitDefEqProofs (disch := omega) only [kstore_ref, putAt_zero, putAt_succ, ↓sxPre, sxPost, sxLib, if_true, if_false, Nat.reduceEqDiff, ↓reduceIte, Nat.reduceAdd, Nat.reduceSub, Nat.reduceMul, Nat.reduceLT, Nat.reduceLeDiff, reduceCtorEq, eq_self, K.isEff, List.reduceReplicate]
  refine step_eff (step_tree (x := .int .i64 r2) ?_ rfl ?_)
  · simpa [Abs.view, viewL, Abs.get, ev] using m2
  simp (maxSteps := 4000000) -implicitDefEqProofs (disch := omega) only [kstore_ref, putAt_zero, putAt_succ, ↓sxPre, sxPost, sxLib, if_true, if_false, Nat.reduceEqDiff, ↓reduceIte, Nat.reduceAdd, Nat.reduceSub, Nat.reduceMul, Nat.reduceLT, Nat.reduceLeDiff, reduceCtorEq, eq_self, K.isEff, List.reduceReplicate]
  refine step_tree (x := .int .i64 r3) ?_ rfl ?_
  · simpa [Abs.view, viewL, Abs.get, ev] using m3
  simp (maxSteps := 4000000) -implicitDefEqProofs (disch := omega) only [kstore_ref, putAt_zero, putAt_succ, hyl, hmn, ↓sxPre, sxPost, sxLib, if_true, if_false, Nat.reduceEqDiff, ↓reduceIte, Nat.reduceAdd, Nat.reduceSub, Nat.reduceMul, Nat.reduceLT, Nat.reduceLeDiff, reduceCtorEq, eq_self, K.isEff, List.reduceReplicate]
  refine step_eff (step_tree (x := .int .i64 r4) ?_ rfl ?_)
  · simpa [Abs.view, viewL, Abs.get, ev] using m4
  simp (maxSteps := 4000000) -implicitDefEqProofs (disch := omega) only [kstore_ref, putAt_zero, putAt_succ, ↓sxPre, sxPost, sxLib, if_true, if_false, Nat.reduceEqDiff, ↓reduceIte, Nat.reduceAdd, Nat.reduceSub, Nat.reduceMul, Nat.reduceLT, Nat.reduceLeDiff, reduceCtorEq, eq_self, K.isEff, List.reduceReplicate]
  refine step_eff (step_tree (x := .int .i64 r5) ?_ rfl ?_)
  · simpa [Abs.view, viewL, Abs.get, ev] using m5
  simp (maxSteps := 4000000) -implicitDefEqProofs (disch := omega) only [kstore_ref, putAt_zero, putAt_succ, ↓sxPre, sxPost, sxLib, if_true, if_false, Nat.reduceEqDiff, ↓reduceIte, Nat.reduceAdd, Nat.reduceSub, Nat.reduceMul, Nat.reduceLT, Nat.reduceLeDiff, reduceCtorEq, eq_self, K.isEff, List.reduceReplicate]
  refine step_eff (step_tree (x := .int .i64 r6) ?_ rfl ?_)
  · simpa [Abs.view, viewL, Abs.get, ev] using m6
  simp (maxSteps := 4000000) -implicitDefEqProofs (disch := omega) only [kstore_ref, putAt_zero, putAt_succ, ↓sxPre, sxPost, sxLib, if_true, if_false, Nat.reduceEqDiff, ↓reduceIte, Nat.reduceAdd, Nat.reduceSub, Nat.reduceMul, Nat.reduceLT, Nat.reduceLeDiff, reduceCtorEq, eq_self, K.isEff, List.reduceReplicate]
  rw [hE]
  refine finK_one (n := 0) [] (c := True) (v := .agg [.t (.int .i64 (1 + r1)), .t (.int .i64 r2), .t (.int .i64 r3), .t (.int .i64 (r3 + r4)), .t (.int .i64 r5), .t (.int .i64 r6), .t (.lst s t ys), .t (.bool e.owe)]) (x := .agg (Ep.cells ⟨1 + r1, r2, r3, r3 + r4, r5, r6, e.queue, e.owe⟩ s t ys)) (H1 := [.box [.t (.int .i64 (1 + r1)), .t (.int .i64 r2), .t (.int .i64 r3), .t (.int .i64 (r3 + r4)), .t (.int .i64 r5), .t (.int .i64 r6), .t (.lst s t ys), .t (.bool e.owe)], .box [.t (.int .i64 (1 + r1)), .t (.int .i64 r2), .t (.int .i64 r3), .t (.int .i64 (r3 + r4)), .t (.int .i64 r5), .t (.int .i64 r6), .t (.lst s t ys), .t (.bool e.owe)]]) ?_ trivial ?_ (by simp [keepOk]) ⟨_, ⟨s, t, ys, hs, hqa, rfl⟩, rfl, rfl⟩
  · simp [resV, resOne, get_cons, kloadN_ref]
  · simp only [toElem_agg, toTs_cons, toTs_nil, toT_t]
    rfl

theorem poll_ok {e : Ep} (hF : e.Fine) (now : Int) : QOk (poll e now).1.queue ∧ (poll e now).2.length ≤ 2 ^ 40 ∧ ∀ b ∈ (poll e now).2, Bytes b := by
  have hq := hF.ok
  have hN : pollN e now ≤ 4 := by
    have := hF.sent
    unfold pollN pollS
    split <;> omega
  have hsend : ∀ (n : Nat) (s : Int), ∀ b ∈ sendFrom e n s, Bytes b := by
    intro n
    induction n with
    | zero => intro s b hb; cases hb
    | succ n ih =>
      intro s b hb
      rcases List.mem_cons.1 hb with rfl | hb
      · refine Pk.enc_bytes ?_
        intro x hx
        simp only [dataP] at hx
        by_cases hi : (s - e.acked).toNat < e.queue.length
        · have hg : e.queue.getD (s - e.acked).toNat [] = e.queue[(s - e.acked).toNat] := by simp [List.getD_eq_getElem?_getD, hi]
          rw [hg] at hx
          exact (hF.queue _ (List.getElem_mem hi)).1 x hx
        · have hg : e.queue.getD (s - e.acked).toNat [] = [] := by simp [List.getD_eq_getElem?_getD, Nat.le_of_not_lt hi]
          rw [hg] at hx; cases hx
      · exact ih _ b hb
  have hh : Bytes (helloP e).enc := Pk.enc_bytes (fun x hx => by cases hx)
  have ha : Bytes (ackP e).enc := Pk.enc_bytes (fun x hx => by cases hx)
  unfold poll
  split
  · split
    · exact ⟨hq, by simp, fun b hb => by rw [List.mem_singleton.1 hb]; exact hh⟩
    · exact ⟨hq, by simp, fun b hb => by cases hb⟩
  · split
    · exact ⟨hq, by simp only [sendFrom_length]; omega, hsend _ _⟩
    · split
      · exact ⟨hq, by simp, fun b hb => by rw [List.mem_singleton.1 hb]; exact ha⟩
      · exact ⟨hq, by simp, fun b hb => by cases hb⟩

theorem recv_ok {e : Ep} (hF : e.Fine) (b : List Int) (hb : Bytes b) : QOk (recv e b).1.queue ∧ (recv e b).2.1.length ≤ 2 ^ 40 ∧ ∀ c ∈ (recv e b).2.1, Bytes c := by
  have hq := hF.ok
  obtain ⟨f1, f2⟩ := dec_facts hb
  have hm : QOk (meet e (dec b).1).queue := by
    unfold meet
    split
    · simp only
      split
      · exact ⟨by simp, fun b hb => by cases hb⟩
      · exact hq
    · exact hq
  have ha : ∀ (e1 : Ep) (p : Pk), QOk e1.queue → QOk (ackd e1 p).queue := by
    intro e1 p h
    unfold ackd
    split
    · exact ⟨by have := h.1; simp only [List.length_drop]; omega, fun b hb => h.2 b (List.mem_of_mem_drop hb)⟩
    · exact h
  have ht : ∀ (e1 : Ep) (p : Pk), QOk e1.queue → Bytes p.body → QOk (took e1 p).1.queue ∧ (took e1 p).2.length ≤ 2 ^ 40 ∧ ∀ c ∈ (took e1 p).2, Bytes c := by
    intro e1 p h hp
    unfold took
    split
    · split
      · exact ⟨h, by simp, fun c hc => by rw [List.mem_singleton.1 hc]; exact hp⟩
      · exact ⟨h, by simp, fun c hc => by cases hc⟩
    · split
      · exact ⟨h, by simp, fun c hc => by cases hc⟩
      · exact ⟨h, by simp, fun c hc => by cases hc⟩
  unfold recv
  split
  · exact ⟨hq, by simp, fun c hc => by cases hc⟩
  · rename_i h
    have h0 : (dec b).2 = 0 := Classical.byContradiction fun h1 => h (.inl h1)
    split
    · exact ⟨hm, by simp, fun c hc => by cases hc⟩
    · exact ht _ _ (ha _ _ hm) (f1 h0).2
end Go.Proofs.Ytbpclinijbgchaa
