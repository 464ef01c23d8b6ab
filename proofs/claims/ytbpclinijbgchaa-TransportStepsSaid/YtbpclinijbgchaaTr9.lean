/- Transport: the specification's Receive, and what the law compares. By the session itself. -/
import Derived.Test.YtbpclinijbgchaaTr8
import Derived.Test.YtbpclinijbgchaaFdebuggerref34
namespace Go.Proofs.Ytbpclinijbgchaa
open Go Go.Abs
set_option maxRecDepth 100000
set_option maxHeartbeats 8000000
set_option linter.unusedSimpArgs false
set_option linter.unusedVariables false

theorem vals_row (e : Ep) (rid g : Nat) (zs : List T) (H : Heap) (hr : H[rid]? = some (.row 1 g zs)) (hq : QAt e.queue zs) : toElem H (.agg (e.vals (.sl rid 0 e.queue.length g 1))) = some (.agg (e.cells 1 false zs), H.set rid (.frz 1 g zs)) := by
  have hzt : zs.take e.queue.length = zs := List.take_of_length_le (by rw [hq.1]; omega)
  simp only [Ep.vals, Ep.cells, toElem_agg, toTs_cons, toTs_nil, toT_t]
  have : toT H (.sl rid 0 e.queue.length g 1) = some (.lst 1 false zs, H.set rid (.frz 1 g zs)) := by
    show (match rowOf H[rid]? with
      | some (sz', g', xs) => if g = g' ∧ sz' = 1 then some (T.lst 1 false ((xs.drop 0).take e.queue.length), H.set rid (.frz 1 g' xs)) else none
      | none => none) = _
    rw [hr]
    simp [rowOf, hzt]
  rw [this]

theorem finRecvS {slot id u w rq gq : Nat} {e : Ep} {l : List (List Int)} {ag : Bool} {zq : List T} {y : V} {s : St} (hr : s.h[rq]? = some (.row 1 gq zq)) (hq : QAt e.queue zq) (h1 : get s.vs slot = .ref id 0) (h2 : s.h[id]? = some (.box (e.vals (.sl rq 0 e.queue.length gq 1)))) (h3 : get s.vs u = y) (h4 : get s.vs w = .t (.bool ag))
    (hy : (l = [] ∧ y = .t (.lst 0 true [])) ∨ ∃ rid g zs, y = .sl rid 0 l.length g 1 ∧ QAt l zs ∧ s.h[rid]? = some (.row 1 g zs) ∧ rq ≠ rid) :
    finK 0 [.cell slot 8 false, .tmp u, .tmp w] (RRecv (e, l, ag)) s := by
  have hE := vals_row e rq gq zq s.h hr hq
  obtain ⟨s2, t2, zs, H2, hE2, hs2, hq2⟩ := toElem_out l y (s.h.set rq (.frz 1 gq zq)) (by
    rcases hy with h | ⟨rid, g, zs, h1, h2, h3, h4⟩
    · exact .inl h
    · exact .inr ⟨rid, g, zs, h1, h2, by rw [List.getElem?_set_ne h4, h3]; rfl⟩)
  refine finK_tup (n := 0) [] (c := True) (vs := [.agg (e.vals (.sl rq 0 e.queue.length gq 1)), y, .t (.bool ag)]) (xs := [.agg (e.cells 1 false zq), .lst s2 t2 zs, .bool ag]) (H1 := H2) ?_ trivial ?_ (by simp [keepOk]) ⟨e.cells 1 false zq, s2, t2, zs, ⟨1, false, zq, .inl rfl, hq, rfl⟩, hs2, hq2, rfl, rfl⟩
  · simp [resV, resAll, resOne, h1, h2, h3, h4, kloadN_ref, Ep.vals]
  · simp only [toElems_cons, toElems_nil, hE, hE2, toElem_t]

abbrev rrTail2 : Cd := .seq (.rgn debuggerref35_Receive.r18) (.seq (.seq (.rgn debuggerref35_Receive.r19) (.cond (.tmp 90) (.seq (.seq (.rgn debuggerref35_Receive.r20) (.cond (.tmp 96) (.seq (.rgn debuggerref35_Receive.r21) (.rgn debuggerref35_Receive.r22)) .skip)) (.rgn debuggerref35_Receive.r23)) .skip)) (.seq (.seq (.rgn debuggerref35_Receive.r24) (.cond (.tmp 109) (.rgn debuggerref35_Receive.r25) .skip)) (.seq (.rgn debuggerref35_Receive.r26) .ret)))
abbrev rrTail1 : Cd := .seq (.seq (.rgn debuggerref35_Receive.r10) (.cond (.tmp 47) (.seq (.rgn debuggerref35_Receive.r11) (.seq (.rgn debuggerref35_Receive.r12) .ret)) .skip)) (.seq (.seq (.rgn debuggerref35_Receive.r13) (.seq (.rgn debuggerref35_Receive.r14) (.cond (.tmp 67) (.seq (.rgn debuggerref35_Receive.r15) (.seq (.rgn debuggerref35_Receive.r16) (.rgn debuggerref35_Receive.r17))) .skip))) rrTail2)
abbrev rrMeet : Cd := .seq (.rgn debuggerref35_Receive.r5) (.cond (.tmp 31) (.seq (.seq (.rgn debuggerref35_Receive.r6) (.cond (.tmp 34) (.seq (.rgn debuggerref35_Receive.r7) (.rgn debuggerref35_Receive.r8)) .skip)) (.rgn debuggerref35_Receive.r9)) .skip)

theorem rrecv_tail2 (e : Ep) (hg : 0 ≤ e.got ∧ e.got ≤ 2 ^ 40) (p : Pk) (sz : Nat) (tz : Bool) (hsz : sz = 1 ∨ p.body = []) (ag : Bool) (s : Nat) (t : Bool) (ys : List T) (hs : s = 1 ∨ e.queue = []) (hqa : QAt e.queue ys) (vs : List (Nat × V))
    (v2 : get vs 2 = .ref 0 0) (v4 : get vs 4 = .ref 1 0) (v7 : get vs 7 = .ref 2 0) (v9 : get vs 9 = .t (.bool ag)) :
    wpC (SCall PP) 0 rrTail2 (exitK 0 [.cell 4 8 false, .tmp 5, .tmp 6] (RRecv ((took e p).1, (took e p).2, ag))) ⟨vs, [.box (e.vals (.t (.lst s t ys))), .box [.t (.int .i64 0), .t (.int .i64 0), .t (.int .i64 0), .t (.int .i64 0), .t (.int .i64 0), .t (.int .i64 0), .t (.lst 0 true []), .t (.bool false)], .box ((p.cells sz tz).map V.t)]⟩ := by
  unfold took rrTail2 Ep.vals
  simp only [Pk.cells, List.map_cons, List.map_nil]
  by_cases hk : p.kind = 2
  · have d1 : decide (p.kind = 2) = true := decide_eq_true hk
    have d3 : decide (p.kind = 1) = false := decide_eq_false (by omega)
    rw [if_pos hk]
    by_cases hq : p.seq = e.got + 1
    · have d2 : decide (p.seq = e.got + 1) = true := decide_eq_true hq
      rw [if_pos hq]
      simp (maxSteps := 4000000) -implicitDefEqProofs (disch := omega) only [v2, v4, v7, v9, d1, d2, d3, kstore_ref, putAt_zero, putAt_succ, keff_buildSlice, toElems_cons, toElems_nil, toElem_t, setElems_cons, setElems_nil, elems_lst', kappend_nil, ↓sxPre, sxPost, sxLib, if_true, if_false, Nat.reduceEqDiff, ↓reduceIte, Nat.reduceAdd, Nat.reduceSub, Nat.reduceMul, Nat.reduceLT, Nat.reduceLeDiff, reduceCtorEq, eq_self, K.isEff, List.reduceReplicate]
      refine ⟨by decide, ?_⟩
      exact finRecv (e := { e with got := e.got + 1, owe := true }) (l := [p.body]) (tq := t) hs hqa v4 rfl rfl rfl (.inr ⟨3, 0, _, rfl, QAt.nil.snoc _ hsz, rfl⟩)
    · have d2 : decide (p.seq = e.got + 1) = false := decide_eq_false hq
      rw [if_neg hq]
      simp (maxSteps := 4000000) -implicitDefEqProofs (disch := omega) only [v2, v4, v7, v9, d1, d2, d3, kstore_ref, putAt_zero, putAt_succ, ↓sxPre, sxPost, sxLib, if_true, if_false, Nat.reduceEqDiff, ↓reduceIte, Nat.reduceAdd, Nat.reduceSub, Nat.reduceMul, Nat.reduceLT, Nat.reduceLeDiff, reduceCtorEq, eq_self, K.isEff, List.reduceReplicate]
      exact finRecv (e := { e with owe := true }) (l := []) (tq := t) hs hqa v4 rfl rfl rfl (.inl ⟨rfl, rfl⟩)
  · have d1 : decide (p.kind = 2) = false := decide_eq_false hk
    rw [if_neg hk]
    by_cases hk1 : p.kind = 1
    · have d2 : decide (p.kind = 1) = true := decide_eq_true hk1
      rw [if_pos hk1]
      simp (maxSteps := 4000000) -implicitDefEqProofs (disch := omega) only [v2, v4, v7, v9, d1, d2, kstore_ref, putAt_zero, putAt_succ, ↓sxPre, sxPost, sxLib, if_true, if_false, Nat.reduceEqDiff, ↓reduceIte, Nat.reduceAdd, Nat.reduceSub, Nat.reduceMul, Nat.reduceLT, Nat.reduceLeDiff, reduceCtorEq, eq_self, K.isEff, List.reduceReplicate]
      exact finRecv (e := { e with owe := true }) (l := []) (tq := t) hs hqa v4 rfl rfl rfl (.inl ⟨rfl, rfl⟩)
    · have d2 : decide (p.kind = 1) = false := decide_eq_false hk1
      rw [if_neg hk1]
      simp (maxSteps := 4000000) -implicitDefEqProofs (disch := omega) only [v2, v4, v7, v9, d1, d2, kstore_ref, putAt_zero, putAt_succ, ↓sxPre, sxPost, sxLib, if_true, if_false, Nat.reduceEqDiff, ↓reduceIte, Nat.reduceAdd, Nat.reduceSub, Nat.reduceMul, Nat.reduceLT, Nat.reduceLeDiff, reduceCtorEq, eq_self, K.isEff, List.reduceReplicate]
      exact finRecv (e := e) (l := []) (tq := t) hs hqa v4 rfl rfl rfl (.inl ⟨rfl, rfl⟩)

theorem rrecv_tail2s (e : Ep) (hg : 0 ≤ e.got ∧ e.got ≤ 2 ^ 40) (p : Pk) (sz : Nat) (tz : Bool) (hsz : sz = 1 ∨ p.body = []) (ag : Bool) (g : Nat) (zs : List T) (hqa : QAt e.queue zs) (vs : List (Nat × V))
    (v2 : get vs 2 = .ref 0 0) (v4 : get vs 4 = .ref 1 0) (v7 : get vs 7 = .ref 2 0) (v9 : get vs 9 = .t (.bool ag)) :
    wpC (SCall PP) 0 rrTail2 (exitK 0 [.cell 4 8 false, .tmp 5, .tmp 6] (RRecv ((took e p).1, (took e p).2, ag))) ⟨vs, [.box (e.vals (.sl 3 0 e.queue.length g 1)), .box [.t (.int .i64 0), .t (.int .i64 0), .t (.int .i64 0), .t (.int .i64 0), .t (.int .i64 0), .t (.int .i64 0), .t (.lst 0 true []), .t (.bool false)], .box ((p.cells sz tz).map V.t), .row 1 g zs]⟩ := by
  unfold took rrTail2 Ep.vals
  simp only [Pk.cells, List.map_cons, List.map_nil]
  by_cases hk : p.kind = 2
  · have d1 : decide (p.kind = 2) = true := decide_eq_true hk
    have d3 : decide (p.kind = 1) = false := decide_eq_false (by omega)
    rw [if_pos hk]
    by_cases hq : p.seq = e.got + 1
    · have d2 : decide (p.seq = e.got + 1) = true := decide_eq_true hq
      rw [if_pos hq]
      simp (maxSteps := 4000000) -implicitDefEqProofs (disch := omega) only [v2, v4, v7, v9, d1, d2, d3, kstore_ref, putAt_zero, putAt_succ, keff_buildSlice, toElems_cons, toElems_nil, toElem_t, setElems_cons, setElems_nil, elems_lst', kappend_nil, ↓sxPre, sxPost, sxLib, if_true, if_false, Nat.reduceEqDiff, ↓reduceIte, Nat.reduceAdd, Nat.reduceSub, Nat.reduceMul, Nat.reduceLT, Nat.reduceLeDiff, reduceCtorEq, eq_self, K.isEff, List.reduceReplicate]
      refine ⟨by decide, ?_⟩
      exact finRecvS (rq := 3) (gq := g) (zq := zs) (e := { e with got := e.got + 1, owe := true }) (l := [p.body]) rfl hqa v4 rfl rfl rfl (.inr ⟨4, 0, _, rfl, QAt.nil.snoc _ hsz, rfl, by decide⟩)
    · have d2 : decide (p.seq = e.got + 1) = false := decide_eq_false hq
      rw [if_neg hq]
      simp (maxSteps := 4000000) -implicitDefEqProofs (disch := omega) only [v2, v4, v7, v9, d1, d2, d3, kstore_ref, putAt_zero, putAt_succ, ↓sxPre, sxPost, sxLib, if_true, if_false, Nat.reduceEqDiff, ↓reduceIte, Nat.reduceAdd, Nat.reduceSub, Nat.reduceMul, Nat.reduceLT, Nat.reduceLeDiff, reduceCtorEq, eq_self, K.isEff, List.reduceReplicate]
      exact finRecvS (rq := 3) (gq := g) (zq := zs) (e := { e with owe := true }) (l := []) rfl hqa v4 rfl rfl rfl (.inl ⟨rfl, rfl⟩)
  · have d1 : decide (p.kind = 2) = false := decide_eq_false hk
    rw [if_neg hk]
    by_cases hk1 : p.kind = 1
    · have d2 : decide (p.kind = 1) = true := decide_eq_true hk1
      rw [if_pos hk1]
      simp (maxSteps := 4000000) -implicitDefEqProofs (disch := omega) only [v2, v4, v7, v9, d1, d2, kstore_ref, putAt_zero, putAt_succ, ↓sxPre, sxPost, sxLib, if_true, if_false, Nat.reduceEqDiff, ↓reduceIte, Nat.reduceAdd, Nat.reduceSub, Nat.reduceMul, Nat.reduceLT, Nat.reduceLeDiff, reduceCtorEq, eq_self, K.isEff, List.reduceReplicate]
      exact finRecvS (rq := 3) (gq := g) (zq := zs) (e := { e with owe := true }) (l := []) rfl hqa v4 rfl rfl rfl (.inl ⟨rfl, rfl⟩)
    · have d2 : decide (p.kind = 1) = false := decide_eq_false hk1
      rw [if_neg hk1]
      simp (maxSteps := 4000000) -implicitDefEqProofs (disch := omega) only [v2, v4, v7, v9, d1, d2, kstore_ref, putAt_zero, putAt_succ, ↓sxPre, sxPost, sxLib, if_true, if_false, Nat.reduceEqDiff, ↓reduceIte, Nat.reduceAdd, Nat.reduceSub, Nat.reduceMul, Nat.reduceLT, Nat.reduceLeDiff, reduceCtorEq, eq_self, K.isEff, List.reduceReplicate]
      exact finRecvS (rq := 3) (gq := g) (zq := zs) (e := e) (l := []) rfl hqa v4 rfl rfl rfl (.inl ⟨rfl, rfl⟩)

theorem rrecv_tail1 (e : Ep) (hF : e.Fine) (p : Pk) (hpa : 0 ≤ p.ack ∧ p.ack ≤ 2 ^ 30) (sz : Nat) (tz : Bool) (hsz : sz = 1 ∨ p.body = []) (ag : Bool) (s : Nat) (t : Bool) (ys : List T) (hs : s = 1 ∨ e.queue = []) (hqa : QAt e.queue ys) (vs : List (Nat × V))
    (v2 : get vs 2 = .ref 0 0) (v4 : get vs 4 = .ref 1 0) (v7 : get vs 7 = .ref 2 0) (v9 : get vs 9 = .t (.bool ag)) :
    wpC (SCall PP) 0 rrTail1 (exitK 0 [.cell 4 8 false, .tmp 5, .tmp 6] (RRecv (if p.dst ≠ e.epoch then ({ e with owe := true }, [], ag) else ((took (ackd e p) p).1, (took (ackd e p) p).2, ag)))) ⟨vs, [.box (e.vals (.t (.lst s t ys))), .box [.t (.int .i64 0), .t (.int .i64 0), .t (.int .i64 0), .t (.int .i64 0), .t (.int .i64 0), .t (.int .i64 0), .t (.lst 0 true []), .t (.bool false)], .box ((p.cells sz tz).map V.t)]⟩ := by
  obtain ⟨⟨n1, n2⟩, ⟨n3, n4⟩, ⟨n5, n6⟩, ⟨n7, n8⟩, ⟨n9, n10⟩, ⟨n11, n12⟩, hql, hqb⟩ := id hF
  have hyl := hqa.1
  by_cases hd : p.dst = e.epoch
  case neg =>
    have d1 : decide (p.dst = e.epoch) = false := decide_eq_false hd
    rw [if_pos hd]
    unfold rrTail1 Ep.vals
    simp only [Pk.cells, List.map_cons, List.map_nil]
    simp (maxSteps := 4000000) -implicitDefEqProofs (disch := omega) only [v2, v4, v7, v9, d1, kstore_ref, putAt_zero, putAt_succ, ↓sxPre, sxPost, sxLib, if_true, if_false, Nat.reduceEqDiff, ↓reduceIte, Nat.reduceAdd, Nat.reduceSub, Nat.reduceMul, Nat.reduceLT, Nat.reduceLeDiff, reduceCtorEq, eq_self, K.isEff, List.reduceReplicate]
    exact finRecv (e := { e with owe := true }) (l := []) (tq := t) hs hqa v4 rfl rfl rfl (.inl ⟨rfl, rfl⟩)
  have d1 : decide (p.dst = e.epoch) = true := decide_eq_true hd
  rw [if_neg (by simp [hd])]
  have tail : ackd e p = e → ∀ (vs : List (Nat × V)), get vs 2 = .ref 0 0 → get vs 4 = .ref 1 0 → get vs 7 = .ref 2 0 → get vs 9 = .t (.bool ag) →
      wpC (SCall PP) 0 rrTail2 (exitK 0 [.cell 4 8 false, .tmp 5, .tmp 6] (RRecv ((took (ackd e p) p).1, (took (ackd e p) p).2, ag))) ⟨vs, [.box (e.vals (.t (.lst s t ys))), .box [.t (.int .i64 0), .t (.int .i64 0), .t (.int .i64 0), .t (.int .i64 0), .t (.int .i64 0), .t (.int .i64 0), .t (.lst 0 true []), .t (.bool false)], .box ((p.cells sz tz).map V.t)]⟩ := by
    intro h vs v2 v4 v7 v9
    rw [h]
    exact rrecv_tail2 e ⟨by omega, by omega⟩ p sz tz hsz ag s t ys hs hqa vs v2 v4 v7 v9
  have tails : ∀ (e2 : Ep) (hg : 0 ≤ e2.got ∧ e2.got ≤ 2 ^ 40) (g n : Nat) (zs : List T) (hqa : QAt e2.queue zs), e2.queue.length = n → ackd e p = e2 → ∀ (vs : List (Nat × V)), get vs 2 = .ref 0 0 → get vs 4 = .ref 1 0 → get vs 7 = .ref 2 0 → get vs 9 = .t (.bool ag) →
      wpC (SCall PP) 0 rrTail2 (exitK 0 [.cell 4 8 false, .tmp 5, .tmp 6] (RRecv ((took (ackd e p) p).1, (took (ackd e p) p).2, ag))) ⟨vs, [.box (e2.vals (.sl 3 0 n g 1)), .box [.t (.int .i64 0), .t (.int .i64 0), .t (.int .i64 0), .t (.int .i64 0), .t (.int .i64 0), .t (.int .i64 0), .t (.lst 0 true []), .t (.bool false)], .box ((p.cells sz tz).map V.t), .row 1 g zs]⟩ := by
    intro e2 hg g n zs hqa hn h vs v2 v4 v7 v9
    rw [h, ← hn]
    exact rrecv_tail2s e2 hg p sz tz hsz ag g zs hqa vs v2 v4 v7 v9
  unfold rrTail1
  generalize rrTail2 = TT at tail tails ⊢
  unfold Ep.vals at tail tails ⊢
  simp only [Pk.cells, List.map_cons, List.map_nil] at tail tails ⊢
  by_cases h1 : e.acked < p.ack
  case neg =>
    have c1 : decide (e.acked < p.ack) = false := decide_eq_false h1
    simp (maxSteps := 4000000) -implicitDefEqProofs (disch := omega) only [v2, v4, v7, v9, d1, c1, kstore_ref, putAt_zero, putAt_succ, ↓sxPre, sxPost, sxLib, if_true, if_false, Nat.reduceEqDiff, ↓reduceIte, Nat.reduceAdd, Nat.reduceSub, Nat.reduceMul, Nat.reduceLT, Nat.reduceLeDiff, reduceCtorEq, eq_self, K.isEff, List.reduceReplicate]
    exact tail (if_neg (fun h => h1 h.1)) _ v2 v4 v7 v9
  have c1 : decide (e.acked < p.ack) = true := decide_eq_true h1
  by_cases h3 : p.ack - e.acked ≤ e.queue.length
  case neg =>
    have c3 : decide (p.ack ≤ e.acked + e.queue.length) = false := decide_eq_false (by omega)
    simp (maxSteps := 4000000) -implicitDefEqProofs (disch := omega) only [v2, v4, v7, v9, d1, c1, c3, hyl, kstore_ref, putAt_zero, putAt_succ, ↓sxPre, sxPost, sxLib, if_true, if_false, Nat.reduceEqDiff, ↓reduceIte, Nat.reduceAdd, Nat.reduceSub, Nat.reduceMul, Nat.reduceLT, Nat.reduceLeDiff, reduceCtorEq, eq_self, K.isEff, List.reduceReplicate]
    exact tail (if_neg (fun h => h3 h.2)) _ v2 v4 v7 v9
  have c3 : decide (p.ack ≤ e.acked + e.queue.length) = true := decide_eq_true (by omega)
  have htk : ys.take e.queue.length = ys := List.take_of_length_le (by omega)
  have hys : s = 1 ∨ ys = [] := hs.imp id (fun h => by rw [h] at hyl; exact List.length_eq_zero_iff.1 hyl)
  have hqd := hqa.drop (p.ack - e.acked).toNat
  have hs2 : s = 1 ∨ e.queue.drop (p.ack - e.acked).toNat = [] := hs.imp id (fun h => by rw [h]; simp)
  have helem : ∀ tt : Bool, ∀ H, elems H 1 (.t (.lst s tt (ys.drop (p.ack - e.acked).toNat))) = some (ys.drop (p.ack - e.acked).toNat) := fun tt => elems_q (t := tt) hs2 hqd.1
  simp (maxSteps := 4000000) -implicitDefEqProofs (disch := omega) only [v2, v4, v7, v9, d1, c1, c3, hyl, htk, helem, kstore_ref, putAt_zero, putAt_succ, keff_buildSlice, toElems_nil, setElems_nil, kappend_nil, ↓sxPre, sxPost, sxLib, if_true, if_false, Nat.reduceEqDiff, ↓reduceIte, Nat.reduceAdd, Nat.reduceSub, Nat.reduceMul, Nat.reduceLT, Nat.reduceLeDiff, reduceCtorEq, eq_self, K.isEff, List.reduceReplicate]
  have hdl := hqd.1
  refine ⟨⟨hys, by omega, by omega⟩, by rw [List.length_drop]; omega, ?_⟩
  exact tails { e with queue := e.queue.drop (p.ack - e.acked).toNat, acked := p.ack, sent := if e.sent < p.ack then p.ack else e.sent } ⟨by simp only; omega, by simp only; omega⟩ 0 _ _ hqd hdl.symm (if_pos ⟨h1, h3⟩) _ v2 v4 v7 v9

theorem rtRecv_sc (e : Ep) (cs : List T) (hA : e.At cs) (hF : e.Fine) (b : List Int) (hb : Bytes b) (hl : b.length ≤ 2 ^ 40) (tb : Bool) : SCall PP N.debuggerref35_Receive [.agg (cs.map V.t), .t (.lst 1 tb (B b))] [] (RRecv (recv e b)) := by
  refine debuggerref35_Receive.intro (by simp) ?_
  change wpC (SCall PP) 0 (.seq (.rgn debuggerref35_Receive.r0) (.seq (.rgn debuggerref35_Receive.r1) (.seq (.seq (.rgn debuggerref35_Receive.r2) (.cond (.tmp 25) (.seq (.rgn debuggerref35_Receive.r3) .ret) .skip)) (.seq (.rgn debuggerref35_Receive.r4) (.seq rrMeet rrTail1))))) _ _
  have cD := RDec.frozen (rDecode_sc b hb hl tb)
  obtain ⟨f1, f2⟩ := dec_facts hb
  obtain ⟨s, t, ys, hs, hqa, rfl⟩ := hA
  obtain ⟨⟨n1, n2⟩, ⟨n3, n4⟩, ⟨n5, n6⟩, ⟨n7, n8⟩, ⟨n9, n10⟩, ⟨n11, n12⟩, hql, hqb⟩ := id hF
  unfold recv
  generalize dec b = D at *
  obtain ⟨p, er⟩ := D
  simp only [Ep.cells, List.map_cons, List.map_nil] at *
  simp (maxSteps := 4000000) -implicitDefEqProofs (disch := omega) only [↓sxPre, sxPost, sxLib, if_true, if_false, Nat.reduceEqDiff, ↓reduceIte, Nat.reduceAdd, Nat.reduceSub, Nat.reduceMul, Nat.reduceLT, Nat.reduceLeDiff, reduceCtorEq, eq_self, K.isEff, List.reduceReplicate]
  refine step_decT (D := (p, er)) ?_ fun sz tz hsz => ?_
  · simpa [V.ren, V.renL, Abs.get, ev] using cD
  simp only [Pk.cells]
  by_cases he : er = 0
  case neg =>
    have d1 : decide (er = 0) = false := decide_eq_false he
    rw [if_pos (.inl he)]
    simp (maxSteps := 4000000) -implicitDefEqProofs (disch := omega) only [d1, kstore_ref, putAt_zero, putAt_succ, ↓sxPre, sxPost, sxLib, if_true, if_false, Nat.reduceEqDiff, ↓reduceIte, Nat.reduceAdd, Nat.reduceSub, Nat.reduceMul, Nat.reduceLT, Nat.reduceLeDiff, reduceCtorEq, eq_self, K.isEff, List.reduceReplicate]
    exact finRecv (e := e) (l := []) (tq := t) hs hqa rfl rfl rfl rfl (.inl ⟨rfl, rfl⟩)
  have d1 : decide (er = 0) = true := decide_eq_true he
  obtain ⟨hr, hpb⟩ := f1 he
  simp only [Pk.right, decide_eq_true_eq] at hr
  by_cases hs1 : p.src < e.peer
  · have d2 : decide (p.src < e.peer) = true := decide_eq_true hs1
    rw [if_pos (.inr hs1)]
    simp (maxSteps := 4000000) -implicitDefEqProofs (disch := omega) only [d1, d2, kstore_ref, putAt_zero, putAt_succ, ↓sxPre, sxPost, sxLib, if_true, if_false, Nat.reduceEqDiff, ↓reduceIte, Nat.reduceAdd, Nat.reduceSub, Nat.reduceMul, Nat.reduceLT, Nat.reduceLeDiff, reduceCtorEq, eq_self, K.isEff, List.reduceReplicate]
    exact finRecv (e := e) (l := []) (tq := t) hs hqa rfl rfl rfl rfl (.inl ⟨rfl, rfl⟩)
  have d2 : decide (p.src < e.peer) = false := decide_eq_false hs1
  rw [if_neg (fun h => h.elim (fun h => h he) (fun h => hs1 h))]
  have tail : ∀ (e1 : Ep) (ag : Bool) (s : Nat) (t : Bool) (ys : List T), (s = 1 ∨ e1.queue = []) → QAt e1.queue ys → meet e p = e1 → e1.Fine → decide (e.peer < p.src ∧ e.peer ≠ 0) = ag → ∀ (vs : List (Nat × V)), get vs 2 = .ref 0 0 → get vs 4 = .ref 1 0 → get vs 7 = .ref 2 0 → get vs 9 = .t (.bool ag) →
      wpC (SCall PP) 0 rrTail1 (exitK 0 [.cell 4 8 false, .tmp 5, .tmp 6] (RRecv (if p.dst ≠ (meet e p).epoch then ({ meet e p with owe := true }, [], decide (e.peer < p.src ∧ e.peer ≠ 0)) else ((took (ackd (meet e p) p) p).1, (took (ackd (meet e p) p) p).2, decide (e.peer < p.src ∧ e.peer ≠ 0))))) ⟨vs, [.box (e1.vals (.t (.lst s t ys))), .box [.t (.int .i64 0), .t (.int .i64 0), .t (.int .i64 0), .t (.int .i64 0), .t (.int .i64 0), .t (.int .i64 0), .t (.lst 0 true []), .t (.bool false)], .box ((p.cells sz tz).map V.t)]⟩ := by
    intro e1 ag s t ys hs hqa h1 hF1 h2 vs v2 v4 v7 v9
    rw [h1, h2]
    exact rrecv_tail1 e1 hF1 p ⟨by omega, by omega⟩ sz tz hsz ag s t ys hs hqa vs v2 v4 v7 v9
  generalize rrTail1 = TT at tail ⊢
  generalize (if p.dst ≠ (meet e p).epoch then ({ meet e p with owe := true }, [], decide (e.peer < p.src ∧ e.peer ≠ 0)) else ((took (ackd (meet e p) p) p).1, (took (ackd (meet e p) p) p).2, decide (e.peer < p.src ∧ e.peer ≠ 0))) = RR at tail ⊢
  unfold Ep.vals at tail
  simp only [Pk.cells, List.map_cons, List.map_nil] at tail
  by_cases hs2 : e.peer < p.src
  case neg =>
    have d3 : decide (e.peer < p.src) = false := decide_eq_false hs2
    simp (maxSteps := 4000000) -implicitDefEqProofs (disch := omega) only [d1, d2, d3, kstore_ref, putAt_zero, putAt_succ, ↓sxPre, sxPost, sxLib, if_true, if_false, Nat.reduceEqDiff, ↓reduceIte, Nat.reduceAdd, Nat.reduceSub, Nat.reduceMul, Nat.reduceLT, Nat.reduceLeDiff, reduceCtorEq, eq_self, K.isEff, List.reduceReplicate]
    exact tail e false s t ys hs hqa (if_neg hs2) hF (decide_eq_false (fun h => hs2 h.1)) _ rfl rfl rfl rfl
  have d3 : decide (e.peer < p.src) = true := decide_eq_true hs2
  by_cases hp0 : e.peer = 0
  · have d4 : decide (e.peer = 0) = true := decide_eq_true hp0
    simp (maxSteps := 4000000) -implicitDefEqProofs (disch := omega) only [d1, d2, d3, d4, kstore_ref, putAt_zero, putAt_succ, ↓sxPre, sxPost, sxLib, if_true, if_false, Nat.reduceEqDiff, ↓reduceIte, Nat.reduceAdd, Nat.reduceSub, Nat.reduceMul, Nat.reduceLT, Nat.reduceLeDiff, reduceCtorEq, eq_self, K.isEff, List.reduceReplicate]
    refine tail { e with peer := p.src, acked := 0, sent := 0, got := 0, timer := 0 } false s t ys hs hqa ?_ ⟨⟨n1, n2⟩, ⟨by simp only; omega, by simp only; omega⟩, ⟨by simp, by simp⟩, ⟨by simp, by simp⟩, ⟨by simp, by simp⟩, ⟨by simp, by simp⟩, hql, hqb⟩ (decide_eq_false (fun h => h.2 hp0)) _ rfl rfl rfl rfl
    unfold meet
    rw [if_pos hs2, if_neg (by simp [hp0])]
  · have d4 : decide (e.peer = 0) = false := decide_eq_false hp0
    simp (maxSteps := 4000000) -implicitDefEqProofs (disch := omega) only [d1, d2, d3, d4, kstore_ref, putAt_zero, putAt_succ, ↓sxPre, sxPost, sxLib, if_true, if_false, Nat.reduceEqDiff, ↓reduceIte, Nat.reduceAdd, Nat.reduceSub, Nat.reduceMul, Nat.reduceLT, Nat.reduceLeDiff, reduceCtorEq, eq_self, K.isEff, List.reduceReplicate]
    refine tail { e with queue := [], peer := p.src, acked := 0, sent := 0, got := 0, timer := 0 } true 0 true [] (.inr rfl) QAt.nil ?_ ⟨⟨n1, n2⟩, ⟨by simp only; omega, by simp only; omega⟩, ⟨by simp, by simp⟩, ⟨by simp, by simp⟩, ⟨by simp, by simp⟩, ⟨by simp, by simp⟩, by simp, (fun b hb => by cases hb)⟩ (decide_eq_true ⟨hs2, hp0⟩) _ rfl rfl rfl rfl
    unfold meet
    rw [if_pos hs2, if_pos hp0]
end Go.Proofs.Ytbpclinijbgchaa
