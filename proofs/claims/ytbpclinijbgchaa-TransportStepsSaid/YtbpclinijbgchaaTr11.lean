/- TransportSteps: what the law returns. By the session itself. -/
import Derived.Test.YtbpclinijbgchaaTr10
namespace Go.Proofs.Ytbpclinijbgchaa
open Go Go.Abs
set_option maxRecDepth 100000
set_option maxHeartbeats 8000000
set_option linter.unusedSimpArgs false
set_option linter.unusedVariables false

/-- The packet that the law makes of another one. -/
def stepP (p : Pk) : Pk := if 1 + p.kind % 3 = 2 then ⟨2, 1 + p.src % 7, p.dst % 8, 1 + p.seq % 60, p.ack % 60, p.body⟩ else ⟨1 + p.kind % 3, 1 + p.src % 7, p.dst % 8, 0, p.ack % 60, []⟩

theorem stepP_ok {p : Pk} (hb : Bytes p.body) (hl : p.body.length ≤ 300) : (stepP p).Ok ∧ (stepP p).right = true := by
  unfold stepP
  split
  · refine ⟨⟨⟨?_, ?_⟩, ⟨?_, ?_⟩, ⟨?_, ?_⟩, ⟨?_, ?_⟩, ⟨?_, ?_⟩, hb, ?_⟩, ?_⟩ <;> simp [Pk.right] <;> omega
  · refine ⟨⟨⟨?_, ?_⟩, ⟨?_, ?_⟩, ⟨?_, ?_⟩, ⟨?_, ?_⟩, ⟨?_, ?_⟩, (fun x hx => by cases hx), ?_⟩, ?_⟩ <;> simp [Pk.right] <;> omega

theorem SCall.tagg2 {P : Program} {f : FuncId} {c1 c2 : List T} {H : Heap} {Q : V → Heap → Prop} (h : SCall P f [.agg (c1.map V.t), .agg (c2.map V.t)] H Q) : SCall P f [.t (.agg c1), .t (.agg c2)] H Q :=
  SCall.argOf 0 rfl (fun _ _ _ _ h => rv_tagg h) (SCall.argOf 1 rfl (fun _ _ _ _ h => rv_tagg h) h)

theorem MS_l0 (Q : Ex → St → Prop) (E : Ep) (hF : E.Fine) (s1 : Nat) (t1 : Bool) (y1 : List T) (hs1 : s1 = 1 ∨ E.queue = []) (hq1 : QAt E.queue y1) (epoch : Int) (L : List T) (hLat : ∀ i, i < 2 → ∃ l : List Int, Bytes l ∧ l.length ≤ 2 ^ 40 ∧ T.at L i = .lst 1 false (B l)) (hLl : L.length = 2) (st : St)
    (hk : keepOk 0 [0, 2] st.h.length) (hst : gcSt [4, 5, 11, 103, 104, 105] [0, 2] st = ⟨[(4, .t (.int .i64 epoch)), (5, .ref 0 0), (11, .ref 1 0), (103, .t (.lst 1 true L)), (104, .t (.int .i64 2)), (105, .t (.int .i64 0))], [.box [.t (.int .i64 E.epoch), .t (.int .i64 E.peer), .t (.int .i64 E.acked), .t (.int .i64 E.sent), .t (.int .i64 E.got), .t (.int .i64 E.timer), .t (.lst s1 t1 y1), .t (.bool E.owe)], .box [.t (.int .i64 E.epoch), .t (.int .i64 E.peer), .t (.int .i64 E.acked), .t (.int .i64 E.sent), .t (.int .i64 E.got), .t (.int .i64 E.timer), .t (.lst s1 t1 y1), .t (.bool E.owe)]]⟩)
    (hQ : ∀ (vs : List (Nat × V)) (H : Heap), get vs 4 = .t (.int .i64 epoch) → Q .norm ⟨vs, H⟩) :
    wpC (SCall PP) 0 (.loop debuggerlaw35_TransportSteps.l0) (blockK 0 Q) st := by
  refine wpC_loop_any [4, 5, 11, 103, 104, 105] (fun m st => ∃ i : Nat, m + i = 2 ∧ st = ⟨[(4, .t (.int .i64 epoch)), (5, .ref 0 0), (11, .ref 1 0), (103, .t (.lst 1 true L)), (104, .t (.int .i64 2)), (105, .t (.int .i64 i))], [.box [.t (.int .i64 E.epoch), .t (.int .i64 E.peer), .t (.int .i64 E.acked), .t (.int .i64 E.sent), .t (.int .i64 E.got), .t (.int .i64 E.timer), .t (.lst s1 t1 y1), .t (.bool E.owe)], .box [.t (.int .i64 E.epoch), .t (.int .i64 E.peer), .t (.int .i64 E.acked), .t (.int .i64 E.sent), .t (.int .i64 E.got), .t (.int .i64 E.timer), .t (.lst s1 t1 y1), .t (.bool E.owe)]]⟩) 2
    ⟨[0, 2], hk, 0, by omega, by rw [hst]; rfl⟩ ?_
  clear hst hk st
  rintro m st ⟨i, hm, rfl⟩
  by_cases hi : i < 2
  case neg =>
    have hi' : ¬ (i : Int) < 2 := by omega
    simp (maxSteps := 4000000) -implicitDefEqProofs (disch := omega) only [hi', ↓sxPre, sxPost, sxLib, if_true, if_false, Nat.reduceEqDiff, ↓reduceIte, Nat.reduceAdd, Nat.reduceSub, Nat.reduceMul, Nat.reduceLT, Nat.reduceLeDiff, reduceCtorEq, eq_self, K.isEff, List.reduceReplicate]
    exact hQ _ _ rfl
  have hi' : (i : Int) < 2 := by omega
  obtain ⟨b, hb, lb, hat⟩ := hLat i hi
  have hA1 : E.At (E.cells s1 t1 y1) := ⟨s1, t1, y1, hs1, hq1, rfl⟩
  have cR1 := tRecv_sc E _ hA1 hF b hb lb false
  have cR2 := rtRecv_sc E _ hA1 hF b hb lb false
  obtain ⟨ok1, ok2, ok3⟩ := recv_ok hF b hb
  generalize recv E b = D at *
  obtain ⟨e', l, ag⟩ := D
  simp only at ok1 ok2 ok3
  simp only [Ep.cells, List.map_cons, List.map_nil] at cR1 cR2
  simp (maxSteps := 4000000) -implicitDefEqProofs (disch := omega) only [hi', hLl, Int.toNat_natCast, hat, at_zero, ↓sxPre, sxPost, sxLib, if_true, if_false, Nat.reduceEqDiff, ↓reduceIte, Nat.reduceAdd, Nat.reduceSub, Nat.reduceMul, Nat.reduceLT, Nat.reduceLeDiff, reduceCtorEq, eq_self, K.isEff, List.reduceReplicate]
  refine ⟨⟨by omega, by omega⟩, ?_⟩
  refine step_recv (D := (e', l, ag)) ?_ fun c2 s2 t2 z2 hA2 hs2 hq2 => ?_
  · simpa [V.ren, V.renL, Abs.get, ev] using cR1
  obtain ⟨s2', t2', y2, hs2', hq2', rfl⟩ := id hA2
  simp only [Ep.cells]
  simp (maxSteps := 4000000) -implicitDefEqProofs (disch := omega) only [kstore_ref, putAt_zero, putAt_succ, ↓sxPre, sxPost, sxLib, if_true, if_false, Nat.reduceEqDiff, ↓reduceIte, Nat.reduceAdd, Nat.reduceSub, Nat.reduceMul, Nat.reduceLT, Nat.reduceLeDiff, reduceCtorEq, eq_self, K.isEff, List.reduceReplicate]
  refine step_recv (D := (e', l, ag)) ?_ fun c3 s3 t3 z3 hA3 hs3 hq3 => ?_
  · simpa [V.ren, V.renL, Abs.get, ev] using cR2
  obtain ⟨s3', t3', y3, hs3', hq3', rfl⟩ := id hA3
  have cS := same35_sc e' _ _ hA2 hA3 ok1
  have cB := bodies_sc l ok2 ok3 s2 s3 t2 t3 z2 z3 hs2 hs3 hq2 hq3
  simp only [Ep.cells, List.map_cons, List.map_nil] at cS ⊢
  have d9 : (ag != ag) = false := by cases ag <;> rfl
  have d8 : decide (ag = ag) = true := decide_eq_true rfl
  simp (maxSteps := 4000000) -implicitDefEqProofs (disch := omega) only [kstore_ref, putAt_zero, putAt_succ, ↓sxPre, sxPost, sxLib, if_true, if_false, Nat.reduceEqDiff, ↓reduceIte, Nat.reduceAdd, Nat.reduceSub, Nat.reduceMul, Nat.reduceLT, Nat.reduceLeDiff, reduceCtorEq, eq_self, K.isEff, List.reduceReplicate]
  refine step_tree (x := .bool true) ?_ rfl ?_
  · simpa [Abs.view, viewL, Abs.get, ev] using cS
  simp (maxSteps := 4000000) -implicitDefEqProofs (disch := omega) only [d8, d9, ↓sxPre, sxPost, sxLib, if_true, if_false, Nat.reduceEqDiff, ↓reduceIte, Nat.reduceAdd, Nat.reduceSub, Nat.reduceMul, Nat.reduceLT, Nat.reduceLeDiff, reduceCtorEq, eq_self, K.isEff, List.reduceReplicate]
  refine step_guard rfl (fun _ => step_tree (x := .bool true) ?_ rfl ?_) (fun h => absurd rfl h)
  · simpa [Abs.view, viewL, Abs.get, ev] using cB
  simp (maxSteps := 4000000) -implicitDefEqProofs (disch := omega) only [↓sxPre, sxPost, sxLib, if_true, if_false, Nat.reduceEqDiff, ↓reduceIte, Nat.reduceAdd, Nat.reduceSub, Nat.reduceMul, Nat.reduceLT, Nat.reduceLeDiff, reduceCtorEq, eq_self, K.isEff, List.reduceReplicate]
  refine ⟨m - 1, by omega, [0, 1], by simp [gcSt, keepOk, finG, resV, resOne, resAll, idx, V.ren, V.renL, Obj.ren, get_cons, get_nil, RTree, RTup, RRow], i + 1, by omega, by simp [gcSt, keepOk, finG, resV, resOne, resAll, idx, V.ren, V.renL, Obj.ren, get_cons, get_nil, RTree, RTup, RRow]⟩

theorem TransportSteps_main (e : Ep) (cs : List T) (hA : e.At cs) (hqb : ∀ b ∈ e.queue, Bytes b) (p : Pk) (hp : p.Ok) (raw : List Int) (hraw : Bytes raw) (hrl : raw.length ≤ 2 ^ 47) (now epoch : Int) :
    SCall PP N.debuggerlaw35_TransportSteps [.t (.agg cs), .t (.agg (p.cells 1 false)), .t (.lst 1 false (B raw)), .t (.int .i64 now), .t (.int .i64 epoch)] [] (RTree (.bool true)) := by
  refine debuggerlaw35_TransportSteps.intro (by simp) ?_
  obtain ⟨s, t, ys, hs, hqa, rfl⟩ := id hA
  have cL := large_sc e.queue s t ys hs hqa
  by_cases hL : Little e.queue
  case neg =>
    rw [decide_eq_true (show ¬ Little e.queue from hL)] at cL
    simp only [Ep.cells, Pk.cells]
    simp (maxSteps := 4000000) -implicitDefEqProofs (disch := omega) only [↓sxPre, sxPost, sxLib, if_true, if_false, Nat.reduceEqDiff, ↓reduceIte, Nat.reduceAdd, Nat.reduceSub, Nat.reduceMul, Nat.reduceLT, Nat.reduceLeDiff, reduceCtorEq, eq_self, K.isEff, List.reduceReplicate]
    refine step_tree (x := .bool true) ?_ rfl ?_
    · simpa [Abs.view, viewL, Abs.get, ev] using cL
    simp (maxSteps := 4000000) -implicitDefEqProofs (disch := omega) only [↓sxPre, sxPost, sxLib, if_true, if_false, Nat.reduceEqDiff, ↓reduceIte, Nat.reduceAdd, Nat.reduceSub, Nat.reduceMul, Nat.reduceLT, Nat.reduceLeDiff, reduceCtorEq, eq_self, K.isEff, List.reduceReplicate]
    refine step_tree awake35_sc rfl ?_
    simp (maxSteps := 4000000) -implicitDefEqProofs (disch := omega) only [↓sxPre, sxPost, sxLib, if_true, if_false, Nat.reduceEqDiff, ↓reduceIte, Nat.reduceAdd, Nat.reduceSub, Nat.reduceMul, Nat.reduceLT, Nat.reduceLeDiff, reduceCtorEq, eq_self, K.isEff, List.reduceReplicate]
    refine finK_gc [] ?_
    simp [gcSt, keepOk, finG, resV, resOne, resAll, idx, V.ren, V.renL, Obj.ren, get_cons, get_nil, RTree, RTup, RRow]
  have hLf : decide (¬ Little e.queue) = false := decide_eq_false (fun h => h hL)
  rw [hLf] at cL
  cases d1 : decide ((300 : Int) < p.body.length) with
  | true =>
    simp only [Ep.cells, Pk.cells]
    simp (maxSteps := 4000000) -implicitDefEqProofs (disch := omega) only [↓sxPre, sxPost, sxLib, if_true, if_false, Nat.reduceEqDiff, ↓reduceIte, Nat.reduceAdd, Nat.reduceSub, Nat.reduceMul, Nat.reduceLT, Nat.reduceLeDiff, reduceCtorEq, eq_self, K.isEff, List.reduceReplicate]
    refine step_tree (x := .bool false) ?_ rfl ?_
    · simpa [Abs.view, viewL, Abs.get, ev] using cL
    simp (maxSteps := 4000000) -implicitDefEqProofs (disch := omega) only [B_length, d1, ↓sxPre, sxPost, sxLib, if_true, if_false, Nat.reduceEqDiff, ↓reduceIte, Nat.reduceAdd, Nat.reduceSub, Nat.reduceMul, Nat.reduceLT, Nat.reduceLeDiff, reduceCtorEq, eq_self, K.isEff, List.reduceReplicate]
    refine step_tree awake35_sc rfl ?_
    simp (maxSteps := 4000000) -implicitDefEqProofs (disch := omega) only [↓sxPre, sxPost, sxLib, if_true, if_false, Nat.reduceEqDiff, ↓reduceIte, Nat.reduceAdd, Nat.reduceSub, Nat.reduceMul, Nat.reduceLT, Nat.reduceLeDiff, reduceCtorEq, eq_self, K.isEff, List.reduceReplicate]
    refine finK_gc [] ?_
    simp [gcSt, keepOk, finG, resV, resOne, resAll, idx, V.ren, V.renL, Obj.ren, get_cons, get_nil, RTree, RTup, RRow]
  | false =>
  cases d2 : decide ((500 : Int) < raw.length) with
  | true =>
    simp only [Ep.cells, Pk.cells]
    simp (maxSteps := 4000000) -implicitDefEqProofs (disch := omega) only [↓sxPre, sxPost, sxLib, if_true, if_false, Nat.reduceEqDiff, ↓reduceIte, Nat.reduceAdd, Nat.reduceSub, Nat.reduceMul, Nat.reduceLT, Nat.reduceLeDiff, reduceCtorEq, eq_self, K.isEff, List.reduceReplicate]
    refine step_tree (x := .bool false) ?_ rfl ?_
    · simpa [Abs.view, viewL, Abs.get, ev] using cL
    simp (maxSteps := 4000000) -implicitDefEqProofs (disch := omega) only [B_length, d1, d2, ↓sxPre, sxPost, sxLib, if_true, if_false, Nat.reduceEqDiff, ↓reduceIte, Nat.reduceAdd, Nat.reduceSub, Nat.reduceMul, Nat.reduceLT, Nat.reduceLeDiff, reduceCtorEq, eq_self, K.isEff, List.reduceReplicate]
    refine step_tree awake35_sc rfl ?_
    simp (maxSteps := 4000000) -implicitDefEqProofs (disch := omega) only [↓sxPre, sxPost, sxLib, if_true, if_false, Nat.reduceEqDiff, ↓reduceIte, Nat.reduceAdd, Nat.reduceSub, Nat.reduceMul, Nat.reduceLT, Nat.reduceLeDiff, reduceCtorEq, eq_self, K.isEff, List.reduceReplicate]
    refine finK_gc [] ?_
    simp [gcSt, keepOk, finG, resV, resOne, resAll, idx, V.ren, V.renL, Obj.ren, get_cons, get_nil, RTree, RTup, RRow]
  | false =>
  have d1' := of_decide_eq_false d1
  have d2' := of_decide_eq_false d2
  have hF := rightE_fine hL hqb
  have cR := right_sc e _ hA (by have := hL.1; omega)
  generalize rightE e = E at *
  have mN := Mod_sc now 60 (by decide) (by decide)
  have bN : 0 ≤ now % 60 ∧ now % 60 < 60 := by omega
  generalize now % 60 = nw at *
  have cP1 := fun c (h : E.At c) => tPoll_sc E c h hF nw ⟨by omega, by omega⟩
  have cP2 := fun c (h : E.At c) => rtPoll_sc E c h hF nw ⟨by omega, by omega⟩
  obtain ⟨ok1, ok2, ok3⟩ := poll_ok hF nw
  generalize poll E nw = PD at *
  obtain ⟨PE, PL⟩ := PD
  simp only at ok1 ok2 ok3
  obtain ⟨q1, q2⟩ := stepP_ok hp.2.2.2.2.2.1 (show p.body.length ≤ 300 by omega)
  have m1 := Mod_sc p.kind 3 (by decide) (by decide)
  have m2 := Mod_sc p.src 7 (by decide) (by decide)
  have m3 := Mod_sc p.dst 8 (by decide) (by decide)
  have m4 := Mod_sc p.ack 60 (by decide) (by decide)
  have m5 := Mod_sc p.seq 60 (by decide) (by decide)
  have r1b : 0 ≤ p.kind % 3 ∧ p.kind % 3 < 3 := by omega
  have r2b : 0 ≤ p.src % 7 ∧ p.src % 7 < 7 := by omega
  have r3b : 0 ≤ p.dst % 8 ∧ p.dst % 8 < 8 := by omega
  have r4b : 0 ≤ p.ack % 60 ∧ p.ack % 60 < 60 := by omega
  have r5b : 0 ≤ p.seq % 60 ∧ p.seq % 60 < 60 := by omega
  have hst : stepP p = if 1 + p.kind % 3 = 2 then ⟨2, 1 + p.src % 7, p.dst % 8, 1 + p.seq % 60, p.ack % 60, p.body⟩ else ⟨1 + p.kind % 3, 1 + p.src % 7, p.dst % 8, 0, p.ack % 60, []⟩ := rfl
  have cE := fun sz tt (h : sz = 1 ∨ (stepP p).body = []) => rEncode_sc (stepP p) q1 q2 sz tt h
  have bE := Pk.enc_bytes (p := stepP p) q1.2.2.2.2.2.1
  have lE : (stepP p).enc.length ≤ 2 ^ 40 := by
    obtain ⟨l1, l2⟩ := Pk.head_len q2
    simp only [Pk.enc, List.length_append, List.length_cons, List.length_nil]; omega
  generalize (stepP p).enc = EN at *
  generalize p.kind % 3 = r1 at *
  generalize p.src % 7 = r2 at *
  generalize p.dst % 8 = r3 at *
  generalize p.ack % 60 = r4 at *
  generalize p.seq % 60 = r5 at *
  simp only [Ep.cells, Pk.cells, List.map_cons, List.map_nil] at cR ⊢
  simp (maxSteps := 4000000) -implicitDefEqProofs (disch := omega) only [↓sxPre, sxPost, sxLib, if_true, if_false, Nat.reduceEqDiff, ↓reduceIte, Nat.reduceAdd, Nat.reduceSub, Nat.reduceMul, Nat.reduceLT, Nat.reduceLeDiff, reduceCtorEq, eq_self, K.isEff, List.reduceReplicate]
  refine step_tree (x := .bool false) ?_ rfl ?_
  · simpa [Abs.view, viewL, Abs.get, ev] using cL
  simp (maxSteps := 4000000) -implicitDefEqProofs (disch := omega) only [B_length, d1, d2, ↓sxPre, sxPost, sxLib, if_true, if_false, Nat.reduceEqDiff, ↓reduceIte, Nat.reduceAdd, Nat.reduceSub, Nat.reduceMul, Nat.reduceLT, Nat.reduceLeDiff, reduceCtorEq, eq_self, K.isEff, List.reduceReplicate]
  refine step_ep (e := E) ?_ fun c1 hA1 => ?_
  · simpa [V.ren, V.renL, Abs.get, ev] using cR
  have cP1' := cP1 c1 hA1
  have cP2' := cP2 c1 hA1
  obtain ⟨s1, t1, y1, hs1, hq1, rfl⟩ := id hA1
  simp only [Ep.cells, List.map_cons, List.map_nil] at cP1' cP2' ⊢
  simp (maxSteps := 4000000) -implicitDefEqProofs (disch := omega) only [kstore_ref, putAt_zero, putAt_succ, ↓sxPre, sxPost, sxLib, if_true, if_false, Nat.reduceEqDiff, ↓reduceIte, Nat.reduceAdd, Nat.reduceSub, Nat.reduceMul, Nat.reduceLT, Nat.reduceLeDiff, reduceCtorEq, eq_self, K.isEff, List.reduceReplicate]
  refine step_tree (x := .int .i64 nw) ?_ rfl ?_
  · simpa [Abs.view, viewL, Abs.get, ev] using mN
  simp (maxSteps := 4000000) -implicitDefEqProofs (disch := omega) only [kstore_ref, putAt_zero, putAt_succ, ↓sxPre, sxPost, sxLib, if_true, if_false, Nat.reduceEqDiff, ↓reduceIte, Nat.reduceAdd, Nat.reduceSub, Nat.reduceMul, Nat.reduceLT, Nat.reduceLeDiff, reduceCtorEq, eq_self, K.isEff, List.reduceReplicate]
  refine step_poll (D := (PE, PL)) ?_ fun c2 s2 t2 z2 hA2 hs2 hq2 => ?_
  · simpa [V.ren, V.renL, Abs.get, ev] using cP1'
  obtain ⟨s2', t2', y2, hs2', hq2', rfl⟩ := id hA2
  simp only [Ep.cells]
  simp (maxSteps := 4000000) -implicitDefEqProofs (disch := omega) only [kstore_ref, putAt_zero, putAt_succ, ↓sxPre, sxPost, sxLib, if_true, if_false, Nat.reduceEqDiff, ↓reduceIte, Nat.reduceAdd, Nat.reduceSub, Nat.reduceMul, Nat.reduceLT, Nat.reduceLeDiff, reduceCtorEq, eq_self, K.isEff, List.reduceReplicate]
  refine step_poll (D := (PE, PL)) ?_ fun c3 s3 t3 z3 hA3 hs3 hq3 => ?_
  · simpa [V.ren, V.renL, Abs.get, ev] using cP2'
  obtain ⟨s3', t3', y3, hs3', hq3', rfl⟩ := id hA3
  have cS := same35_sc PE _ _ hA2 hA3 ok1
  have cB := bodies_sc PL ok2 ok3 s2 s3 t2 t3 z2 z3 hs2 hs3 hq2 hq3
  simp only [Ep.cells, List.map_cons, List.map_nil] at cS ⊢
  simp (maxSteps := 4000000) -implicitDefEqProofs (disch := omega) only [kstore_ref, putAt_zero, putAt_succ, ↓sxPre, sxPost, sxLib, if_true, if_false, Nat.reduceEqDiff, ↓reduceIte, Nat.reduceAdd, Nat.reduceSub, Nat.reduceMul, Nat.reduceLT, Nat.reduceLeDiff, reduceCtorEq, eq_self, K.isEff, List.reduceReplicate]
  refine step_tree (x := .bool true) ?_ rfl ?_
  · simpa [Abs.view, viewL, Abs.get, ev] using cS
  simp (maxSteps := 4000000) -implicitDefEqProofs (disch := omega) only [↓sxPre, sxPost, sxLib, if_true, if_false, Nat.reduceEqDiff, ↓reduceIte, Nat.reduceAdd, Nat.reduceSub, Nat.reduceMul, Nat.reduceLT, Nat.reduceLeDiff, reduceCtorEq, eq_self, K.isEff, List.reduceReplicate]
  refine step_guard rfl (fun _ => step_tree (x := .bool true) ?_ rfl ?_) (fun h => absurd rfl h)
  · simpa [Abs.view, viewL, Abs.get, ev] using cB
  simp (maxSteps := 4000000) -implicitDefEqProofs (disch := omega) only [↓sxPre, sxPost, sxLib, if_true, if_false, Nat.reduceEqDiff, ↓reduceIte, Nat.reduceAdd, Nat.reduceSub, Nat.reduceMul, Nat.reduceLT, Nat.reduceLeDiff, reduceCtorEq, eq_self, K.isEff, List.reduceReplicate]
  refine step_tree (x := .int .i64 r1) ?_ rfl ?_
  · simpa [Abs.view, viewL, Abs.get, ev] using m1
  simp (maxSteps := 4000000) -implicitDefEqProofs (disch := omega) only [kstore_ref, putAt_zero, putAt_succ, ↓sxPre, sxPost, sxLib, if_true, if_false, Nat.reduceEqDiff, ↓reduceIte, Nat.reduceAdd, Nat.reduceSub, Nat.reduceMul, Nat.reduceLT, Nat.reduceLeDiff, reduceCtorEq, eq_self, K.isEff, List.reduceReplicate]
  refine step_eff (step_tree (x := .int .i64 r2) ?_ rfl ?_)
  · simpa [Abs.view, viewL, Abs.get, ev] using m2
  simp (maxSteps := 4000000) -implicitDefEqProofs (disch := omega) only [kstore_ref, putAt_zero, putAt_succ, ↓sxPre, sxPost, sxLib, if_true, if_false, Nat.reduceEqDiff, ↓reduceIte, Nat.reduceAdd, Nat.reduceSub, Nat.reduceMul, Nat.reduceLT, Nat.reduceLeDiff, reduceCtorEq, eq_self, K.isEff, List.reduceReplicate]
  refine step_eff (step_tree (x := .int .i64 r3) ?_ rfl ?_)
  · simpa [Abs.view, viewL, Abs.get, ev] using m3
  simp (maxSteps := 4000000) -implicitDefEqProofs (disch := omega) only [kstore_ref, putAt_zero, putAt_succ, ↓sxPre, sxPost, sxLib, if_true, if_false, Nat.reduceEqDiff, ↓reduceIte, Nat.reduceAdd, Nat.reduceSub, Nat.reduceMul, Nat.reduceLT, Nat.reduceLeDiff, reduceCtorEq, eq_self, K.isEff, List.reduceReplicate]
  refine step_eff (step_tree (x := .int .i64 r4) ?_ rfl ?_)
  · simpa [Abs.view, viewL, Abs.get, ev] using m4
  have hLat : ∀ i, i < 2 → ∃ l : List Int, Bytes l ∧ l.length ≤ 2 ^ 40 ∧ T.at [T.lst 1 false (B EN), T.lst 1 false (B raw)] i = .lst 1 false (B l) := by
    intro i hi
    match i, hi with
    | 0, _ => exact ⟨EN, bE, lE, rfl⟩
    | 1, _ => exact ⟨raw, hraw, by omega, rfl⟩
  have cN1 := tNew_sc epoch
  have cN2 := rtNew_sc epoch
  by_cases hk2 : 1 + r1 = 2
  · rw [if_pos hk2] at hst
    have cE1 := cE 1 false (.inl rfl)
    rw [hst] at cE1
    simp only [Pk.cells, List.map_cons, List.map_nil] at cE1
    have d3 : decide ((2 : Int) = 2) = true := by decide
    simp (maxSteps := 4000000) -implicitDefEqProofs (disch := omega) only [kstore_ref, putAt_zero, putAt_succ, hk2, d3, ↓sxPre, sxPost, sxLib, if_true, if_false, Nat.reduceEqDiff, ↓reduceIte, Nat.reduceAdd, Nat.reduceSub, Nat.reduceMul, Nat.reduceLT, Nat.reduceLeDiff, reduceCtorEq, eq_self, K.isEff, List.reduceReplicate]
    refine step_tree (x := .int .i64 r5) ?_ rfl ?_
    · simpa [Abs.view, viewL, Abs.get, ev] using m5
    simp (maxSteps := 4000000) -implicitDefEqProofs (disch := omega) only [kstore_ref, putAt_zero, putAt_succ, hk2, d3, ↓sxPre, sxPost, sxLib, if_true, if_false, Nat.reduceEqDiff, ↓reduceIte, Nat.reduceAdd, Nat.reduceSub, Nat.reduceMul, Nat.reduceLT, Nat.reduceLeDiff, reduceCtorEq, eq_self, K.isEff, List.reduceReplicate]
    refine step_enc (ys := EN) ?_ fun ga => ?_
    · simpa [Abs.view, viewL, Abs.get, ev] using cE1
    simp (maxSteps := 4000000) -implicitDefEqProofs (disch := omega) only [keff_buildSlice, toElems_cons, toElems_nil, toElem_t, toElem_rw, setElems_cons, setElems_nil, B_all, ↓sxPre, sxPost, sxLib, if_true, if_false, Nat.reduceEqDiff, ↓reduceIte, Nat.reduceAdd, Nat.reduceSub, Nat.reduceMul, Nat.reduceLT, Nat.reduceLeDiff, reduceCtorEq, eq_self, K.isEff, List.reduceReplicate]
    refine MS_l0 _ E hF s1 t1 y1 hs1 hq1 epoch _ hLat rfl _ (by simp [keepOk]) (by simp [gcSt, keepOk, finG, resV, resOne, resAll, idx, V.ren, V.renL, Obj.ren, get_cons, get_nil, RTree, RTup, RRow]) ?_
    intro vs H v4
    simp (maxSteps := 4000000) -implicitDefEqProofs (disch := omega) only [v4, ↓sxPre, sxPost, sxLib, if_true, if_false, Nat.reduceEqDiff, ↓reduceIte, Nat.reduceAdd, Nat.reduceSub, Nat.reduceMul, Nat.reduceLT, Nat.reduceLeDiff, reduceCtorEq, eq_self, K.isEff, List.reduceReplicate]
    refine step_ep (e := ⟨epoch, 0, 0, 0, 0, 0, [], false⟩) ?_ fun c8 hA8 => ?_
    · simpa [V.ren, V.renL, Abs.get, ev] using cN1
    simp (maxSteps := 4000000) -implicitDefEqProofs (disch := omega) only [v4, ↓sxPre, sxPost, sxLib, if_true, if_false, Nat.reduceEqDiff, ↓reduceIte, Nat.reduceAdd, Nat.reduceSub, Nat.reduceMul, Nat.reduceLT, Nat.reduceLeDiff, reduceCtorEq, eq_self, K.isEff, List.reduceReplicate]
    refine step_ep (e := ⟨epoch, 0, 0, 0, 0, 0, [], false⟩) ?_ fun c9 hA9 => ?_
    · simpa [V.ren, V.renL, Abs.get, ev] using cN2
    have cS9 := SCall.tagg2 (same35_sc _ _ _ hA8 hA9 ⟨by simp, fun b hb => by cases hb⟩)
    refine step_tree (x := .bool true) ?_ rfl ?_
    · simpa [Abs.view, viewL, Abs.get, ev] using cS9
    simp (maxSteps := 4000000) -implicitDefEqProofs (disch := omega) only [↓sxPre, sxPost, sxLib, if_true, if_false, Nat.reduceEqDiff, ↓reduceIte, Nat.reduceAdd, Nat.reduceSub, Nat.reduceMul, Nat.reduceLT, Nat.reduceLeDiff, reduceCtorEq, eq_self, K.isEff, List.reduceReplicate]
    refine step_guard rfl (fun _ => step_tree awake35_sc rfl ?_) (fun h => absurd rfl h)
    simp (maxSteps := 4000000) -implicitDefEqProofs (disch := omega) only [↓sxPre, sxPost, sxLib, if_true, if_false, Nat.reduceEqDiff, ↓reduceIte, Nat.reduceAdd, Nat.reduceSub, Nat.reduceMul, Nat.reduceLT, Nat.reduceLeDiff, reduceCtorEq, eq_self, K.isEff, List.reduceReplicate]
    refine finK_gc [] ?_
    simp [gcSt, keepOk, finG, resV, resOne, resAll, idx, V.ren, V.renL, Obj.ren, get_cons, get_nil, RTree, RTup, RRow]
  · rw [if_neg hk2] at hst
    have cE1 := cE 0 true (.inr (by rw [hst]))
    rw [hst] at cE1
    simp only [Pk.cells, List.map_cons, List.map_nil] at cE1
    have d3 : decide (1 + r1 = 2) = false := decide_eq_false hk2
    simp (maxSteps := 4000000) -implicitDefEqProofs (disch := omega) only [kstore_ref, putAt_zero, putAt_succ, d3, ↓sxPre, sxPost, sxLib, if_true, if_false, Nat.reduceEqDiff, ↓reduceIte, Nat.reduceAdd, Nat.reduceSub, Nat.reduceMul, Nat.reduceLT, Nat.reduceLeDiff, reduceCtorEq, eq_self, K.isEff, List.reduceReplicate]
    refine step_enc (ys := EN) ?_ fun ga => ?_
    · simpa [Abs.view, viewL, Abs.get, ev, B] using cE1
    simp (maxSteps := 4000000) -implicitDefEqProofs (disch := omega) only [keff_buildSlice, toElems_cons, toElems_nil, toElem_t, toElem_rw, setElems_cons, setElems_nil, B_all, ↓sxPre, sxPost, sxLib, if_true, if_false, Nat.reduceEqDiff, ↓reduceIte, Nat.reduceAdd, Nat.reduceSub, Nat.reduceMul, Nat.reduceLT, Nat.reduceLeDiff, reduceCtorEq, eq_self, K.isEff, List.reduceReplicate]
    refine MS_l0 _ E hF s1 t1 y1 hs1 hq1 epoch _ hLat rfl _ (by simp [keepOk]) (by simp [gcSt, keepOk, finG, resV, resOne, resAll, idx, V.ren, V.renL, Obj.ren, get_cons, get_nil, RTree, RTup, RRow]) ?_
    intro vs H v4
    simp (maxSteps := 4000000) -implicitDefEqProofs (disch := omega) only [v4, ↓sxPre, sxPost, sxLib, if_true, if_false, Nat.reduceEqDiff, ↓reduceIte, Nat.reduceAdd, Nat.reduceSub, Nat.reduceMul, Nat.reduceLT, Nat.reduceLeDiff, reduceCtorEq, eq_self, K.isEff, List.reduceReplicate]
    refine step_ep (e := ⟨epoch, 0, 0, 0, 0, 0, [], false⟩) ?_ fun c8 hA8 => ?_
    · simpa [V.ren, V.renL, Abs.get, ev] using cN1
    simp (maxSteps := 4000000) -implicitDefEqProofs (disch := omega) only [v4, ↓sxPre, sxPost, sxLib, if_true, if_false, Nat.reduceEqDiff, ↓reduceIte, Nat.reduceAdd, Nat.reduceSub, Nat.reduceMul, Nat.reduceLT, Nat.reduceLeDiff, reduceCtorEq, eq_self, K.isEff, List.reduceReplicate]
    refine step_ep (e := ⟨epoch, 0, 0, 0, 0, 0, [], false⟩) ?_ fun c9 hA9 => ?_
    · simpa [V.ren, V.renL, Abs.get, ev] using cN2
    have cS9 := SCall.tagg2 (same35_sc _ _ _ hA8 hA9 ⟨by simp, fun b hb => by cases hb⟩)
    refine step_tree (x := .bool true) ?_ rfl ?_
    · simpa [Abs.view, viewL, Abs.get, ev] using cS9
    simp (maxSteps := 4000000) -implicitDefEqProofs (disch := omega) only [↓sxPre, sxPost, sxLib, if_true, if_false, Nat.reduceEqDiff, ↓reduceIte, Nat.reduceAdd, Nat.reduceSub, Nat.reduceMul, Nat.reduceLT, Nat.reduceLeDiff, reduceCtorEq, eq_self, K.isEff, List.reduceReplicate]
    refine step_guard rfl (fun _ => step_tree awake35_sc rfl ?_) (fun h => absurd rfl h)
    simp (maxSteps := 4000000) -implicitDefEqProofs (disch := omega) only [↓sxPre, sxPost, sxLib, if_true, if_false, Nat.reduceEqDiff, ↓reduceIte, Nat.reduceAdd, Nat.reduceSub, Nat.reduceMul, Nat.reduceLT, Nat.reduceLeDiff, reduceCtorEq, eq_self, K.isEff, List.reduceReplicate]
    refine finK_gc [] ?_
    simp [gcSt, keepOk, finG, resV, resOne, resAll, idx, V.ren, V.renL, Obj.ren, get_cons, get_nil, RTree, RTup, RRow]

theorem TransportSteps_sc {W : World} {ts tp : List T} {cs cp : List Value} (h : Cells W epSh ts cs) (h2 : Cells W [.int .i64, .int .i64, .int .i64, .int .i64, .int .i64, .lst false [.int .u8]] tp cp)
    {a : Option Addr} {len cap : Nat} {z : List Int} (w : IsRow .u8 W a len cap z) (y : len * 1 ≤ 140737488351232) (now : Int) (hnow : -2 ^ 63 ≤ now ∧ now < 2 ^ 63) (epoch : Int) (hepoch : -2 ^ 63 ≤ epoch ∧ epoch < 2 ^ 63) :
    SCall PP N.debuggerlaw35_TransportSteps [.t (.agg ts), .t (.agg tp), .t (.lst 1 false ((z.take len).map (T.int .u8))), .t (.int .i64 now), .t (.int .i64 epoch)] [] (RTree (.bool true)) := by
  obtain ⟨e, _, hqb, hA⟩ := Cells.ep h
  obtain ⟨p, hp, rfl⟩ := Cells.pk h2
  exact TransportSteps_main e ts hA hqb p hp (z.take len) (IsRow.bytes w) (by rw [w.length]; omega) now epoch
end Go.Proofs.Ytbpclinijbgchaa
