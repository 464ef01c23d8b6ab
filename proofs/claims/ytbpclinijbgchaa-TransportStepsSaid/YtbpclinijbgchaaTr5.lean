/- Transport: Receive. By the session itself. -/
import Derived.Test.YtbpclinijbgchaaTr4
import Derived.Test.YtbpclinijbgchaaPack7
import Derived.Test.YtbpclinijbgchaaPack8
namespace Go.Proofs.Ytbpclinijbgchaa
open Go Go.Abs
set_option maxRecDepth 100000
set_option maxHeartbeats 8000000
set_option linter.unusedSimpArgs false
set_option linter.unusedVariables false

/-- A packet that was read, frozen. -/
def RDecT (D : Pk × Int) (r : V) (F : Heap) : Prop := ∃ sz t, (sz = 1 ∨ D.1.body = []) ∧ r = .tup [.t (.agg (D.1.cells sz t)), .t (.int .i64 D.2)] ∧ F = []

theorem RDec.frozen {f : FuncId} {args : List V} {D : Pk × Int} (h : SCall PP f args [] (RDec D)) : SCall PP f args [] (RDecT D) := by
  refine h.weak ?_
  rintro r F ⟨x, rfl, ⟨rfl, h0, rfl⟩ | ⟨g, rfl, rfl⟩⟩
  · refine ⟨_, _, (weak_tup (xs := [.agg (D.1.cells 0 true), .int .i64 D.2]) (H1 := []) ?_).trans (weak_to [0] [] rfl (Nat.le_refl _) (by simp) (by simp) rfl), ?_⟩
    · simp only [Pk.vals, Pk.cells, toElems_cons, toElems_nil, toElem_agg, toElem_t, toTs_cons, toTs_nil, toT_t]
      rw [h0]; rfl
    · exact ⟨0, true, .inr h0, by simp only [get_cons, if_true, V.ren, V.renL, List.map_cons, List.map_nil], rfl⟩
  · have hlt : (B D.1.body).take D.1.body.length = B D.1.body := B_all _
    refine ⟨_, _, (weak_tup (xs := [.agg (D.1.cells 1 false), .int .i64 D.2]) (H1 := [.frz 1 g (B D.1.body)]) ?_).trans (weak_to [0] [] rfl (Nat.le_refl _) (by simp) (by simp) rfl), ?_⟩
    · simp only [Pk.vals, Pk.cells, toElems_cons, toElems_nil, toElem_agg, toElem_t, toTs_cons, toTs_nil, toT_t]
      have : toT [.row 1 g (B D.1.body)] (.sl 0 0 D.1.body.length g 1) = some (.lst 1 false (B D.1.body), [.frz 1 g (B D.1.body)]) := by
        show (match rowOf (some (Abs.Obj.row 1 g (B D.1.body))) with
          | some (sz', g', xs) => if g = g' ∧ sz' = 1 then some (T.lst 1 false ((xs.drop 0).take D.1.body.length), [Abs.Obj.frz 1 g' xs]) else none
          | none => none) = _
        simp [rowOf, hlt]
      rw [this]
    · exact ⟨1, false, .inl rfl, by simp only [get_cons, if_true, V.ren, V.renL, List.map_cons, List.map_nil], rfl⟩

theorem step_decT {P : Program} {f : FuncId} {H : Heap} {K : St → Prop} {vs : List (Nat × V)} {r : List Ins} {d : Nat} {xs : List Opnd} {D : Pk × Int}
    (h : SCall P f ((xs.map (ev vs)).map (V.ren (idx []))) [] (RDecT D)) (hk : ∀ sz t, (sz = 1 ∨ D.1.body = []) → wpR (SCall P) r K ⟨(d, .tup [.t (.agg (D.1.cells sz t)), .t (.int .i64 D.2)]) :: vs, H⟩) : wpR (SCall P) (⟨some d, none, .call f xs⟩ :: r) K ⟨vs, H⟩ := by
  refine step_call (call_own h ?_)
  rintro r N ⟨sz, t, hs, rfl, rfl⟩
  simpa [V.ren, V.renL] using hk sz t hs

theorem dec_facts {b : List Int} (hb : Bytes b) : ((dec b).2 = 0 → (dec b).1.right = true ∧ Bytes (dec b).1.body) ∧ ((dec b).2 ≠ 0 → dec b = (zeroPk, (dec b).2)) := by
  constructor
  · intro h
    obtain ⟨h1, h2, h3⟩ := dec_canon hb (p := (dec b).1) (by rw [← h])
    exact ⟨h2, h3.2.2.2.2.2.1⟩
  · intro h
    unfold dec at h ⊢
    split
    · rfl
    rename_i h1
    rw [if_neg h1] at h
    split
    · rfl
    rename_i h2
    rw [if_neg h2] at h
    cases hr : readP (b.take (b.length - 2)) with
    | none => rfl
    | some p => rw [hr] at h; exact absurd rfl h

/-- The other end is known, or has restarted. -/
def meet (e : Ep) (p : Pk) : Ep := if e.peer < p.src then { e with queue := if e.peer ≠ 0 then [] else e.queue, peer := p.src, acked := 0, sent := 0, got := 0, timer := 0 } else e
/-- What is acknowledged is left out. -/
def ackd (e : Ep) (p : Pk) : Ep := if e.acked < p.ack ∧ p.ack - e.acked ≤ e.queue.length then { e with queue := e.queue.drop (p.ack - e.acked).toNat, acked := p.ack, sent := if e.sent < p.ack then p.ack else e.sent } else e
def took (e : Ep) (p : Pk) : Ep × List (List Int) :=
  if p.kind = 2 then (if p.seq = e.got + 1 then ({ e with got := e.got + 1, owe := true }, [p.body]) else ({ e with owe := true }, []))
  else if p.kind = 1 then ({ e with owe := true }, []) else (e, [])
/-- What Receive makes of a datagram. -/
def recv (e : Ep) (b : List Int) : Ep × List (List Int) × Bool :=
  if (dec b).2 ≠ 0 ∨ (dec b).1.src < e.peer then (e, [], false)
  else if (dec b).1.dst ≠ (meet e (dec b).1).epoch then ({ meet e (dec b).1 with owe := true }, [], decide (e.peer < (dec b).1.src ∧ e.peer ≠ 0))
  else ((took (ackd (meet e (dec b).1) (dec b).1) (dec b).1).1, (took (ackd (meet e (dec b).1) (dec b).1) (dec b).1).2, decide (e.peer < (dec b).1.src ∧ e.peer ≠ 0))
def RRecv (D : Ep × List (List Int) × Bool) (r : V) (F : Heap) : Prop := ∃ cs s t zs, D.1.At cs ∧ (s = 1 ∨ D.2.1 = []) ∧ QAt D.2.1 zs ∧ r = .tup [.t (.agg cs), .t (.lst s t zs), .t (.bool D.2.2)] ∧ F = []

theorem finRecv {slot id u w : Nat} {e : Ep} {l : List (List Int)} {ag : Bool} {sq : Nat} {tq : Bool} {ys : List T} {y : V} {s : St} (hs : sq = 1 ∨ e.queue = []) (hq : QAt e.queue ys) (h1 : get s.vs slot = .ref id 0) (h2 : s.h[id]? = some (.box (e.vals (.t (.lst sq tq ys))))) (h3 : get s.vs u = y) (h4 : get s.vs w = .t (.bool ag))
    (hy : (l = [] ∧ y = .t (.lst 0 true [])) ∨ ∃ rid g zs, y = .sl rid 0 l.length g 1 ∧ QAt l zs ∧ rowOf s.h[rid]? = some (1, g, zs)) :
    finK 0 [.cell slot 8 false, .tmp u, .tmp w] (RRecv (e, l, ag)) s := by
  have hE : toElem s.h (.agg (e.vals (.t (.lst sq tq ys)))) = some (.agg (e.cells sq tq ys), s.h) := by
    simp only [Ep.vals, Ep.cells, toElem_agg, toTs_cons, toTs_nil, toT_t]
  obtain ⟨s2, t2, zs, H2, hE2, hs2, hq2⟩ := toElem_out l y s.h hy
  refine finK_tup (n := 0) [] (c := True) (vs := [.agg (e.vals (.t (.lst sq tq ys))), y, .t (.bool ag)]) (xs := [.agg (e.cells sq tq ys), .lst s2 t2 zs, .bool ag]) (H1 := H2) ?_ trivial ?_ (by simp [keepOk]) ⟨e.cells sq tq ys, s2, t2, zs, ⟨sq, tq, ys, hs, hq, rfl⟩, hs2, hq2, rfl, rfl⟩
  · simp [resV, resAll, resOne, h1, h2, h3, h4, kloadN_ref, Ep.vals]
  · simp only [toElems_cons, toElems_nil, hE, hE2, toElem_t]

theorem QAt.drop {q : List (List Int)} {ys : List T} (h : QAt q ys) (k : Nat) : QAt (q.drop k) (ys.drop k) := by
  refine ⟨by simp [h.1], fun i hi => ?_⟩
  have hi' : k + i < q.length := by simp at hi; omega
  obtain ⟨s, t, hs, ha⟩ := h.2 (k + i) hi'
  refine ⟨s, t, by simpa using hs, ?_⟩
  have : T.at (ys.drop k) i = T.at ys (k + i) := by simp [T.at, List.getD_eq_getElem?_getD, List.getElem?_drop]
  rw [this, ha]; simp

abbrev rcTail2 : Cd := .seq (.rgn transport_Receive.r19) (.seq (.seq (.rgn transport_Receive.r20) (.block 0 (.seq (.rgn transport_Receive.r21) (.cond (.tmp 90) (.seq (.seq (.rgn transport_Receive.r22) (.cond (.tmp 97) (.seq (.rgn transport_Receive.r23) (.rgn transport_Receive.r24)) .skip)) (.rgn transport_Receive.r25)) (.seq (.rgn transport_Receive.r26) (.cond (.tmp 108) (.rgn transport_Receive.r27) .skip)))))) (.seq (.rgn transport_Receive.r28) .ret))
abbrev rcTail1 : Cd := .seq (.seq (.rgn transport_Receive.r11) (.cond (.tmp 49) (.seq (.rgn transport_Receive.r12) (.seq (.rgn transport_Receive.r13) .ret)) .skip)) (.seq (.seq (.rgn transport_Receive.r14) (.seq (.rgn transport_Receive.r15) (.cond (.tmp 73) (.seq (.rgn transport_Receive.r16) (.seq (.rgn transport_Receive.r17) (.rgn transport_Receive.r18))) .skip))) rcTail2)

theorem recv_tail2 (e : Ep) (hg : 0 ≤ e.got ∧ e.got ≤ 2 ^ 40) (p : Pk) (sz : Nat) (tz : Bool) (hsz : sz = 1 ∨ p.body = []) (ag : Bool) (s : Nat) (t : Bool) (ys : List T) (hs : s = 1 ∨ e.queue = []) (hqa : QAt e.queue ys) (vs : List (Nat × V))
    (v2 : get vs 2 = .ref 0 0) (v4 : get vs 4 = .ref 1 0) (v7 : get vs 7 = .ref 2 0) (v9 : get vs 9 = .t (.bool ag)) :
    wpC (SCall PP) 0 rcTail2 (exitK 0 [.cell 4 8 false, .tmp 5, .tmp 6] (RRecv ((took e p).1, (took e p).2, ag))) ⟨vs, [.box (e.vals (.t (.lst s t ys))), .box [.t (.int .i64 0), .t (.int .i64 0), .t (.int .i64 0), .t (.int .i64 0), .t (.int .i64 0), .t (.int .i64 0), .t (.lst 0 true []), .t (.bool false)], .box ((p.cells sz tz).map V.t)]⟩ := by
  unfold took rcTail2 Ep.vals
  simp only [Pk.cells, List.map_cons, List.map_nil]
  by_cases hk : p.kind = 2
  · have d1 : decide (p.kind = 2) = true := decide_eq_true hk
    rw [if_pos hk]
    by_cases hq : p.seq = e.got + 1
    · have d2 : decide (p.seq = e.got + 1) = true := decide_eq_true hq
      rw [if_pos hq]
      simp (maxSteps := 4000000) -implicitDefEqProofs (disch := omega) only [v2, v4, v7, v9, d1, d2, kstore_ref, putAt_zero, putAt_succ, keff_buildSlice, toElems_cons, toElems_nil, toElem_t, setElems_cons, setElems_nil, elems_lst', kappend_nil, ↓sxPre, sxPost, sxLib, if_true, if_false, Nat.reduceEqDiff, ↓reduceIte, Nat.reduceAdd, Nat.reduceSub, Nat.reduceMul, Nat.reduceLT, Nat.reduceLeDiff, reduceCtorEq, eq_self, K.isEff, List.reduceReplicate]
      refine ⟨by decide, ?_⟩
      exact finRecv (e := { e with got := e.got + 1, owe := true }) (l := [p.body]) (tq := t) hs hqa v4 rfl rfl rfl (.inr ⟨3, 0, _, rfl, QAt.nil.snoc _ hsz, rfl⟩)
    · have d2 : decide (p.seq = e.got + 1) = false := decide_eq_false hq
      rw [if_neg hq]
      simp (maxSteps := 4000000) -implicitDefEqProofs (disch := omega) only [v2, v4, v7, v9, d1, d2, kstore_ref, putAt_zero, putAt_succ, ↓sxPre, sxPost, sxLib, if_true, if_false, Nat.reduceEqDiff, ↓reduceIte, Nat.reduceAdd, Nat.reduceSub, Nat.reduceMul, Nat.reduceLT, Nat.reduceLeDiff, reduceCtorEq, eq_self, K.isEff, List.reduceReplicate]
      exact finRecv (e := { e with owe := true }) (l := []) (tq := t) hs hqa v4 rfl rfl rfl (.inl ⟨rfl, rfl⟩)
  · have d1 : decide (p.kind = 2) = false := decide_eq_false hk
    rw [if_neg hk]
    by_cases hk1 : p.kind = 1
    · have d2 : decide (p.kind = 1) = true := decide_eq_true hk1
      rw [if_pos hk1]
      simp (maxSteps := 4000000) -implicitDefEqProofs (disch := omega) only [v2, v4, v7, v9, d1, d2, kstore_ref, putAt_zero, putAt_succ, ↓sxPre, sxPost, sxLib, if_true, if_false, Nat.reduceEqDiff, ↓reduceIte, Nat.reduceAdd, Nat.reduceSub, Nat.reduceMul, Nat.reduceLT, Nat.reduceLeDiff, reduceCtorEq, eq_self, K.isEff, List.reduceReplicate]
      exact finRecv (e := { e with owe := true }) (l := []) (tq := t) hs hqa v4 rfl rfl rfl (.inl ⟨rfl, rfl⟩)
    · have d2 : decide (p.kind = 1) = false := decide_eq_false hk1
      rw [if_neg hk1]
      simp (maxSteps := 4000000) -implicitDefEqProofs (disch := omega) only [v2, v4, v7, v9, d1, d2, kstore_ref, putAt_zero, putAt_succ, ↓sxPre, sxPost, sxLib, if_true, if_false, Nat.reduceEqDiff, ↓reduceIte, Nat.reduceAdd, Nat.reduceSub, Nat.reduceMul, Nat.reduceLT, Nat.reduceLeDiff, reduceCtorEq, eq_self, K.isEff, List.reduceReplicate]
      exact finRecv (e := e) (l := []) (tq := t) hs hqa v4 rfl rfl rfl (.inl ⟨rfl, rfl⟩)

theorem recv_tail1 (e : Ep) (hF : e.Fine) (p : Pk) (hpa : 0 ≤ p.ack ∧ p.ack ≤ 2 ^ 30) (sz : Nat) (tz : Bool) (hsz : sz = 1 ∨ p.body = []) (ag : Bool) (s : Nat) (t : Bool) (ys : List T) (hs : s = 1 ∨ e.queue = []) (hqa : QAt e.queue ys) (vs : List (Nat × V))
    (v2 : get vs 2 = .ref 0 0) (v4 : get vs 4 = .ref 1 0) (v7 : get vs 7 = .ref 2 0) (v9 : get vs 9 = .t (.bool ag)) :
    wpC (SCall PP) 0 rcTail1 (exitK 0 [.cell 4 8 false, .tmp 5, .tmp 6] (RRecv (if p.dst ≠ e.epoch then ({ e with owe := true }, [], ag) else ((took (ackd e p) p).1, (took (ackd e p) p).2, ag)))) ⟨vs, [.box (e.vals (.t (.lst s t ys))), .box [.t (.int .i64 0), .t (.int .i64 0), .t (.int .i64 0), .t (.int .i64 0), .t (.int .i64 0), .t (.int .i64 0), .t (.lst 0 true []), .t (.bool false)], .box ((p.cells sz tz).map V.t)]⟩ := by
  obtain ⟨⟨n1, n2⟩, ⟨n3, n4⟩, ⟨n5, n6⟩, ⟨n7, n8⟩, ⟨n9, n10⟩, ⟨n11, n12⟩, hql, hqb⟩ := id hF
  have hyl := hqa.1
  by_cases hd : p.dst = e.epoch
  case neg =>
    have d1 : decide (p.dst = e.epoch) = false := decide_eq_false hd
    rw [if_pos hd]
    unfold rcTail1 Ep.vals
    simp only [Pk.cells, List.map_cons, List.map_nil]
    simp (maxSteps := 4000000) -implicitDefEqProofs (disch := omega) only [v2, v4, v7, v9, d1, kstore_ref, putAt_zero, putAt_succ, ↓sxPre, sxPost, sxLib, if_true, if_false, Nat.reduceEqDiff, ↓reduceIte, Nat.reduceAdd, Nat.reduceSub, Nat.reduceMul, Nat.reduceLT, Nat.reduceLeDiff, reduceCtorEq, eq_self, K.isEff, List.reduceReplicate]
    exact finRecv (e := { e with owe := true }) (l := []) (tq := t) hs hqa v4 rfl rfl rfl (.inl ⟨rfl, rfl⟩)
  have d1 : decide (p.dst = e.epoch) = true := decide_eq_true hd
  rw [if_neg (by simp [hd])]
  have tail : ∀ (e2 : Ep) (hg : 0 ≤ e2.got ∧ e2.got ≤ 2 ^ 40) (s : Nat) (t : Bool) (ys : List T) (hs : s = 1 ∨ e2.queue = []) (hqa : QAt e2.queue ys), ackd e p = e2 → ∀ (vs : List (Nat × V)), get vs 2 = .ref 0 0 → get vs 4 = .ref 1 0 → get vs 7 = .ref 2 0 → get vs 9 = .t (.bool ag) →
      wpC (SCall PP) 0 rcTail2 (exitK 0 [.cell 4 8 false, .tmp 5, .tmp 6] (RRecv ((took (ackd e p) p).1, (took (ackd e p) p).2, ag))) ⟨vs, [.box (e2.vals (.t (.lst s t ys))), .box [.t (.int .i64 0), .t (.int .i64 0), .t (.int .i64 0), .t (.int .i64 0), .t (.int .i64 0), .t (.int .i64 0), .t (.lst 0 true []), .t (.bool false)], .box ((p.cells sz tz).map V.t)]⟩ := by
    intro e2 hg s t ys hs hqa h vs v2 v4 v7 v9
    rw [h]
    exact recv_tail2 e2 hg p sz tz hsz ag s t ys hs hqa vs v2 v4 v7 v9
  unfold rcTail1
  generalize rcTail2 = TT at tail ⊢
  unfold Ep.vals at tail ⊢
  simp only [Pk.cells, List.map_cons, List.map_nil] at tail ⊢
  by_cases h1 : e.acked < p.ack
  case neg =>
    have c1 : decide (e.acked < p.ack) = false := decide_eq_false h1
    simp (maxSteps := 4000000) -implicitDefEqProofs (disch := omega) only [v2, v4, v7, v9, d1, c1, kstore_ref, putAt_zero, putAt_succ, ↓sxPre, sxPost, sxLib, if_true, if_false, Nat.reduceEqDiff, ↓reduceIte, Nat.reduceAdd, Nat.reduceSub, Nat.reduceMul, Nat.reduceLT, Nat.reduceLeDiff, reduceCtorEq, eq_self, K.isEff, List.reduceReplicate]
    exact tail e ⟨by omega, by omega⟩ s t ys hs hqa (if_neg (fun h => h1 h.1)) _ v2 v4 v7 v9
  have c1 : decide (e.acked < p.ack) = true := decide_eq_true h1
  have c2 : decide (0 < p.ack - e.acked) = true := decide_eq_true (by omega)
  by_cases h3 : p.ack - e.acked ≤ e.queue.length
  case neg =>
    have c3 : decide (p.ack - e.acked ≤ e.queue.length) = false := decide_eq_false h3
    simp (maxSteps := 4000000) -implicitDefEqProofs (disch := omega) only [v2, v4, v7, v9, d1, c1, c2, c3, hyl, kstore_ref, putAt_zero, putAt_succ, ↓sxPre, sxPost, sxLib, if_true, if_false, Nat.reduceEqDiff, ↓reduceIte, Nat.reduceAdd, Nat.reduceSub, Nat.reduceMul, Nat.reduceLT, Nat.reduceLeDiff, reduceCtorEq, eq_self, K.isEff, List.reduceReplicate]
    exact tail e ⟨by omega, by omega⟩ s t ys hs hqa (if_neg (fun h => h3 h.2)) _ v2 v4 v7 v9
  have c3 : decide (p.ack - e.acked ≤ e.queue.length) = true := decide_eq_true h3
  simp (maxSteps := 4000000) -implicitDefEqProofs (disch := omega) only [v2, v4, v7, v9, d1, c1, c2, c3, hyl, kstore_ref, putAt_zero, putAt_succ, ↓sxPre, sxPost, sxLib, if_true, if_false, Nat.reduceEqDiff, ↓reduceIte, Nat.reduceAdd, Nat.reduceSub, Nat.reduceMul, Nat.reduceLT, Nat.reduceLeDiff, reduceCtorEq, eq_self, K.isEff, List.reduceReplicate]
  have htk : ys.take e.queue.length = ys := List.take_of_length_le (by omega)
  have hs2 : s = 1 ∨ e.queue.drop (p.ack - e.acked).toNat = [] := hs.imp id (fun h => by rw [h]; simp)
  have hys : s = 1 ∨ ys = [] := hs.imp id (fun h => by rw [h] at hyl; exact List.length_eq_zero_iff.1 hyl)
  refine ⟨⟨hys, by omega, by omega⟩, ?_⟩
  rw [htk]
  exact tail { e with queue := e.queue.drop (p.ack - e.acked).toNat, acked := p.ack, sent := if e.sent < p.ack then p.ack else e.sent } ⟨by simp only; omega, by simp only; omega⟩ s t _ hs2 (hqa.drop _) (if_pos ⟨h1, h3⟩) _ v2 v4 v7 v9

abbrev rcMeet : Cd := .seq (.rgn transport_Receive.r6) (.cond (.tmp 33) (.seq (.seq (.rgn transport_Receive.r7) (.cond (.tmp 36) (.seq (.rgn transport_Receive.r8) (.rgn transport_Receive.r9)) .skip)) (.rgn transport_Receive.r10)) .skip)

theorem tRecv_sc (e : Ep) (cs : List T) (hA : e.At cs) (hF : e.Fine) (b : List Int) (hb : Bytes b) (hl : b.length ≤ 2 ^ 40) (tb : Bool) : SCall PP N.transport_Receive [.agg (cs.map V.t), .t (.lst 1 tb (B b))] [] (RRecv (recv e b)) := by
  refine transport_Receive.intro (by simp) ?_
  change wpC (SCall PP) 0 (.seq (.rgn transport_Receive.r0) (.seq (.rgn transport_Receive.r1) (.seq (.rgn transport_Receive.r2) (.seq (.seq (.rgn transport_Receive.r3) (.cond (.tmp 27) (.seq (.rgn transport_Receive.r4) .ret) .skip)) (.seq (.rgn transport_Receive.r5) (.seq rcMeet rcTail1)))))) _ _
  have cC := cloneT_sc e cs hA hF.ok
  have cD := RDec.frozen (Decode_sc b hb hl tb)
  obtain ⟨f1, f2⟩ := dec_facts hb
  obtain ⟨s0, t0, ys0, hs0, hqa0, rfl⟩ := hA
  obtain ⟨⟨n1, n2⟩, ⟨n3, n4⟩, ⟨n5, n6⟩, ⟨n7, n8⟩, ⟨n9, n10⟩, ⟨n11, n12⟩, hql, hqb⟩ := id hF
  unfold recv
  generalize dec b = D at *
  obtain ⟨p, er⟩ := D
  simp only [Ep.cells, List.map_cons, List.map_nil] at *
  simp (maxSteps := 4000000) -implicitDefEqProofs (disch := omega) only [↓sxPre, sxPost, sxLib, if_true, if_false, Nat.reduceEqDiff, ↓reduceIte, Nat.reduceAdd, Nat.reduceSub, Nat.reduceMul, Nat.reduceLT, Nat.reduceLeDiff, reduceCtorEq, eq_self, K.isEff, List.reduceReplicate]
  refine step_ep (e := e) ?_ fun c1 hA1 => ?_
  · simpa [V.ren, V.renL, Abs.get, ev] using cC
  obtain ⟨s, t, ys, hs, hqa, rfl⟩ := hA1
  simp only [Ep.cells]
  simp (maxSteps := 4000000) -implicitDefEqProofs (disch := omega) only [kstore_ref, putAt_zero, putAt_succ, ↓sxPre, sxPost, sxLib, if_true, if_false, Nat.reduceEqDiff, ↓reduceIte, Nat.reduceAdd, Nat.reduceSub, Nat.reduceMul, Nat.reduceLT, Nat.reduceLeDiff, reduceCtorEq, eq_self, K.isEff, List.reduceReplicate]
  refine step_decT (D := (p, er)) ?_ fun sz tz hsz => ?_
  · simpa [V.ren, V.renL, Abs.get, ev] using cD
  simp only [Pk.cells]
  by_cases he : er = 0
  case neg =>
    have d1 : decide (er = 0) = false := decide_eq_false he
    rw [if_pos (.inl he)]
    simp (maxSteps := 4000000) -implicitDefEqProofs (disch := omega) only [d1, kstore_ref, putAt_zero, putAt_succ, ↓sxPre, sxPost, sxLib, if_true, if_false, Nat.reduceEqDiff, ↓reduceIte, Nat.reduceAdd, Nat.reduceSub, Nat.reduceMul, Nat.reduceLT, Nat.reduceLeDiff, reduceCtorEq, eq_self, K.isEff, List.reduceReplicate]
    exact finRecv (e := e) (l := []) (tq := t) hs hqa rfl rfl rfl rfl (.inl ⟨rfl, rfl⟩)
  have d1 : decide (er = 0) = true := decide_eq_true he
  obtain ⟨hr, hpb⟩ := f1 he
  simp only [Pk.right, decide_eq_true_eq] at hr
  by_cases hs1 : p.src < e.peer
  · have d2 : decide (p.src < e.peer) = true := decide_eq_true hs1
    rw [if_pos (.inr hs1)]
    simp (maxSteps := 4000000) -implicitDefEqProofs (disch := omega) only [d1, d2, kstore_ref, putAt_zero, putAt_succ, ↓sxPre, sxPost, sxLib, if_true, if_false, Nat.reduceEqDiff, ↓reduceIte, Nat.reduceAdd, Nat.reduceSub, Nat.reduceMul, Nat.reduceLT, Nat.reduceLeDiff, reduceCtorEq, eq_self, K.isEff, List.reduceReplicate]
    exact finRecv (e := e) (l := []) (tq := t) hs hqa rfl rfl rfl rfl (.inl ⟨rfl, rfl⟩)
  have d2 : decide (p.src < e.peer) = false := decide_eq_false hs1
  rw [if_neg (fun h => h.elim (fun h => h he) (fun h => hs1 h))]
  have tail : ∀ (e1 : Ep) (ag : Bool) (s : Nat) (t : Bool) (ys : List T), (s = 1 ∨ e1.queue = []) → QAt e1.queue ys → meet e p = e1 → e1.Fine → decide (e.peer < p.src ∧ e.peer ≠ 0) = ag → ∀ (vs : List (Nat × V)), get vs 2 = .ref 0 0 → get vs 4 = .ref 1 0 → get vs 7 = .ref 2 0 → get vs 9 = .t (.bool ag) →
      wpC (SCall PP) 0 rcTail1 (exitK 0 [.cell 4 8 false, .tmp 5, .tmp 6] (RRecv (if p.dst ≠ (meet e p).epoch then ({ meet e p with owe := true }, [], decide (e.peer < p.src ∧ e.peer ≠ 0)) else ((took (ackd (meet e p) p) p).1, (took (ackd (meet e p) p) p).2, decide (e.peer < p.src ∧ e.peer ≠ 0))))) ⟨vs, [.box (e1.vals (.t (.lst s t ys))), .box [.t (.int .i64 0), .t (.int .i64 0), .t (.int .i64 0), .t (.int .i64 0), .t (.int .i64 0), .t (.int .i64 0), .t (.lst 0 true []), .t (.bool false)], .box ((p.cells sz tz).map V.t)]⟩ := by
    intro e1 ag s t ys hs hqa h1 hF1 h2 vs v2 v4 v7 v9
    rw [h1, h2]
    exact recv_tail1 e1 hF1 p ⟨by omega, by omega⟩ sz tz hsz ag s t ys hs hqa vs v2 v4 v7 v9
  generalize rcTail1 = TT at tail ⊢
  generalize (if p.dst ≠ (meet e p).epoch then ({ meet e p with owe := true }, [], decide (e.peer < p.src ∧ e.peer ≠ 0)) else ((took (ackd (meet e p) p) p).1, (took (ackd (meet e p) p) p).2, decide (e.peer < p.src ∧ e.peer ≠ 0))) = RR at tail ⊢
  unfold Ep.vals at tail
  simp only [Pk.cells, List.map_cons, List.map_nil] at tail
  by_cases hs2 : e.peer < p.src
  case neg =>
    have d3 : decide (e.peer < p.src) = false := decide_eq_false hs2
    simp (maxSteps := 4000000) -implicitDefEqProofs (disch := omega) only [d1, d2, d3, kstore_ref, putAt_zero, putAt_succ, ↓sxPre, sxPost, sxLib, if_true, if_false, Nat.reduceEqDiff, ↓reduceIte, Nat.reduceAdd, Nat.reduceSub, Nat.reduceMul, Nat.reduceLT, Nat.reduceLeDiff, reduceCtorEq, eq_self, K.isEff, List.reduceReplicate]
    exact tail e false s t ys hs hqa (if_neg hs2) hF (decide_eq_false (fun h => hs2 h.1)) _ rfl rfl rfl rfl
  have d3 : decide (e.peer < p.src) = true := decide_eq_true hs2
  by_cases hp0 : e.peer = 0
  · have d4 : decide (e.peer = 0) = true := decide_eq_true hp0
    simp (maxSteps := 4000000) -implicitDefEqProofs (disch := omega) only [d1, d2, d3, d4, kstore_ref, putAt_zero, putAt_succ, ↓sxPre, sxPost, sxLib, if_true, if_false, Nat.reduceEqDiff, ↓reduceIte, Nat.reduceAdd, Nat.reduceSub, Nat.reduceMul, Nat.reduceLT, Nat.reduceLeDiff, reduceCtorEq, eq_self, K.isEff, List.reduceReplicate]
    refine tail { e with peer := p.src, acked := 0, sent := 0, got := 0, timer := 0 } false s t ys hs hqa ?_ ⟨⟨n1, n2⟩, ⟨by simp only; omega, by simp only; omega⟩, ⟨by simp, by simp⟩, ⟨by simp, by simp⟩, ⟨by simp, by simp⟩, ⟨by simp, by simp⟩, hql, hqb⟩ (decide_eq_false (fun h => h.2 hp0)) _ rfl rfl rfl rfl
    unfold meet
    rw [if_pos hs2, if_neg (by simp [hp0])]
  · have d4 : decide (e.peer = 0) = false := decide_eq_false hp0
    simp (maxSteps := 4000000) -implicitDefEqProofs (disch := omega) only [d1, d2, d3, d4, kstore_ref, putAt_zero, putAt_succ, ↓sxPre, sxPost, sxLib, if_true, if_false, Nat.reduceEqDiff, ↓reduceIte, Nat.reduceAdd, Nat.reduceSub, Nat.reduceMul, Nat.reduceLT, Nat.reduceLeDiff, reduceCtorEq, eq_self, K.isEff, List.reduceReplicate]
    refine tail { e with queue := [], peer := p.src, acked := 0, sent := 0, got := 0, timer := 0 } true 0 true [] (.inr rfl) QAt.nil ?_ ⟨⟨n1, n2⟩, ⟨by simp only; omega, by simp only; omega⟩, ⟨by simp, by simp⟩, ⟨by simp, by simp⟩, ⟨by simp, by simp⟩, ⟨by simp, by simp⟩, by simp, (fun b hb => by cases hb)⟩ (decide_eq_true ⟨hs2, hp0⟩) _ rfl rfl rfl rfl
    unfold meet
    rw [if_pos hs2, if_pos hp0]
end Go.Proofs.Ytbpclinijbgchaa
