/- TransportPushes: what the law returns. By the session itself. -/
import Derived.Test.YtbpclinijbgchaaTr6
namespace Go.Proofs.Ytbpclinijbgchaa
open Go Go.Abs
set_option maxRecDepth 100000
set_option maxHeartbeats 8000000
set_option linter.unusedSimpArgs false
set_option linter.unusedVariables false

theorem toT_new {H : Heap} {id n g : Nat} {o : Abs.Obj} (h : H[id]? = some o) (ho : o = .row 1 g (B (List.replicate n 0)) ∨ o = .frz 1 g (B (List.replicate n 0))) : toT H (.sl id 0 n g 1) = some (.lst 1 false (B (List.replicate n 0)), H.set id (.frz 1 g (B (List.replicate n 0)))) := by
  have ht : (B (List.replicate n 0)).take n = B (List.replicate n 0) := List.take_of_length_le (by simp [B])
  rcases ho with rfl | rfl
  · show (match rowOf H[id]? with
      | some (sz', g', xs) => if g = g' ∧ sz' = 1 then some (T.lst 1 false ((xs.drop 0).take n), H.set id (.frz 1 g' xs)) else none
      | none => none) = _
    rw [h]
    simp [rowOf, ht]
  · show (match rowOf H[id]? with
      | some (sz', g', xs) => if g = g' ∧ sz' = 1 then some (T.lst 1 false ((xs.drop 0).take n), H.set id (.frz 1 g' xs)) else none
      | none => none) = _
    rw [h]
    simp [rowOf, ht]

theorem push_ok {e : Ep} {b : List Int} (hq : QOk e.queue) (hb : Bytes b) (hl : b.length ≤ 2 ^ 40) : QOk (push e b).1.queue := by
  unfold push
  split
  · exact ⟨by simp [zeroEp], fun b hb => by simp [zeroEp] at hb⟩
  · split
    · exact ⟨by simp [zeroEp], fun b hb => by simp [zeroEp] at hb⟩
    · rename_i h
      refine ⟨by simp only [List.length_append, List.length_cons, List.length_nil]; omega, fun c hc => ?_⟩
      rcases List.mem_append.1 hc with hc | hc
      · exact hq.2 c hc
      · rw [List.mem_singleton.1 hc]; exact ⟨hb, hl⟩

theorem TransportPushes_main (e : Ep) (cs : List T) (hA : e.At cs) (hqb : ∀ b ∈ e.queue, Bytes b) (body : List Int) (hb : Bytes body) (hbl : body.length ≤ 2 ^ 47) (long : Bool) :
    SCall PP N.debuggerlaw35_TransportPushes [.t (.agg cs), .t (.lst 1 false (B body)), .t (.bool long)] [] (RTree (.bool true)) := by
  refine debuggerlaw35_TransportPushes.intro (by simp) ?_
  obtain ⟨s, t, ys, hs, hqa, rfl⟩ := id hA
  have cL := large_sc e.queue s t ys hs hqa
  by_cases hL : Little e.queue
  case neg =>
    rw [decide_eq_true (show ¬ Little e.queue from hL)] at cL
    simp only [Ep.cells]
    simp (maxSteps := 4000000) -implicitDefEqProofs (disch := omega) only [↓sxPre, sxPost, sxLib, if_true, if_false, Nat.reduceEqDiff, ↓reduceIte, Nat.reduceAdd, Nat.reduceSub, Nat.reduceMul, Nat.reduceLT, Nat.reduceLeDiff, reduceCtorEq, eq_self, K.isEff, List.reduceReplicate]
    refine step_tree (x := .bool true) ?_ rfl ?_
    · simpa [Abs.view, viewL, Abs.get, ev] using cL
    simp (maxSteps := 4000000) -implicitDefEqProofs (disch := omega) only [↓sxPre, sxPost, sxLib, if_true, if_false, Nat.reduceEqDiff, ↓reduceIte, Nat.reduceAdd, Nat.reduceSub, Nat.reduceMul, Nat.reduceLT, Nat.reduceLeDiff, reduceCtorEq, eq_self, K.isEff, List.reduceReplicate]
    refine step_tree awake35_sc rfl ?_
    simp (maxSteps := 4000000) -implicitDefEqProofs (disch := omega) only [↓sxPre, sxPost, sxLib, if_true, if_false, Nat.reduceEqDiff, ↓reduceIte, Nat.reduceAdd, Nat.reduceSub, Nat.reduceMul, Nat.reduceLT, Nat.reduceLeDiff, reduceCtorEq, eq_self, K.isEff, List.reduceReplicate]
    refine finK_gc [] ?_
    simp [gcSt, keepOk, finG, resV, resOne, resAll, idx, V.ren, V.renL, Obj.ren, get_cons, get_nil, RTree, RTup, RRow]
  have hLf : decide (¬ Little e.queue) = false := decide_eq_false (fun h => h hL)
  rw [hLf] at cL
  have hq : QOk e.queue := ⟨by have := hL.1; omega, fun b hb => ⟨hqb b hb, by have := hL.2 b hb; omega⟩⟩
  cases d1 : decide ((300 : Int) < body.length) with
  | true =>
    simp only [Ep.cells]
    simp (maxSteps := 4000000) -implicitDefEqProofs (disch := omega) only [↓sxPre, sxPost, sxLib, if_true, if_false, Nat.reduceEqDiff, ↓reduceIte, Nat.reduceAdd, Nat.reduceSub, Nat.reduceMul, Nat.reduceLT, Nat.reduceLeDiff, reduceCtorEq, eq_self, K.isEff, List.reduceReplicate]
    refine step_tree (x := .bool false) ?_ rfl ?_
    · simpa [Abs.view, viewL, Abs.get, ev] using cL
    simp (maxSteps := 4000000) -implicitDefEqProofs (disch := omega) only [B_length, d1, ↓sxPre, sxPost, sxLib, if_true, if_false, Nat.reduceEqDiff, ↓reduceIte, Nat.reduceAdd, Nat.reduceSub, Nat.reduceMul, Nat.reduceLT, Nat.reduceLeDiff, reduceCtorEq, eq_self, K.isEff, List.reduceReplicate]
    refine step_tree awake35_sc rfl ?_
    simp (maxSteps := 4000000) -implicitDefEqProofs (disch := omega) only [↓sxPre, sxPost, sxLib, if_true, if_false, Nat.reduceEqDiff, ↓reduceIte, Nat.reduceAdd, Nat.reduceSub, Nat.reduceMul, Nat.reduceLT, Nat.reduceLeDiff, reduceCtorEq, eq_self, K.isEff, List.reduceReplicate]
    refine finK_gc [] ?_
    simp [gcSt, keepOk, finG, resV, resOne, resAll, idx, V.ren, V.renL, Obj.ren, get_cons, get_nil, RTree, RTup, RRow]
  | false =>
  have d1' := of_decide_eq_false d1
  have cS : ∀ (b : List Int) (c1 c2 : List T), Bytes b → b.length ≤ 2 ^ 40 → (push e b).1.At c1 → (push e b).1.At c2 → SCall PP N.debuggerlaw35_same [.agg (c1.map V.t), .agg (c2.map V.t)] [] (RTree (.bool true)) :=
    fun b c1 c2 hb hl h1 h2 => same35_sc _ c1 c2 h1 h2 (push_ok hq hb hl)
  have cP := fun (b : List Int) (hb : Bytes b) => tPush_sc e _ hA hq b hb 1 false (.inl rfl)
  have cP2 := fun (b : List Int) (hb : Bytes b) => rtPush_sc e _ hA hq b hb 1 false (.inl rfl)
  simp only [Ep.cells, List.map_cons, List.map_nil] at cP cP2 ⊢
  cases long with
  | false =>
    have cPb := cP body hb
    have cPb2 := cP2 body hb
    have cSb := cS body
    generalize push e body = D at *
    obtain ⟨e', er⟩ := D
    simp only at cSb
    simp (maxSteps := 4000000) -implicitDefEqProofs (disch := omega) only [↓sxPre, sxPost, sxLib, if_true, if_false, Nat.reduceEqDiff, ↓reduceIte, Nat.reduceAdd, Nat.reduceSub, Nat.reduceMul, Nat.reduceLT, Nat.reduceLeDiff, reduceCtorEq, eq_self, K.isEff, List.reduceReplicate]
    refine step_tree (x := .bool false) ?_ rfl ?_
    · simpa [Abs.view, viewL, Abs.get, ev] using cL
    simp (maxSteps := 4000000) -implicitDefEqProofs (disch := omega) only [B_length, d1, ↓sxPre, sxPost, sxLib, if_true, if_false, Nat.reduceEqDiff, ↓reduceIte, Nat.reduceAdd, Nat.reduceSub, Nat.reduceMul, Nat.reduceLT, Nat.reduceLeDiff, reduceCtorEq, eq_self, K.isEff, List.reduceReplicate]
    refine step_epE (D := (e', er)) ?_ fun c1 hA1 => ?_
    · simpa [V.ren, V.renL, Abs.get, ev] using cPb
    obtain ⟨s1, t1, y1, hs1, hq1, rfl⟩ := id hA1
    simp only [Ep.cells]
    simp (maxSteps := 4000000) -implicitDefEqProofs (disch := omega) only [kstore_ref, putAt_zero, putAt_succ, ↓sxPre, sxPost, sxLib, if_true, if_false, Nat.reduceEqDiff, ↓reduceIte, Nat.reduceAdd, Nat.reduceSub, Nat.reduceMul, Nat.reduceLT, Nat.reduceLeDiff, reduceCtorEq, eq_self, K.isEff, List.reduceReplicate]
    refine step_epE (D := (e', er)) ?_ fun c2 hA2 => ?_
    · simpa [V.ren, V.renL, Abs.get, ev] using cPb2
    obtain ⟨s2, t2, y2, hs2, hq2, rfl⟩ := id hA2
    have cS1 := cSb _ _ hb (by omega) hA1 hA2
    have d2 : decide (er = er) = true := decide_eq_true rfl
    simp only [Ep.cells, List.map_cons, List.map_nil] at cS1 ⊢
    simp (maxSteps := 4000000) -implicitDefEqProofs (disch := omega) only [kstore_ref, putAt_zero, putAt_succ, d2, ↓sxPre, sxPost, sxLib, if_true, if_false, Nat.reduceEqDiff, ↓reduceIte, Nat.reduceAdd, Nat.reduceSub, Nat.reduceMul, Nat.reduceLT, Nat.reduceLeDiff, reduceCtorEq, eq_self, K.isEff, List.reduceReplicate]
    refine step_guard rfl (fun _ => step_tree (x := .bool true) ?_ rfl ?_) (fun h => absurd rfl h)
    · simpa [Abs.view, viewL, Abs.get, ev] using cS1
    simp (maxSteps := 4000000) -implicitDefEqProofs (disch := omega) only [↓sxPre, sxPost, sxLib, if_true, if_false, Nat.reduceEqDiff, ↓reduceIte, Nat.reduceAdd, Nat.reduceSub, Nat.reduceMul, Nat.reduceLT, Nat.reduceLeDiff, reduceCtorEq, eq_self, K.isEff, List.reduceReplicate]
    refine step_guard rfl (fun _ => step_tree awake35_sc rfl ?_) (fun h => absurd rfl h)
    simp (maxSteps := 4000000) -implicitDefEqProofs (disch := omega) only [↓sxPre, sxPost, sxLib, if_true, if_false, Nat.reduceEqDiff, ↓reduceIte, Nat.reduceAdd, Nat.reduceSub, Nat.reduceMul, Nat.reduceLT, Nat.reduceLeDiff, reduceCtorEq, eq_self, K.isEff, List.reduceReplicate]
    refine finK_gc [] ?_
    simp [gcSt, keepOk, finG, resV, resOne, resAll, idx, V.ren, V.renL, Obj.ren, get_cons, get_nil, RTree, RTup, RRow]
  | true =>
    have hm : (body.length : Int).tmod 2 = ((body.length % 2 : Nat) : Int) := by rw [Int.tmod_eq_emod_of_nonneg (by omega)]; omega
    simp (maxSteps := 4000000) -implicitDefEqProofs (disch := omega) only [↓sxPre, sxPost, sxLib, if_true, if_false, Nat.reduceEqDiff, ↓reduceIte, Nat.reduceAdd, Nat.reduceSub, Nat.reduceMul, Nat.reduceLT, Nat.reduceLeDiff, reduceCtorEq, eq_self, K.isEff, List.reduceReplicate]
    refine step_tree (x := .bool false) ?_ rfl ?_
    · simpa [Abs.view, viewL, Abs.get, ev] using cL
    simp (maxSteps := 4000000) -implicitDefEqProofs (disch := omega) only [B_length, d1, hm, ↓sxPre, sxPost, sxLib, if_true, if_false, Nat.reduceEqDiff, ↓reduceIte, Nat.reduceAdd, Nat.reduceSub, Nat.reduceMul, Nat.reduceLT, Nat.reduceLeDiff, reduceCtorEq, eq_self, K.isEff, List.reduceReplicate]
    have hn : (6001 + ((body.length % 2 : Nat) : Int) - 1).toNat ≤ 7000 := by omega
    refine ⟨by decide, ⟨by omega, by omega, by omega, by omega⟩, ?_⟩
    generalize (6001 + ((body.length % 2 : Nat) : Int) - 1).toNat = n at *
    have hrep : List.replicate n (T.int .u8 0) = B (List.replicate n 0) := by simp [B]
    rw [hrep]
    have hb : Bytes (List.replicate n 0) := by intro x hx; rw [List.eq_of_mem_replicate hx]; omega
    have cPb := cP _ hb
    have cPb2 := cP2 _ hb
    have cSb := cS (List.replicate n 0)
    generalize push e (List.replicate n 0) = D at *
    obtain ⟨e', er⟩ := D
    simp only at cSb
    refine step_epEf (D := (e', er)) (x := .lst 1 false (B (List.replicate n 0))) 1 rfl (toT_new (g := 0) rfl (.inl rfl)) ?_ fun c1 hA1 => ?_
    · simpa [V.ren, V.renL, Abs.get, ev] using cPb
    obtain ⟨s1, t1, y1, hs1, hq1, rfl⟩ := id hA1
    simp only [Ep.cells]
    simp (maxSteps := 4000000) -implicitDefEqProofs (disch := omega) only [kstore_ref, putAt_zero, putAt_succ, ↓sxPre, sxPost, sxLib, if_true, if_false, Nat.reduceEqDiff, ↓reduceIte, Nat.reduceAdd, Nat.reduceSub, Nat.reduceMul, Nat.reduceLT, Nat.reduceLeDiff, reduceCtorEq, eq_self, K.isEff, List.reduceReplicate]
    refine step_epEf (D := (e', er)) (x := .lst 1 false (B (List.replicate n 0))) 1 rfl (toT_new (g := 0) rfl (.inr rfl)) ?_ fun c2 hA2 => ?_
    · simpa [V.ren, V.renL, Abs.get, ev] using cPb2
    obtain ⟨s2, t2, y2, hs2, hq2, rfl⟩ := id hA2
    have cS1 := cSb _ _ hb (by rw [List.length_replicate]; omega) hA1 hA2
    have d2 : decide (er = er) = true := decide_eq_true rfl
    simp only [Ep.cells, List.map_cons, List.map_nil] at cS1 ⊢
    simp (maxSteps := 4000000) -implicitDefEqProofs (disch := omega) only [kstore_ref, putAt_zero, putAt_succ, d2, ↓sxPre, sxPost, sxLib, if_true, if_false, Nat.reduceEqDiff, ↓reduceIte, Nat.reduceAdd, Nat.reduceSub, Nat.reduceMul, Nat.reduceLT, Nat.reduceLeDiff, reduceCtorEq, eq_self, K.isEff, List.reduceReplicate]
    refine step_guard rfl (fun _ => step_tree (x := .bool true) ?_ rfl ?_) (fun h => absurd rfl h)
    · simpa [Abs.view, viewL, Abs.get, ev] using cS1
    simp (maxSteps := 4000000) -implicitDefEqProofs (disch := omega) only [↓sxPre, sxPost, sxLib, if_true, if_false, Nat.reduceEqDiff, ↓reduceIte, Nat.reduceAdd, Nat.reduceSub, Nat.reduceMul, Nat.reduceLT, Nat.reduceLeDiff, reduceCtorEq, eq_self, K.isEff, List.reduceReplicate]
    refine step_guard rfl (fun _ => step_tree awake35_sc rfl ?_) (fun h => absurd rfl h)
    simp (maxSteps := 4000000) -implicitDefEqProofs (disch := omega) only [↓sxPre, sxPost, sxLib, if_true, if_false, Nat.reduceEqDiff, ↓reduceIte, Nat.reduceAdd, Nat.reduceSub, Nat.reduceMul, Nat.reduceLT, Nat.reduceLeDiff, reduceCtorEq, eq_self, K.isEff, List.reduceReplicate]
    refine finK_gc [] ?_
    simp [gcSt, keepOk, finG, resV, resOne, resAll, idx, V.ren, V.renL, Obj.ren, get_cons, get_nil, RTree, RTup, RRow]

/-- An endpoint of any size. -/
abbrev epSh : List Sh := [.int .i64, .int .i64, .int .i64, .int .i64, .int .i64, .int .i64, .lst false [.lst false [.int .u8]], .bool]

theorem msgs_inv : ∀ {xs : List T}, (∀ x ∈ xs, Fits (.lst false [.int .u8]) x) → ∃ q : List (List Int), xs = q.map (fun l => T.lst 1 false (B l)) ∧ ∀ b ∈ q, Bytes b ∧ b.length ≤ maxLen
  | [], _ => ⟨[], rfl, fun b hb => by cases hb⟩
  | x :: xs, h => by
    obtain ⟨q, rfl, hq⟩ := msgs_inv (xs := xs) (fun y hy => h y (List.mem_cons_of_mem _ hy))
    obtain ⟨l, rfl, wl, hl⟩ := (h x (List.mem_cons_self)).ints_inv
    refine ⟨l :: q, rfl, fun b hb => ?_⟩
    rcases List.mem_cons.1 hb with rfl | hb
    · exact ⟨fun x hx => u8_of (wl x hx), hl⟩
    · exact hq b hb

theorem msgs_at (q : List (List Int)) : QAt q (q.map (fun l => T.lst 1 false (B l))) := by
  refine ⟨by simp, fun i h => ⟨1, false, .inl rfl, ?_⟩⟩
  simp [T.at, List.getD_eq_getElem?_getD, h]

theorem Cells.ep {W : World} {ts : List T} {cs : List Value} (h : Cells W epSh ts cs) : ∃ e : Ep, (I64 e.epoch ∧ I64 e.peer ∧ I64 e.acked ∧ I64 e.sent ∧ I64 e.got ∧ I64 e.timer) ∧ (∀ b ∈ e.queue, Bytes b) ∧ e.At ts := by
  obtain ⟨_, _, _, _, rfl, rfl, f1, _, h⟩ := h.head
  obtain ⟨_, _, _, _, rfl, rfl, f2, _, h⟩ := h.head
  obtain ⟨_, _, _, _, rfl, rfl, f3, _, h⟩ := h.head
  obtain ⟨_, _, _, _, rfl, rfl, f4, _, h⟩ := h.head
  obtain ⟨_, _, _, _, rfl, rfl, f5, _, h⟩ := h.head
  obtain ⟨_, _, _, _, rfl, rfl, f6, _, h⟩ := h.head
  obtain ⟨_, _, _, _, rfl, rfl, f7, _, h⟩ := h.head
  obtain ⟨_, _, _, _, rfl, rfl, f8, _, h⟩ := h.head
  obtain ⟨rfl, rfl⟩ := h.tail_nil
  obtain ⟨n1, rfl, w1⟩ := f1.int_inv
  obtain ⟨n2, rfl, w2⟩ := f2.int_inv
  obtain ⟨n3, rfl, w3⟩ := f3.int_inv
  obtain ⟨n4, rfl, w4⟩ := f4.int_inv
  obtain ⟨n5, rfl, w5⟩ := f5.int_inv
  obtain ⟨n6, rfl, w6⟩ := f6.int_inv
  cases f8 with
  | bool b =>
  cases f7 with
  | lst hl hx =>
    obtain ⟨q, rfl, hq⟩ := msgs_inv hx
    exact ⟨⟨n1, n2, n3, n4, n5, n6, q, b⟩, ⟨i64_of w1, i64_of w2, i64_of w3, i64_of w4, i64_of w5, i64_of w6⟩, fun b hb => (hq b hb).1, ⟨1, false, _, .inl rfl, msgs_at q, rfl⟩⟩

theorem TransportPushes_sc {W : World} {ts : List T} {cs : List Value} (h : Cells W epSh ts cs) {a : Option Addr} {len cap : Nat} {z : List Int} (w : IsRow .u8 W a len cap z) (y : len * 1 ≤ 140737488351232) (long : Bool) :
    SCall PP N.debuggerlaw35_TransportPushes [.t (.agg ts), .t (.lst 1 false ((z.take len).map (T.int .u8))), .t (.bool long)] [] (RTree (.bool true)) := by
  obtain ⟨e, _, hqb, hA⟩ := Cells.ep h
  exact TransportPushes_main e ts hA hqb (z.take len) (IsRow.bytes w) (by rw [w.length]; omega) long
end Go.Proofs.Ytbpclinijbgchaa
