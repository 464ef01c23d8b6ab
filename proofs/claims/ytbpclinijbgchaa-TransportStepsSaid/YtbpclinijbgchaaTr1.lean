/- Transport: endpoints, and their copies. By the session itself. -/
import Derived.Test.YtbpclinijbgchaaCodes
import Derived.Test.YtbpclinijbgchaaL2
import Derived.Test.YtbpclinijbgchaaFtransport
import Derived.Test.YtbpclinijbgchaaFdebuggerref35
namespace Go.Proofs.Ytbpclinijbgchaa
open Go Go.Abs
set_option maxRecDepth 100000
set_option maxHeartbeats 8000000
set_option linter.unusedSimpArgs false
set_option linter.unusedVariables false

/-- An endpoint. -/
structure Ep where
  epoch : Int
  peer : Int
  acked : Int
  sent : Int
  got : Int
  timer : Int
  queue : List (List Int)
  owe : Bool
  deriving DecidableEq

/-- Messages as trees. -/
def QAt (q : List (List Int)) (ys : List T) : Prop := ys.length = q.length ∧ ∀ (i : Nat) (h : i < q.length), ∃ s t, (s = 1 ∨ q[i] = []) ∧ T.at ys i = .lst s t (B q[i])
def Ep.cells (e : Ep) (s : Nat) (t : Bool) (ys : List T) : List T := [.int .i64 e.epoch, .int .i64 e.peer, .int .i64 e.acked, .int .i64 e.sent, .int .i64 e.got, .int .i64 e.timer, .lst s t ys, .bool e.owe]
def Ep.At (e : Ep) (cs : List T) : Prop := ∃ s t ys, (s = 1 ∨ e.queue = []) ∧ QAt e.queue ys ∧ cs = e.cells s t ys
/-- Messages of a bearable size. -/
def QOk (q : List (List Int)) : Prop := q.length ≤ 2 ^ 40 ∧ ∀ b ∈ q, Bytes b ∧ b.length ≤ 2 ^ 40

def REp (e : Ep) (r : V) (F : Heap) : Prop := ∃ cs, e.At cs ∧ r = .t (.agg cs) ∧ F = []
def REpE (D : Ep × Int) (r : V) (F : Heap) : Prop := ∃ cs, D.1.At cs ∧ r = .tup [.t (.agg cs), .t (.int .i64 D.2)] ∧ F = []

theorem step_ep {P : Program} {f : FuncId} {H : Heap} {K : St → Prop} {vs : List (Nat × V)} {r : List Ins} {d : Nat} {xs : List Opnd} {e : Ep}
    (h : SCall P f ((xs.map (ev vs)).map (V.ren (idx []))) [] (REp e)) (hk : ∀ cs, e.At cs → wpR (SCall P) r K ⟨(d, .t (.agg cs)) :: vs, H⟩) : wpR (SCall P) (⟨some d, none, .call f xs⟩ :: r) K ⟨vs, H⟩ := by
  refine step_call (call_own h ?_)
  rintro r N ⟨cs, h1, rfl, rfl⟩
  simpa [V.ren, V.renL] using hk cs h1

theorem toElem_rw {H : Heap} {id off len gen sz : Nat} : toElem H (.sl id off len gen sz) = (match rowOf H[id]? with
    | some (sz', g, xs) => if gen = g ∧ sz' = sz then some (.lst sz false ((xs.drop off).take len), H.set id (.frz sz g xs)) else none
    | none => none) := (rfl)

theorem QAt.snoc {q : List (List Int)} {ys : List T} (h : QAt q ys) (b : List Int) {s : Nat} {t : Bool} (hs : s = 1 ∨ b = []) : QAt (q ++ [b]) (ys ++ [.lst s t (B b)]) := by
  obtain ⟨h1, h2⟩ := h
  refine ⟨by simp [h1], fun i hi => ?_⟩
  by_cases hlt : i < q.length
  · have e : T.at (ys ++ [.lst s t (B b)]) i = T.at ys i := by simp [T.at, List.getD_eq_getElem?_getD, List.getElem?_append_left (show i < ys.length by omega)]
    rw [e]
    simp only [List.getElem_append_left hlt]
    exact h2 i hlt
  · obtain rfl : i = q.length := by simp at hi; omega
    have e : T.at (ys ++ [.lst s t (B b)]) q.length = .lst s t (B b) := by simp [T.at, List.getD_eq_getElem?_getD, ← h1]
    rw [e]
    rw [List.getElem_append_right (Nat.le_refl _)]
    simp only [Nat.sub_self, List.getElem_cons_zero]
    exact ⟨s, t, hs, rfl⟩

theorem QAt.nil : QAt [] [] := ⟨rfl, fun i h => absurd h (by simp)⟩

/-- A copy: its queue is new memory. -/
def Ep.vals (e : Ep) (x : V) : List V := [.t (.int .i64 e.epoch), .t (.int .i64 e.peer), .t (.int .i64 e.acked), .t (.int .i64 e.sent), .t (.int .i64 e.got), .t (.int .i64 e.timer), x, .t (.bool e.owe)]
def RCl (e : Ep) (r : V) (F : Heap) : Prop := (e.queue = [] ∧ r = .agg (e.vals (.t (.lst 0 true []))) ∧ F = []) ∨ ∃ g zs, QAt e.queue zs ∧ r = .agg (e.vals (.sl 0 0 e.queue.length g 1)) ∧ F = [.row 1 g zs]

theorem step_cl {P : Program} {f : FuncId} {H : Heap} {K : St → Prop} {vs : List (Nat × V)} {r : List Ins} {d : Nat} {xs : List Opnd} {e : Ep}
    (h : SCall P f ((xs.map (ev vs)).map (V.ren (idx []))) [] (RCl e)) (h0 : e.queue = [] → wpR (SCall P) r K ⟨(d, .agg (e.vals (.t (.lst 0 true [])))) :: vs, H⟩)
    (h1 : ∀ g zs, QAt e.queue zs → wpR (SCall P) r K ⟨(d, .agg (e.vals (.sl H.length 0 e.queue.length g 1))) :: vs, H ++ [.row 1 g zs]⟩) : wpR (SCall P) (⟨some d, none, .call f xs⟩ :: r) K ⟨vs, H⟩ := by
  refine step_call (call_own h ?_)
  rintro r N (⟨h2, rfl, rfl⟩ | ⟨g, zs, h2, rfl, rfl⟩)
  · simpa [V.ren, V.renL, Ep.vals] using h0 h2
  · simpa [V.ren, V.renL, Ep.vals, tau, Obj.ren] using h1 g zs h2

theorem vals_toElem (e : Ep) (x : V) (H : Heap) (hx : (e.queue = [] ∧ x = .t (.lst 0 true [])) ∨ (∃ s t ys, (s = 1 ∨ e.queue = []) ∧ QAt e.queue ys ∧ x = .t (.lst s t ys)) ∨ ∃ rid off g zs, x = .sl rid off e.queue.length g 1 ∧ H[rid]? = some (.row 1 g zs) ∧ QAt e.queue ((zs.drop off).take e.queue.length)) :
    ∃ cs H1, toElem H (.agg (e.vals x)) = some (.agg cs, H1) ∧ e.At cs := by
  rcases hx with ⟨h0, rfl⟩ | ⟨s, t, ys, hs, hq, rfl⟩ | ⟨rid, off, g, zs, rfl, hr, hq⟩
  · refine ⟨e.cells 0 true [], H, ?_, 0, true, [], .inr h0, by rw [h0]; exact QAt.nil, rfl⟩
    simp only [Ep.vals, Ep.cells, toElem_agg, toTs_cons, toTs_nil, toT_t]
  · refine ⟨e.cells s t ys, H, ?_, s, t, ys, hs, hq, rfl⟩
    simp only [Ep.vals, Ep.cells, toElem_agg, toTs_cons, toTs_nil, toT_t]
  · refine ⟨e.cells 1 false ((zs.drop off).take e.queue.length), H.set rid (.frz 1 g zs), ?_, 1, false, _, .inl rfl, hq, rfl⟩
    simp only [Ep.vals, Ep.cells, toElem_agg, toTs_cons, toTs_nil, toT_t]
    have : toT H (.sl rid off e.queue.length g 1) = some (.lst 1 false ((zs.drop off).take e.queue.length), H.set rid (.frz 1 g zs)) := by
      show (match rowOf H[rid]? with
        | some (sz', g', xs) => if g = g' ∧ sz' = 1 then some (T.lst 1 false ((xs.drop off).take e.queue.length), H.set rid (.frz 1 g' xs)) else none
        | none => none) = _
      rw [hr]
      simp [rowOf]
    rw [this]

theorem finE {slot id u : Nat} {e : Ep} {c : Int} {x : V} {s : St} (h1 : get s.vs slot = .ref id 0) (h2 : s.h[id]? = some (.box (e.vals x))) (h3 : get s.vs u = .t (.int .i64 c))
    (hx : (e.queue = [] ∧ x = .t (.lst 0 true [])) ∨ (∃ s t ys, (s = 1 ∨ e.queue = []) ∧ QAt e.queue ys ∧ x = .t (.lst s t ys)) ∨ ∃ rid off g zs, x = .sl rid off e.queue.length g 1 ∧ s.h[rid]? = some (.row 1 g zs) ∧ QAt e.queue ((zs.drop off).take e.queue.length)) :
    finK 0 [.cell slot 8 false, .tmp u] (REpE (e, c)) s := by
  obtain ⟨cs, H1, hE, hAt⟩ := vals_toElem e x s.h hx
  refine finK_tup (n := 0) [] (c := True) (vs := [.agg (e.vals x), .t (.int .i64 c)]) (xs := [.agg cs, .int .i64 c]) (H1 := H1) ?_ trivial ?_ (by simp [keepOk]) ⟨cs, hAt, rfl, rfl⟩
  · simp [resV, resAll, resOne, h1, h2, h3, kloadN_ref, Ep.vals]
  · simp only [toElems_cons, toElems_nil, hE, toElem_t]

theorem clone_sc (e : Ep) (cs : List T) (hA : e.At cs) (hq : QOk e.queue) : SCall PP N.transport_clone [.agg (cs.map V.t)] [] (RCl e) := by
  refine transport_clone.intro (by simp) ?_
  obtain ⟨s, t, ys, hs, ⟨hyl, hya⟩, rfl⟩ := hA
  obtain ⟨ep, pe, ac, se, go, ti, q, ow⟩ := e
  simp only [Ep.cells, List.map_cons, List.map_nil] at *
  obtain ⟨hql, hqb⟩ := hq
  simp (maxSteps := 4000000) -implicitDefEqProofs (disch := omega) only [↓sxPre, sxPost, sxLib, if_true, if_false, Nat.reduceEqDiff, ↓reduceIte, Nat.reduceAdd, Nat.reduceSub, Nat.reduceMul, Nat.reduceLT, Nat.reduceLeDiff, reduceCtorEq, eq_self, K.isEff, List.reduceReplicate]
  refine wpC_loop_any [1, 2, 3, 7, 8, 9] (fun m st => ∃ (i : Nat) (zs : List T) (x : V) (H : Heap), m + i = q.length ∧ QAt (q.take i) zs ∧
      ((i = 0 ∧ x = .t (.lst 0 true []) ∧ H = []) ∨ ∃ g, x = .sl 2 0 i g 1 ∧ H = [.row 1 g zs]) ∧
      st = ⟨[(1, .ref 0 0), (2, .ref 1 0), (3, x), (7, .t (.lst s t ys)), (8, .t (.int .i64 q.length)), (9, .t (.int .i64 i))],
        .box [.t (.int .i64 ep), .t (.int .i64 pe), .t (.int .i64 ac), .t (.int .i64 se), .t (.int .i64 go), .t (.int .i64 ti), .t (.lst s t ys), .t (.bool ow)] :: .box [.t (.int .i64 0), .t (.int .i64 0), .t (.int .i64 0), .t (.int .i64 0), .t (.int .i64 0), .t (.int .i64 0), .t (.lst 0 true []), .t (.bool false)] :: H⟩) q.length
    ⟨[0, 1], by simp [keepOk], 0, [], _, [], by omega, QAt.nil, .inl ⟨rfl, rfl, rfl⟩, by simp [hyl, gcSt, keepOk, finG, resV, resOne, resAll, idx, V.ren, V.renL, Obj.ren, get_cons, get_nil, RTree, RTup, RRow]⟩ ?_
  rintro m st ⟨i, zs, x, H, hm, hz, hxH, rfl⟩
  by_cases hi : i < q.length
  · have hi' : (i : Int) < q.length := by omega
    obtain ⟨s1, t1, hs1, hat⟩ := hya i hi
    have hs' : s = 1 := hs.resolve_right (by rintro rfl; simp at hi)
    subst hs'
    have hb := hqb _ (List.getElem_mem hi)
    have htk : q.take (i + 1) = q.take i ++ [q[i]] := List.take_succ_eq_append_getElem hi
    have hz' : ∀ t2, QAt (q.take (i + 1)) (zs ++ [.lst 1 t2 (B q[i])]) := fun t2 => by rw [htk]; exact hz.snoc _ (.inl rfl)
    have hzl : zs.length = i := by rw [hz.1, List.length_take]; omega
    generalize q[i] = b at *
    have helem : ∀ H, elems H 1 (.t (.lst s1 t1 (B b))) = some (B b) := by
      intro H
      simp only [elems]
      rcases hs1 with h | h
      · rw [if_pos (.inl h)]
      · rw [if_pos (.inr (by rw [h]; rfl))]
    rcases hxH with ⟨rfl, rfl, rfl⟩ | ⟨g, rfl, rfl⟩
    · simp (maxSteps := 4000000) -implicitDefEqProofs (disch := omega) only [hi', hyl, Int.toNat_natCast, hat, at_zero, helem, kappend_nil, keff_buildSlice, toElems_cons, toElems_nil, toElem_rw, setElems_cons, setElems_nil, B_length, B_all, elems_lst', hzl, ↓sxPre, sxPost, sxLib, if_true, if_false, Nat.reduceEqDiff, ↓reduceIte, Nat.reduceAdd, Nat.reduceSub, Nat.reduceMul, Nat.reduceLT, Nat.reduceLeDiff, reduceCtorEq, eq_self, K.isEff, List.reduceReplicate]
      refine ⟨by omega, by omega, by decide, m - 1, by omega, [0, 1, 3], by simp [gcSt, keepOk, finG, resV, resOne, resAll, idx, V.ren, V.renL, Obj.ren, get_cons, get_nil, RTree, RTup, RRow], 1, _, _, _, by omega, hz' false, .inr ⟨0, rfl, rfl⟩, ?_⟩
      have hz0 : zs = [] := List.length_eq_zero_iff.1 hzl
      simp [hz0, gcSt, keepOk, finG, resV, resOne, resAll, idx, V.ren, V.renL, Obj.ren, get_cons, get_nil, RTree, RTup, RRow]
    · simp (maxSteps := 4000000) -implicitDefEqProofs (disch := omega) only [hi', hyl, Int.toNat_natCast, hat, at_zero, helem, kappend_nil, keff_buildSlice, toElems_cons, toElems_nil, toElem_rw, setElems_cons, setElems_nil, B_length, B_all, elems_lst', hzl, ↓sxPre, sxPost, sxLib, if_true, if_false, Nat.reduceEqDiff, ↓reduceIte, Nat.reduceAdd, Nat.reduceSub, Nat.reduceMul, Nat.reduceLT, Nat.reduceLeDiff, reduceCtorEq, eq_self, K.isEff, List.reduceReplicate]
      refine ⟨by omega, by omega, by omega, m - 1, by omega, [0, 1, 2], by simp [gcSt, keepOk, finG, resV, resOne, resAll, idx, V.ren, V.renL, Obj.ren, get_cons, get_nil, RTree, RTup, RRow], i + 1, _, _, _, by omega, hz' false, .inr ⟨g + 1, rfl, rfl⟩, ?_⟩
      simp [gcSt, keepOk, finG, resV, resOne, resAll, idx, V.ren, V.renL, Obj.ren, get_cons, get_nil, RTree, RTup, RRow]
  · have hi' : ¬ (i : Int) < q.length := by omega
    obtain rfl : i = q.length := by rcases hxH with ⟨h, _⟩ | ⟨g, _⟩ <;> omega
    rw [List.take_length] at hz
    have hzt : zs.take q.length = zs := List.take_of_length_le (by rw [hz.1]; omega)
    rcases hxH with ⟨h0, rfl, rfl⟩ | ⟨g, rfl, rfl⟩
    · have hq0 : q = [] := List.length_eq_zero_iff.1 h0
      simp (maxSteps := 4000000) -implicitDefEqProofs (disch := omega) only [hi', kstore_ref, putAt_zero, putAt_succ, ↓sxPre, sxPost, sxLib, if_true, if_false, Nat.reduceEqDiff, ↓reduceIte, Nat.reduceAdd, Nat.reduceSub, Nat.reduceMul, Nat.reduceLT, Nat.reduceLeDiff, reduceCtorEq, eq_self, K.isEff, List.reduceReplicate]
      refine finK_gc [] ?_
      simp [RCl, Ep.vals, hq0, kloadN_ref, gcSt, keepOk, finG, resV, resOne, resAll, idx, V.ren, V.renL, Obj.ren, get_cons, get_nil, RTree, RTup, RRow]
    · simp (maxSteps := 4000000) -implicitDefEqProofs (disch := omega) only [hi', kstore_ref, putAt_zero, putAt_succ, ↓sxPre, sxPost, sxLib, if_true, if_false, Nat.reduceEqDiff, ↓reduceIte, Nat.reduceAdd, Nat.reduceSub, Nat.reduceMul, Nat.reduceLT, Nat.reduceLeDiff, reduceCtorEq, eq_self, K.isEff, List.reduceReplicate]
      refine finK_gc [2] ⟨by simp [keepOk], ?_⟩
      simp only [finG, resV, resAll, resOne, get_cons, kloadN_ref]
      refine ⟨by simp, .inr ⟨g, zs, hz, ?_, ?_⟩⟩
      · simp [Ep.vals, V.ren, V.renL, idx]
      · simp [Obj.ren]

def zeroEp : Ep := ⟨0, 0, 0, 0, 0, 0, [], false⟩

theorem tNew_sc (n : Int) : SCall PP N.transport_New [.t (.int .i64 n)] [] (REp ⟨n, 0, 0, 0, 0, 0, [], false⟩) := by
  refine transport_New.intro (by simp) ?_
  simp (maxSteps := 4000000) -implicitDefEqProofs (disch := omega) only [stepK_build', fillV, kstore_ref, putAt_zero, putAt_succ, ↓sxPre, sxPost, sxLib, if_true, if_false, Nat.reduceEqDiff, ↓reduceIte, Nat.reduceAdd, Nat.reduceSub, Nat.reduceMul, Nat.reduceLT, Nat.reduceLeDiff, reduceCtorEq, eq_self, K.isEff, List.reduceReplicate]
  refine finK_one (n := 0) [] (c := True) (v := .agg ((Ep.cells ⟨n, 0, 0, 0, 0, 0, [], false⟩ 0 true []).map V.t)) (x := .agg (Ep.cells ⟨n, 0, 0, 0, 0, 0, [], false⟩ 0 true [])) (H1 := [.box ((Ep.cells ⟨n, 0, 0, 0, 0, 0, [], false⟩ 0 true []).map V.t)]) ?_ trivial ?_ (by simp [keepOk]) ⟨_, ⟨0, true, [], .inr rfl, QAt.nil, rfl⟩, rfl, rfl⟩
  · simp [resV, resOne, get_cons, kloadN_ref, Ep.cells]
  · simp only [Ep.cells, List.map_cons, List.map_nil, toElem_agg, toTs_cons, toTs_nil, toT_t]

/-- A message is put at the end of the queue. -/
def push (e : Ep) (b : List Int) : Ep × Int := if 6000 < b.length then (zeroEp, 1) else if 1000 ≤ e.queue.length then (zeroEp, 5) else ({ e with queue := e.queue ++ [b] }, 0)

theorem tPush_sc (e : Ep) (cs : List T) (hA : e.At cs) (hq : QOk e.queue) (b : List Int) (hb : Bytes b) (s0 : Nat) (t0 : Bool) (hs0 : s0 = 1 ∨ b = []) : SCall PP N.transport_Push [.agg (cs.map V.t), .t (.lst s0 t0 (B b))] [] (REpE (push e b)) := by
  refine transport_Push.intro (by simp) ?_
  have cC := clone_sc e cs hA hq
  obtain ⟨s, t, ys, hs, ⟨hyl, hya⟩, rfl⟩ := hA
  unfold push
  simp only [Ep.cells, List.map_cons, List.map_nil] at *
  cases b1 : decide ((6000 : Int) < b.length) with
  | true =>
    have b1' := of_decide_eq_true b1
    rw [if_pos (by omega)]
    simp (maxSteps := 4000000) -implicitDefEqProofs (disch := omega) only [B_length, b1, stepK_build', fillV, kstore_ref, putAt_zero, putAt_succ, ↓sxPre, sxPost, sxLib, if_true, if_false, Nat.reduceEqDiff, ↓reduceIte, Nat.reduceAdd, Nat.reduceSub, Nat.reduceMul, Nat.reduceLT, Nat.reduceLeDiff, reduceCtorEq, eq_self, K.isEff, List.reduceReplicate]
    exact finE (e := zeroEp) (x := .t (.lst 0 true [])) rfl rfl rfl (.inl ⟨rfl, rfl⟩)
  | false =>
  have b1' := of_decide_eq_false b1
  rw [if_neg (by omega)]
  cases b2 : decide ((1000 : Int) ≤ e.queue.length) with
  | true =>
    have b2' := of_decide_eq_true b2
    rw [if_pos (by omega)]
    simp (maxSteps := 4000000) -implicitDefEqProofs (disch := omega) only [B_length, b1, hyl, b2, stepK_build', fillV, kstore_ref, putAt_zero, putAt_succ, ↓sxPre, sxPost, sxLib, if_true, if_false, Nat.reduceEqDiff, ↓reduceIte, Nat.reduceAdd, Nat.reduceSub, Nat.reduceMul, Nat.reduceLT, Nat.reduceLeDiff, reduceCtorEq, eq_self, K.isEff, List.reduceReplicate]
    exact finE (e := zeroEp) (x := .t (.lst 0 true [])) rfl rfl rfl (.inl ⟨rfl, rfl⟩)
  | false =>
  have b2' := of_decide_eq_false b2
  rw [if_neg (by omega)]
  simp (maxSteps := 4000000) -implicitDefEqProofs (disch := omega) only [B_length, b1, hyl, b2, ↓sxPre, sxPost, sxLib, if_true, if_false, Nat.reduceEqDiff, ↓reduceIte, Nat.reduceAdd, Nat.reduceSub, Nat.reduceMul, Nat.reduceLT, Nat.reduceLeDiff, reduceCtorEq, eq_self, K.isEff, List.reduceReplicate]
  have helem : ∀ H, elems H 1 (.t (.lst s0 t0 (B b))) = some (B b) := by
    intro H
    simp only [elems]
    rcases hs0 with h | h
    · rw [if_pos (.inl h)]
    · rw [if_pos (.inr (by rw [h]; rfl))]
  refine step_cl (e := e) ?_ (fun h0 => ?_) (fun g zs hz => ?_)
  · simpa [V.ren, V.renL, Abs.get, ev] using cC
  all_goals
    unfold Ep.vals
    simp (maxSteps := 4000000) -implicitDefEqProofs (disch := omega) only [kstore_ref, putAt_zero, putAt_succ, helem, kappend_nil, keff_buildSlice, toElems_cons, toElems_nil, toElem_rw, setElems_cons, setElems_nil, B_length, B_all, elems_lst', ↓sxPre, sxPost, sxLib, if_true, if_false, Nat.reduceEqDiff, ↓reduceIte, Nat.reduceAdd, Nat.reduceSub, Nat.reduceMul, Nat.reduceLT, Nat.reduceLeDiff, reduceCtorEq, eq_self, K.isEff, List.reduceReplicate]
  · refine ⟨by omega, by decide, ?_⟩
    refine finE (e := { e with queue := e.queue ++ [b] }) (x := .sl 3 0 1 0 1) rfl rfl rfl (.inr (.inr ⟨3, 0, 0, [.lst 1 false (B b)], by simp [h0], rfl, ?_⟩))
    simp only [h0]
    exact QAt.nil.snoc b (.inl rfl)
  · have hzl := hz.1
    refine ⟨by omega, ⟨by omega, by omega⟩, ?_⟩
    refine finE (e := { e with queue := e.queue ++ [b] }) (x := .sl 2 0 (e.queue.length + 1) (g + 1) 1) rfl rfl rfl (.inr (.inr ⟨2, 0, g + 1, zs ++ [.lst 1 false (B b)], by simp, rfl, ?_⟩))
    have e1 : ((zs ++ [T.lst 1 false (B b)]).drop 0).take (e.queue ++ [b]).length = zs ++ [T.lst 1 false (B b)] := List.take_of_length_le (by simp [hzl])
    rw [e1]
    exact hz.snoc b (.inl rfl)
end Go.Proofs.Ytbpclinijbgchaa
