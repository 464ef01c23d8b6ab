/- Transport: Poll. By the session itself. -/
import Derived.Test.YtbpclinijbgchaaTr3
namespace Go.Proofs.Ytbpclinijbgchaa
open Go Go.Abs
set_option maxRecDepth 100000
set_option maxHeartbeats 8000000
set_option linter.unusedSimpArgs false
set_option linter.unusedVariables false

theorem call_fr {P : Program} {f : FuncId} {args : List V} {H : Heap} {k Q : V → Heap → Prop} (fp : List Nat) (hnd : fp.Nodup) (hlt : ∀ id ∈ fp, id < H.length) (h : SCall P f (args.map (V.ren (idx fp))) (sub H fp) Q)
    (hk : ∀ r F, Q r F → k (r.ren (tau fp H.length)) (merge H fp F)) : SCall P f args H k :=
  (SCall.frame fp hnd hlt h).mono fun r H' ⟨r0, F, hq, e1, e2⟩ => by
    subst e1 e2
    exact hk r0 F hq

theorem step_send {K : St → Prop} {vs : List (Nat × V)} {r : List Ins} {d : Nat} {f : Opnd} {xs : List Opnd} (p : Pk) (hp : p.Ok) (sz : Nat) (tt : Bool) (hsz : sz = 1 ∨ p.body = []) (e : Ep) (he : I64 e.epoch) (hr : ({ p with src := e.epoch } : Pk).right = true)
    (y : T) (hy : y.one = true) (zs : List T) (hzl : zs.length ≤ 2 ^ 40) (x : V) (R : Heap) (h : OutAt 4 zs x R) (b : Bool) (c : List V)
    (hf : ev vs f = .fn N.transport_Poll_1 [.ref 0 0, .ref 2 0, .ref 3 0]) (hx : xs.map (ev vs) = [.agg ((p.cells sz tt).map V.t)])
    (hk : ∀ g, wpR (SCall PP) r K ⟨(d, .tup []) :: vs, [.box (e.vals (.t y)), .box c, .box [.sl 4 0 (zs.length + 1) g 1], .box [.t (.bool true)], .row 1 g (zs ++ [.lst 1 false (B ({ p with src := e.epoch } : Pk).enc)])]⟩) :
    wpR (SCall PP) (⟨some d, none, .callv f xs⟩ :: r) K ⟨vs, .box (e.vals (.t y)) :: .box c :: .box [x] :: .box [.t (.bool b)] :: R⟩ := by
  have hren : ∀ ρ : Nat → Option Nat, V.ren ρ (.agg ((p.cells sz tt).map V.t)) = .agg ((p.cells sz tt).map V.t) := by
    intro ρ; simp [V.ren, renL_t]
  refine step_callv hf ?_
  rw [hx]
  rcases h with ⟨rfl, rfl, rfl⟩ | ⟨g, rfl, rfl⟩
  · refine call_fr [0, 2, 3] (by simp) (by simp) (Q := RSend e y ([] ++ [.lst 1 false (B ({ p with src := e.epoch } : Pk).enc)])) ?_ ?_
    · have := send_sc p hp sz tt hsz e he hr y hy [] (by simp) (.t (.lst 0 true [])) [] (.inl ⟨rfl, rfl, rfl⟩) b
      simpa [hren, renL_t, V.ren, V.renL, idx, sub, Obj.ren, Ep.vals] using this
    · rintro r0 F ⟨rfl, g, rfl⟩
      have := hk g
      simpa [merge, setAll, V.ren, V.renL, Obj.ren, tau, Ep.vals] using this
  · refine call_fr [0, 2, 3, 4] (by simp) (by simp) (Q := RSend e y (zs ++ [.lst 1 false (B ({ p with src := e.epoch } : Pk).enc)])) ?_ ?_
    · have := send_sc p hp sz tt hsz e he hr y hy zs hzl (.sl 3 0 zs.length g 1) [.row 1 g zs] (.inr ⟨g, rfl, rfl⟩) b
      simpa [hren, renL_t, V.ren, V.renL, idx, sub, Obj.ren, Ep.vals] using this
    · rintro r0 F ⟨rfl, g, rfl⟩
      have := hk g
      simpa [merge, setAll, V.ren, V.renL, Obj.ren, tau, Ep.vals] using this

/-- An endpoint that may be polled. -/
structure Ep.Fine (e : Ep) : Prop where
  epoch : 1 ≤ e.epoch ∧ e.epoch ≤ 2 ^ 30
  peer : 0 ≤ e.peer ∧ e.peer ≤ 2 ^ 30
  acked : 0 ≤ e.acked ∧ e.acked ≤ 2 ^ 29
  sent : e.acked ≤ e.sent ∧ e.sent ≤ 2 ^ 29
  got : 0 ≤ e.got ∧ e.got ≤ 2 ^ 29
  timer : -2 ^ 60 ≤ e.timer ∧ e.timer ≤ 2 ^ 60
  qlen : e.queue.length ≤ 2 ^ 20
  queue : ∀ b ∈ e.queue, Bytes b ∧ b.length ≤ 6000

theorem Ep.Fine.ok {e : Ep} (h : e.Fine) : QOk e.queue := ⟨by have := h.qlen; omega, fun b hb => ⟨(h.queue b hb).1, by have := (h.queue b hb).2; omega⟩⟩

def dataP (e : Ep) (s : Int) : Pk := ⟨2, e.epoch, e.peer, s + 1, e.got, e.queue.getD (s - e.acked).toNat []⟩
def helloP (e : Ep) : Pk := ⟨1, e.epoch, 0, 0, 0, []⟩
def ackP (e : Ep) : Pk := ⟨3, e.epoch, e.peer, 0, e.got, []⟩
def sendFrom (e : Ep) : Nat → Int → List (List Int)
  | 0, _ => []
  | n + 1, s => (dataP e s).enc :: sendFrom e n (s + 1)
def pollS (e : Ep) (now : Int) : Int := if e.acked < e.sent ∧ e.timer ≤ now then e.acked else e.sent
def pollN (e : Ep) (now : Int) : Nat := (min (e.acked + 4) (e.acked + e.queue.length) - pollS e now).toNat
/-- What Poll makes of an endpoint. -/
def poll (e : Ep) (now : Int) : Ep × List (List Int) :=
  if e.peer = 0 then
    if e.timer ≤ now then ({ e with timer := now + 8, owe := false }, [(helloP e).enc]) else (e, [])
  else if 0 < pollN e now then ({ e with sent := pollS e now + pollN e now, timer := now + 8, owe := false }, sendFrom e (pollN e now) (pollS e now))
  else if e.owe then ({ e with sent := pollS e now, owe := false }, [(ackP e).enc])
  else ({ e with sent := pollS e now }, [])
def RPoll (D : Ep × List (List Int)) (r : V) (F : Heap) : Prop := ∃ cs s t zs, D.1.At cs ∧ (s = 1 ∨ D.2 = []) ∧ QAt D.2 zs ∧ r = .tup [.t (.agg cs), .t (.lst s t zs)] ∧ F = []

theorem helloP_ok {e : Ep} (h : e.Fine) : ({ helloP e with src := 0 } : Pk).Ok ∧ (helloP e).right = true := by
  obtain ⟨⟨n1, n2⟩, ⟨n3, n4⟩, ⟨n5, n6⟩, ⟨n7, n8⟩, ⟨n9, n10⟩, ⟨n11, n12⟩, hql, hqb⟩ := h
  refine ⟨⟨⟨?_, ?_⟩, ⟨?_, ?_⟩, ⟨?_, ?_⟩, ⟨?_, ?_⟩, ⟨?_, ?_⟩, (fun x hx => by cases hx), ?_⟩, ?_⟩ <;> simp [helloP, Pk.right] <;> omega
theorem ackP_ok {e : Ep} (h : e.Fine) (hp : e.peer ≠ 0) : ({ ackP e with src := 0 } : Pk).Ok ∧ (ackP e).right = true := by
  obtain ⟨⟨n1, n2⟩, ⟨n3, n4⟩, ⟨n5, n6⟩, ⟨n7, n8⟩, ⟨n9, n10⟩, ⟨n11, n12⟩, hql, hqb⟩ := h
  refine ⟨⟨⟨?_, ?_⟩, ⟨?_, ?_⟩, ⟨?_, ?_⟩, ⟨?_, ?_⟩, ⟨?_, ?_⟩, (fun x hx => by cases hx), ?_⟩, ?_⟩ <;> simp [ackP, Pk.right] <;> omega
theorem dataP_ok {e : Ep} (h : e.Fine) (s : Int) (hs : e.acked ≤ s ∧ s < e.acked + e.queue.length) (hs2 : s ≤ 2 ^ 29 + 2 ^ 21) : ({ dataP e s with src := 0 } : Pk).Ok ∧ (dataP e s).right = true := by
  obtain ⟨⟨n1, n2⟩, ⟨n3, n4⟩, ⟨n5, n6⟩, ⟨n7, n8⟩, ⟨n9, n10⟩, ⟨n11, n12⟩, hql, hqb⟩ := h
  have hi : (s - e.acked).toNat < e.queue.length := by omega
  have hb := hqb _ (List.getElem_mem hi)
  have hg : e.queue.getD (s - e.acked).toNat [] = e.queue[(s - e.acked).toNat] := by simp [List.getD_eq_getElem?_getD, hi]
  unfold dataP
  rw [hg]
  generalize e.queue[(s - e.acked).toNat] = b at *
  refine ⟨⟨⟨?_, ?_⟩, ⟨?_, ?_⟩, ⟨?_, ?_⟩, ⟨?_, ?_⟩, ⟨?_, ?_⟩, hb.1, ?_⟩, ?_⟩ <;> simp [Pk.right] <;> omega

theorem sendFrom_length (e : Ep) : ∀ (n : Nat) (s : Int), (sendFrom e n s).length = n
  | 0, _ => rfl
  | n + 1, s => by simp [sendFrom, sendFrom_length e n]

theorem toElem_out (l : List (List Int)) (y : V) (H : Heap) (hy : (l = [] ∧ y = .t (.lst 0 true [])) ∨ ∃ rid g zs, y = .sl rid 0 l.length g 1 ∧ QAt l zs ∧ rowOf H[rid]? = some (1, g, zs)) : ∃ s t zs H1, toElem H y = some (.lst s t zs, H1) ∧ (s = 1 ∨ l = []) ∧ QAt l zs := by
  rcases hy with ⟨rfl, rfl⟩ | ⟨rid, g, zs, rfl, hq, hr⟩
  · exact ⟨0, true, [], H, rfl, .inr rfl, QAt.nil⟩
  · have hzt : zs.take l.length = zs := List.take_of_length_le (by rw [hq.1]; omega)
    refine ⟨1, false, zs, H.set rid (.frz 1 g zs), ?_, .inl rfl, hq⟩
    rw [toElem_rw, hr]
    simp [hzt]

theorem finPoll {slot id u : Nat} {e : Ep} {l : List (List Int)} {sq : Nat} {tq : Bool} {ys : List T} {y : V} {s : St} (hs : sq = 1 ∨ e.queue = []) (hq : QAt e.queue ys) (h1 : get s.vs slot = .ref id 0) (h2 : s.h[id]? = some (.box (e.vals (.t (.lst sq tq ys))))) (h3 : get s.vs u = y)
    (hy : (l = [] ∧ y = .t (.lst 0 true [])) ∨ ∃ rid g zs, y = .sl rid 0 l.length g 1 ∧ QAt l zs ∧ rowOf s.h[rid]? = some (1, g, zs)) :
    finK 0 [.cell slot 8 false, .tmp u] (RPoll (e, l)) s := by
  have hE : toElem s.h (.agg (e.vals (.t (.lst sq tq ys)))) = some (.agg (e.cells sq tq ys), s.h) := by
    simp only [Ep.vals, Ep.cells, toElem_agg, toTs_cons, toTs_nil, toT_t]
  obtain ⟨s2, t2, zs, H2, hE2, hs2, hq2⟩ := toElem_out l y s.h hy
  refine finK_tup (n := 0) [] (c := True) (vs := [.agg (e.vals (.t (.lst sq tq ys))), y]) (xs := [.agg (e.cells sq tq ys), .lst s2 t2 zs]) (H1 := H2) ?_ trivial ?_ (by simp [keepOk]) ⟨e.cells sq tq ys, s2, t2, zs, ⟨sq, tq, ys, hs, hq, rfl⟩, hs2, hq2, rfl, rfl⟩
  · simp [resV, resAll, resOne, h1, h2, h3, kloadN_ref, Ep.vals]
  · simp only [toElems_cons, toElems_nil, hE, hE2]

theorem sendFrom_snoc (e : Ep) : ∀ (n : Nat) (s : Int), sendFrom e (n + 1) s = sendFrom e n s ++ [(dataP e (s + n)).enc]
  | 0, s => by simp [sendFrom]
  | n + 1, s => by
    have := sendFrom_snoc e n (s + 1)
    rw [sendFrom, this]
    simp only [sendFrom, List.cons_append]
    have e2 : s + 1 + (n : Int) = s + ((n + 1 : Nat) : Int) := by omega
    rw [e2]

theorem poll_l0 (Q : Ex → St → Prop) (e : Ep) (hF : e.Fine) (now : Int) (hn : -2 ^ 60 ≤ now ∧ now ≤ 2 ^ 60) (S : Int) (hS : e.acked ≤ S ∧ S ≤ 2 ^ 29) (M : Nat) (hM : M = (min (e.acked + 4) (e.acked + e.queue.length) - S).toNat) (s : Nat) (t : Bool) (ys : List T) (hs : s = 1 ∨ e.queue = []) (hqa : QAt e.queue ys) (st : St)
    (hk : keepOk 0 [0, 1, 2, 3] st.h.length) (hst : gcSt [1, 2, 4, 6, 7, 8] [0, 1, 2, 3] st = ⟨[(1, .t (.int .i64 now)), (2, .ref 0 0), (4, .ref 1 0), (6, .ref 2 0), (7, .ref 3 0), (8, .fn N.transport_Poll_1 [.ref 0 0, .ref 2 0, .ref 3 0])], [.box ({ e with sent := S }.vals (.t (.lst s t ys))), .box [.t (.int .i64 0), .t (.int .i64 0), .t (.int .i64 0), .t (.int .i64 0), .t (.int .i64 0), .t (.int .i64 0), .t (.lst 0 true []), .t (.bool false)], .box [.t (.lst 0 true [])], .box [.t (.bool false)]]⟩)
    (hQ : ∀ (zs : List T) (x : V) (R : Heap) (vs : List (Nat × V)), QAt (sendFrom e M S) zs → OutAt 4 zs x R → get vs 1 = .t (.int .i64 now) → get vs 2 = .ref 0 0 → get vs 4 = .ref 1 0 → get vs 6 = .ref 2 0 → get vs 7 = .ref 3 0 → get vs 8 = .fn N.transport_Poll_1 [.ref 0 0, .ref 2 0, .ref 3 0] →
      Q .norm ⟨vs, .box ({ e with sent := S + M, timer := if 0 < M then now + 8 else e.timer }.vals (.t (.lst s t ys))) :: .box [.t (.int .i64 0), .t (.int .i64 0), .t (.int .i64 0), .t (.int .i64 0), .t (.int .i64 0), .t (.int .i64 0), .t (.lst 0 true []), .t (.bool false)] :: .box [x] :: .box [.t (.bool (decide (0 < M)))] :: R⟩) :
    wpC (SCall PP) 0 (.loop transport_Poll.l0) (blockK 0 Q) st := by
  have hF' := hF
  obtain ⟨⟨n1, n2⟩, ⟨n3, n4⟩, ⟨n5, n6⟩, ⟨n7, n8⟩, ⟨n9, n10⟩, ⟨n11, n12⟩, hql, hqb⟩ := hF'
  obtain ⟨hyl, hya⟩ := hqa
  refine wpC_loop_any [1, 2, 4, 6, 7, 8] (fun m st => ∃ (k : Nat) (zs : List T) (x : V) (R : Heap), m + k = M ∧ QAt (sendFrom e k S) zs ∧ OutAt 4 zs x R ∧
      st = ⟨[(1, .t (.int .i64 now)), (2, .ref 0 0), (4, .ref 1 0), (6, .ref 2 0), (7, .ref 3 0), (8, .fn N.transport_Poll_1 [.ref 0 0, .ref 2 0, .ref 3 0])], .box ({ e with sent := S + k, timer := if 0 < k then now + 8 else e.timer }.vals (.t (.lst s t ys))) :: .box [.t (.int .i64 0), .t (.int .i64 0), .t (.int .i64 0), .t (.int .i64 0), .t (.int .i64 0), .t (.int .i64 0), .t (.lst 0 true []), .t (.bool false)] :: .box [x] :: .box [.t (.bool (decide (0 < k)))] :: R⟩) M
    ⟨[0, 1, 2, 3], hk, 0, [], _, [], by omega, QAt.nil, .inl ⟨rfl, rfl, rfl⟩, by rw [hst]; simp⟩ ?_
  clear hst hk st
  rintro m st ⟨k, zs, x, R, hm, hz, hx, rfl⟩
  have hzl : zs.length = k := by rw [hz.1, sendFrom_length]
  unfold Ep.vals
  by_cases hc : k < M
  · clear hQ
    have c1 : decide (S + k < e.acked + 4) = true := decide_eq_true (by omega)
    have c2 : decide (S + k < e.acked + e.queue.length) = true := decide_eq_true (by omega)
    have hi : (S + k - e.acked).toNat < e.queue.length := by omega
    obtain ⟨s1, t1, hs1, hat⟩ := hya _ hi
    have hs' : s = 1 := hs.resolve_right (by intro h; rw [h] at hi; simp at hi)
    subst hs'
    obtain ⟨w1, w2⟩ := dataP_ok hF (S + k) (by omega) (by omega)
    have hg : e.queue.getD (S + k - e.acked).toNat [] = e.queue[(S + k - e.acked).toNat] := by simp [List.getD_eq_getElem?_getD, hi]
    have hd : dataP e (S + k) = ⟨2, e.epoch, e.peer, S + k + 1, e.got, e.queue[(S + k - e.acked).toNat]⟩ := by unfold dataP; rw [hg]
    rw [hd] at w1 w2
    have hsn := sendFrom_snoc e k S
    rw [hd] at hsn
    generalize e.queue[(S + k - e.acked).toNat] = b at *
    have hbd : 0 ≤ S + k - e.acked ∧ S + k - e.acked < e.queue.length := by omega
    simp (maxSteps := 4000000) -implicitDefEqProofs (disch := omega) only [kstore_ref, putAt_zero, putAt_succ, c1, c2, hyl, hat, at_zero, stepK_build', fillV, ↓sxPre, sxPost, sxLib, if_true, if_false, Nat.reduceEqDiff, ↓reduceIte, Nat.reduceAdd, Nat.reduceSub, Nat.reduceMul, Nat.reduceLT, Nat.reduceLeDiff, reduceCtorEq, eq_self, K.isEff, List.reduceReplicate]
    refine ⟨⟨by omega, by omega⟩, step_eff (step_send ⟨2, 0, e.peer, S + k + 1, e.got, b⟩ w1 s1 t1 hs1 { e with sent := S + k + 1, timer := if 0 < k then now + 8 else e.timer } ⟨by simp only; omega, by simp only; omega⟩ w2 (.lst 1 t ys) rfl zs (by omega) x R hx (decide (0 < k)) _ rfl rfl (fun g => ?_))⟩
    unfold Ep.vals
    simp (maxSteps := 4000000) -implicitDefEqProofs (disch := omega) only [kstore_ref, putAt_zero, putAt_succ, ↓sxPre, sxPost, sxLib, if_true, if_false, Nat.reduceEqDiff, ↓reduceIte, Nat.reduceAdd, Nat.reduceSub, Nat.reduceMul, Nat.reduceLT, Nat.reduceLeDiff, reduceCtorEq, eq_self, K.isEff, List.reduceReplicate]
    refine ⟨m - 1, by omega, [0, 1, 2, 3, 4], by simp [gcSt, keepOk, finG, resV, resOne, resAll, idx, V.ren, V.renL, Obj.ren, get_cons, get_nil, RTree, RTup, RRow], k + 1, _, .sl 4 0 (zs.length + 1) g 1, [.row 1 g (zs ++ [.lst 1 false (B (⟨2, e.epoch, e.peer, S + k + 1, e.got, b⟩ : Pk).enc)])], by omega, ?_, .inr ⟨g, by simp, rfl⟩, ?_⟩
    · rw [hsn]; exact hz.snoc _ (.inl rfl)
    · simp [Ep.vals, gcSt, keepOk, finG, resV, resOne, resAll, idx, V.ren, V.renL, Obj.ren, get_cons, get_nil, RTree, RTup, RRow]
      omega
  · obtain rfl : k = M := by omega
    have hcc : decide (S + k < e.acked + 4) = false ∨ (decide (S + k < e.acked + 4) = true ∧ decide (S + k < e.acked + e.queue.length) = false) := by
      by_cases h : S + k < e.acked + 4
      · exact .inr ⟨decide_eq_true h, decide_eq_false (by omega)⟩
      · exact .inl (decide_eq_false h)
    rcases hcc with c1 | ⟨c1, c2⟩
    · simp (maxSteps := 4000000) -implicitDefEqProofs (disch := omega) only [c1, ↓sxPre, sxPost, sxLib, if_true, if_false, Nat.reduceEqDiff, ↓reduceIte, Nat.reduceAdd, Nat.reduceSub, Nat.reduceMul, Nat.reduceLT, Nat.reduceLeDiff, reduceCtorEq, eq_self, K.isEff, List.reduceReplicate]
      exact hQ zs x R _ hz hx rfl rfl rfl rfl rfl rfl
    · simp (maxSteps := 4000000) -implicitDefEqProofs (disch := omega) only [c1, c2, hyl, ↓sxPre, sxPost, sxLib, if_true, if_false, Nat.reduceEqDiff, ↓reduceIte, Nat.reduceAdd, Nat.reduceSub, Nat.reduceMul, Nat.reduceLT, Nat.reduceLeDiff, reduceCtorEq, eq_self, K.isEff, List.reduceReplicate]
      exact hQ zs x R _ hz hx rfl rfl rfl rfl rfl rfl

theorem tPoll_sc (e : Ep) (cs : List T) (hA : e.At cs) (hF : e.Fine) (now : Int) (hn : -2 ^ 60 ≤ now ∧ now ≤ 2 ^ 60) : SCall PP N.transport_Poll [.agg (cs.map V.t), .t (.int .i64 now)] [] (RPoll (poll e now)) := by
  refine transport_Poll.intro (by simp) ?_
  have cC := cloneT_sc e cs hA hF.ok
  obtain ⟨s0, t0, ys0, hs0, hqa0, rfl⟩ := hA
  obtain ⟨⟨n1, n2⟩, ⟨n3, n4⟩, ⟨n5, n6⟩, ⟨n7, n8⟩, ⟨n9, n10⟩, ⟨n11, n12⟩, hql, hqb⟩ := id hF
  simp only [Ep.cells, List.map_cons, List.map_nil] at *
  simp (maxSteps := 4000000) -implicitDefEqProofs (disch := omega) only [↓sxPre, sxPost, sxLib, if_true, if_false, Nat.reduceEqDiff, ↓reduceIte, Nat.reduceAdd, Nat.reduceSub, Nat.reduceMul, Nat.reduceLT, Nat.reduceLeDiff, reduceCtorEq, eq_self, K.isEff, List.reduceReplicate]
  refine step_ep (e := e) ?_ fun c1 hA1 => ?_
  · simpa [V.ren, V.renL, Abs.get, ev] using cC
  obtain ⟨s, t, ys, hs, ⟨hyl, hya⟩, rfl⟩ := hA1
  simp only [Ep.cells]
  unfold poll
  by_cases hp : e.peer = 0
  · have d1 : decide (e.peer = 0) = true := decide_eq_true hp
    rw [if_pos hp]
    by_cases ht : e.timer ≤ now
    · have d2 : decide (e.timer ≤ now) = true := decide_eq_true ht
      rw [if_pos ht]
      simp (maxSteps := 4000000) -implicitDefEqProofs (disch := omega) only [kstore_ref, putAt_zero, putAt_succ, d1, d2, stepK_build', fillV, ↓sxPre, sxPost, sxLib, if_true, if_false, Nat.reduceEqDiff, ↓reduceIte, Nat.reduceAdd, Nat.reduceSub, Nat.reduceMul, Nat.reduceLT, Nat.reduceLeDiff, reduceCtorEq, eq_self, K.isEff, List.reduceReplicate]
      obtain ⟨w1, w2⟩ := helloP_ok hF
      refine step_send { helloP e with src := 0 } w1 0 true (.inr rfl) e ⟨by omega, by omega⟩ w2 (.lst s t ys) rfl [] (by simp) _ [] (.inl ⟨rfl, rfl, rfl⟩) false _ rfl rfl (fun g => ?_)
      unfold Ep.vals
      simp (maxSteps := 4000000) -implicitDefEqProofs (disch := omega) only [kstore_ref, putAt_zero, putAt_succ, ↓sxPre, sxPost, sxLib, if_true, if_false, Nat.reduceEqDiff, ↓reduceIte, Nat.reduceAdd, Nat.reduceSub, Nat.reduceMul, Nat.reduceLT, Nat.reduceLeDiff, reduceCtorEq, eq_self, K.isEff, List.reduceReplicate]
      exact finPoll (e := { e with timer := now + 8, owe := false }) (l := [(helloP e).enc]) (tq := t) hs ⟨hyl, hya⟩ rfl rfl rfl (.inr ⟨4, g, _, rfl, QAt.nil.snoc _ (.inl rfl), rfl⟩)
    · have d2 : decide (e.timer ≤ now) = false := decide_eq_false ht
      rw [if_neg ht]
      simp (maxSteps := 4000000) -implicitDefEqProofs (disch := omega) only [kstore_ref, putAt_zero, putAt_succ, d1, d2, stepK_build', fillV, ↓sxPre, sxPost, sxLib, if_true, if_false, Nat.reduceEqDiff, ↓reduceIte, Nat.reduceAdd, Nat.reduceSub, Nat.reduceMul, Nat.reduceLT, Nat.reduceLeDiff, reduceCtorEq, eq_self, K.isEff, List.reduceReplicate]
      exact finPoll (e := e) (l := []) (tq := t) hs ⟨hyl, hya⟩ rfl rfl rfl (.inl ⟨rfl, rfl⟩)
  · have d1 : decide (e.peer = 0) = false := decide_eq_false hp
    rw [if_neg hp]
    have hS : e.acked ≤ pollS e now ∧ pollS e now ≤ 2 ^ 29 := by unfold pollS; split <;> omega
    have hgo : (decide (e.acked < e.sent) = true ∧ decide (e.timer ≤ now) = true ∧ pollS e now = e.acked) ∨ (decide (e.acked < e.sent) = true ∧ decide (e.timer ≤ now) = false ∧ pollS e now = e.sent) ∨ (decide (e.acked < e.sent) = false ∧ pollS e now = e.sent) := by
      unfold pollS
      by_cases h1 : e.acked < e.sent
      · by_cases h2 : e.timer ≤ now
        · exact .inl ⟨decide_eq_true h1, decide_eq_true h2, if_pos ⟨h1, h2⟩⟩
        · exact .inr (.inl ⟨decide_eq_true h1, decide_eq_false h2, if_neg (fun h => h2 h.2)⟩)
      · exact .inr (.inr ⟨decide_eq_false h1, if_neg (fun h => h1 h.1)⟩)
    have hm1 : (if e.acked < e.acked then e.acked else e.acked) = e.acked := by split <;> rfl
    have hm2 : (if e.sent < e.acked then e.acked else e.sent) = e.sent := if_neg (by omega)
    have tail : ∀ (zs : List T) (x : V) (R : Heap) (vs : List (Nat × V)), QAt (sendFrom e (pollN e now) (pollS e now)) zs → OutAt 4 zs x R → get vs 1 = .t (.int .i64 now) → get vs 2 = .ref 0 0 → get vs 4 = .ref 1 0 → get vs 6 = .ref 2 0 → get vs 7 = .ref 3 0 → get vs 8 = .fn N.transport_Poll_1 [.ref 0 0, .ref 2 0, .ref 3 0] →
        wpC (SCall PP) 0 (.seq (.rgn transport_Poll.r16) (.cond (.tmp 94) (.rgn transport_Poll.r17) .skip)) (thenK (wpC (SCall PP) 0 (.seq (.seq (.rgn transport_Poll.r18) (.cond (.tmp 102) (.rgn transport_Poll.r19) .skip)) (.seq (.rgnD transport_Poll.d1) .ret)) (exitK 0 [.cell 4 8 false, .tmp 5] (RPoll (poll e now)))) (exitK 0 [.cell 4 8 false, .tmp 5] (RPoll (poll e now))))
          ⟨vs, .box ({ e with sent := pollS e now + pollN e now, timer := if 0 < pollN e now then now + 8 else e.timer }.vals (.t (.lst s t ys))) :: .box [.t (.int .i64 0), .t (.int .i64 0), .t (.int .i64 0), .t (.int .i64 0), .t (.int .i64 0), .t (.int .i64 0), .t (.lst 0 true []), .t (.bool false)] :: .box [x] :: .box [.t (.bool (decide (0 < pollN e now)))] :: R⟩ := by
      intro zs x R vs hz hx v1 v2 v4 v6 v7 v8
      unfold poll
      rw [if_neg hp]
      have hrow : ∀ (l : List (List Int)), QAt l zs → ∀ (A B C D : Abs.Obj), (l = [] ∧ x = .t (.lst 0 true [])) ∨ ∃ rid g zs', x = .sl rid 0 l.length g 1 ∧ QAt l zs' ∧ rowOf (A :: B :: C :: D :: R)[rid]? = some (1, g, zs') := by
        intro l hl A B C D
        rcases hx with ⟨rfl, rfl, rfl⟩ | ⟨g, rfl, rfl⟩
        · exact .inl ⟨List.length_eq_zero_iff.1 hl.1.symm, rfl⟩
        · exact .inr ⟨4, g, zs, by rw [hl.1], hl, rfl⟩
      unfold Ep.vals
      by_cases hN : 0 < pollN e now
      · have dN : decide (0 < pollN e now) = true := decide_eq_true hN
        rw [if_pos hN, if_pos hN, dN]
        simp (maxSteps := 4000000) -implicitDefEqProofs (disch := omega) only [v1, v2, v4, v6, v7, v8, kstore_ref, putAt_zero, putAt_succ, ↓sxPre, sxPost, sxLib, if_true, if_false, Nat.reduceEqDiff, ↓reduceIte, Nat.reduceAdd, Nat.reduceSub, Nat.reduceMul, Nat.reduceLT, Nat.reduceLeDiff, reduceCtorEq, eq_self, K.isEff, List.reduceReplicate]
        exact finPoll (e := { e with sent := pollS e now + pollN e now, timer := now + 8, owe := false }) (tq := t) hs ⟨hyl, hya⟩ v4 rfl rfl (hrow _ hz _ _ _ _)
      · have dN : decide (0 < pollN e now) = false := decide_eq_false hN
        have hN0 : pollN e now = 0 := by omega
        have hN1 : pollS e now + ((pollN e now : Nat) : Int) = pollS e now := by omega
        rw [if_neg hN, if_neg hN, dN, hN1]
        rw [hN0] at hz
        cases ho : e.owe with
        | true =>
          rw [if_pos rfl]
          obtain ⟨w1, w2⟩ := ackP_ok hF hp
          have hz0 : zs = [] := List.length_eq_zero_iff.1 hz.1
          simp (maxSteps := 4000000) -implicitDefEqProofs (disch := omega) only [v1, v2, v4, v6, v7, v8, kstore_ref, putAt_zero, putAt_succ, stepK_build', fillV, ↓sxPre, sxPost, sxLib, if_true, if_false, Nat.reduceEqDiff, ↓reduceIte, Nat.reduceAdd, Nat.reduceSub, Nat.reduceMul, Nat.reduceLT, Nat.reduceLeDiff, reduceCtorEq, eq_self, K.isEff, List.reduceReplicate]
          refine step_send { ackP e with src := 0 } w1 0 true (.inr rfl) { e with sent := pollS e now, owe := true } ⟨by simp only; omega, by simp only; omega⟩ w2 (.lst s t ys) rfl zs (by rw [hz0]; simp) x R hx false _ (by simp [ev, v8, get_cons]) rfl (fun g => ?_)
          unfold Ep.vals
          simp (maxSteps := 4000000) -implicitDefEqProofs (disch := omega) only [v1, v2, v4, v6, v7, v8, kstore_ref, putAt_zero, putAt_succ, ↓sxPre, sxPost, sxLib, if_true, if_false, Nat.reduceEqDiff, ↓reduceIte, Nat.reduceAdd, Nat.reduceSub, Nat.reduceMul, Nat.reduceLT, Nat.reduceLeDiff, reduceCtorEq, eq_self, K.isEff, List.reduceReplicate]
          refine finPoll (e := { e with sent := pollS e now, owe := false }) (l := [(ackP e).enc]) (tq := t) hs ⟨hyl, hya⟩ v4 rfl rfl (.inr ⟨4, g, _, by rw [hz0]; rfl, ?_, rfl⟩)
          rw [hz0]
          exact QAt.nil.snoc _ (.inl rfl)
        | false =>
          rw [if_neg (by simp)]
          simp (maxSteps := 4000000) -implicitDefEqProofs (disch := omega) only [v1, v2, v4, v6, v7, v8, kstore_ref, putAt_zero, putAt_succ, ↓sxPre, sxPost, sxLib, if_true, if_false, Nat.reduceEqDiff, ↓reduceIte, Nat.reduceAdd, Nat.reduceSub, Nat.reduceMul, Nat.reduceLT, Nat.reduceLeDiff, reduceCtorEq, eq_self, K.isEff, List.reduceReplicate]
          refine finPoll (e := { e with sent := pollS e now, owe := false }) (tq := t) hs ⟨hyl, hya⟩ v4 rfl rfl (hrow _ hz _ _ _ _)
    have hpoll : (if 0 < pollN e now then ({ e with sent := pollS e now + pollN e now, timer := now + 8, owe := false }, sendFrom e (pollN e now) (pollS e now)) else if e.owe then ({ e with sent := pollS e now, owe := false }, [(ackP e).enc]) else (({ e with sent := pollS e now }, []) : Ep × List (List Int))) = poll e now := by
      unfold poll; rw [if_neg hp]
    rw [hpoll]
    rcases hgo with ⟨g1, g2, g3⟩ | ⟨g1, g2, g3⟩ | ⟨g1, g3⟩
    · simp (maxSteps := 4000000) -implicitDefEqProofs (disch := omega) only [kstore_ref, putAt_zero, putAt_succ, d1, g1, g2, hm1, ↓sxPre, sxPost, sxLib, if_true, if_false, Nat.reduceEqDiff, ↓reduceIte, Nat.reduceAdd, Nat.reduceSub, Nat.reduceMul, Nat.reduceLT, Nat.reduceLeDiff, reduceCtorEq, eq_self, K.isEff, List.reduceReplicate]
      refine poll_l0 _ e hF now hn (pollS e now) hS (pollN e now) rfl s t ys hs ⟨hyl, hya⟩ _ (by simp [keepOk]) (by simp [Ep.vals, g3, gcSt, keepOk, finG, resV, resOne, resAll, idx, V.ren, V.renL, Obj.ren, get_cons, get_nil, RTree, RTup, RRow]) tail
    · simp (maxSteps := 4000000) -implicitDefEqProofs (disch := omega) only [kstore_ref, putAt_zero, putAt_succ, d1, g1, g2, hm2, ↓sxPre, sxPost, sxLib, if_true, if_false, Nat.reduceEqDiff, ↓reduceIte, Nat.reduceAdd, Nat.reduceSub, Nat.reduceMul, Nat.reduceLT, Nat.reduceLeDiff, reduceCtorEq, eq_self, K.isEff, List.reduceReplicate]
      refine poll_l0 _ e hF now hn (pollS e now) hS (pollN e now) rfl s t ys hs ⟨hyl, hya⟩ _ (by simp [keepOk]) (by simp [Ep.vals, g3, gcSt, keepOk, finG, resV, resOne, resAll, idx, V.ren, V.renL, Obj.ren, get_cons, get_nil, RTree, RTup, RRow]) tail
    · simp (maxSteps := 4000000) -implicitDefEqProofs (disch := omega) only [kstore_ref, putAt_zero, putAt_succ, d1, g1, hm2, ↓sxPre, sxPost, sxLib, if_true, if_false, Nat.reduceEqDiff, ↓reduceIte, Nat.reduceAdd, Nat.reduceSub, Nat.reduceMul, Nat.reduceLT, Nat.reduceLeDiff, reduceCtorEq, eq_self, K.isEff, List.reduceReplicate]
      refine poll_l0 _ e hF now hn (pollS e now) hS (pollN e now) rfl s t ys hs ⟨hyl, hya⟩ _ (by simp [keepOk]) (by simp [Ep.vals, g3, gcSt, keepOk, finG, resV, resOne, resAll, idx, V.ren, V.renL, Obj.ren, get_cons, get_nil, RTree, RTup, RRow]) tail
end Go.Proofs.Ytbpclinijbgchaa
