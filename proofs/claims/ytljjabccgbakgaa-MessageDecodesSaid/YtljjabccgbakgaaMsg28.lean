/- MessageDecodes: what the law returns. By the session itself. -/
import Derived.Test.YtljjabccgbakgaaMsg27
namespace Go.Proofs.Ytljjabccgbakgaa
open Go Go.Abs
set_option maxRecDepth 100000
set_option maxHeartbeats 8000000
set_option linter.unusedSimpArgs false
set_option linter.unusedVariables false

theorem toElem_row {H : Heap} {id off len gen sz : Nat} : toElem H (.sl id off len gen sz) = (match rowOf H[id]? with
    | some (sz', g, xs) => if gen = g ∧ sz' = sz then some (.lst sz false ((xs.drop off).take len), H.set id (.frz sz g xs)) else none
    | none => none) := (rfl)
theorem xor_u8' (a b : Int) : 0 ≤ Abs.bits .xor .u8 a b ∧ Abs.bits .xor .u8 a b < 256 := by
  have e : ∃ n : Int, Abs.bits .xor .u8 a b = IntKind.u8.wrap n := ⟨_, rfl⟩
  obtain ⟨n, e⟩ := e
  rw [e, wu8_mod]; omega
theorem bytes_set {l : List Int} (h : Bytes l) {x : Int} (hx : 0 ≤ x ∧ x < 256) (i : Nat) : Bytes (l.set i x) := by
  intro y hy
  rcases List.mem_or_eq_of_mem_set hy with h1 | rfl
  · exact h y h1
  · exact hx
theorem B_set' (l : List Int) (i : Nat) (x : Int) : (B l).set i (.int .u8 x) = B (l.set i x) := by simp [B, List.map_set]

theorem rv_tagg {μ : Nat → Abs.Loc} {S : Nat → Prop} {H : Heap} {W : World} {cs : List T} {u : Value} (h : RV μ S H W (.t (.agg cs)) u) : RV μ S H W (.agg (cs.map V.t)) u := by
  have h' := h.t_inv
  cases h' with
  | agg us hl hh =>
    refine .agg us (by simpa using hl) fun i c w h1 h2 => ?_
    rw [List.getElem?_map] at h1
    cases hc : cs[i]? with
    | none => rw [hc] at h1; cases h1
    | some d =>
      rw [hc] at h1
      simp only [Option.map_some, Option.some.injEq] at h1
      subst h1
      exact .t (hh i d w hc h2)

theorem SCall.tagg {P : Program} {f : FuncId} {cs : List T} {H : Heap} {Q : V → Heap → Prop} (h : SCall P f [.agg (cs.map V.t)] H Q) : SCall P f [.t (.agg cs)] H Q :=
  SCall.argOf 0 rfl (fun _ _ _ _ h => rv_tagg h) h

theorem zeroRp_ok : zeroRp.Ok := ⟨⟨by decide, by decide⟩, (fun x h => by cases h), by decide, (fun x h => by cases h), by decide, (fun x h => by cases h), by decide, (by intro x hx; simp [zeroRp] at hx; subst hx; exact ⟨by decide, by decide⟩), rfl⟩

theorem decR_ok {b : List Int} (hb : Bytes b) : (decR b).1.Ok ∧ (decR b).1.Fit := by
  by_cases h : (decR b).2 = 0
  · obtain ⟨h1, h2, h3⟩ := decR_canon hb (D := (decR b).1) (by rw [← h])
    exact ⟨h2, h3⟩
  · rw [decR_zero b h]
    exact ⟨zeroRp_ok, by decide, by decide, by decide, fun q hq => by cases hq⟩

theorem decC_words {b : List Int} (hb : Bytes b) : (decC b).1.words.length < 2 ^ 62 := by
  by_cases h : (decC b).2 = 0
  · obtain ⟨h1, h2, h3⟩ := decC_canon hb (q := (decC b).1) (by rw [← h])
    omega
  · have : decC b = (zeroCm, 4) := by
      unfold decC at h ⊢
      split
      · rename_i hc
        rw [if_pos hc] at h
        exact absurd rfl h
      · rfl
    rw [this]; decide

theorem near7_fit {R : Rp} (h1 : R.words.length ≤ 20) (h2 : R.out.length ≤ 20) : (R.near 7).Fit := by
  refine ⟨?_, ?_, by simp only [Rp.near, List.length_take]; omega, fun q hq => ?_⟩
  · have e : (R.near 7).words = R.words := rfl
    rw [e]; omega
  · have e : (R.near 7).out = R.out := rfl
    rw [e]; omega
  · simp only [Rp.near] at hq
    obtain ⟨q', _, rfl⟩ := List.mem_map.1 (List.mem_of_mem_take hq)
    simp only [Th.cut, List.length_take]; omega

/-- One of the four: both decoders agree. -/
theorem MD_l1 (Q : Ex → St → Prop) (raw at_ : List Int) (by_ cut : Int) (L L4 : List T) (i : Int) (hLat : ∀ i, i < 4 → ∃ l : List Int, Bytes l ∧ l.length ≤ 2 ^ 40 ∧ T.at L4 i = .lst 1 false (B l)) (hLl : L4.length = 4) (st : St)
    (hst : gcSt [0, 3, 4, 5, 71, 72, 73, 122, 123, 124] [] st = ⟨[(0, .t (.lst 1 false (B raw))), (3, .t (.lst 1 false (Ns at_))), (4, .t (.int .u8 by_)), (5, .t (.int .i64 cut)), (71, .t (.lst 1 true L)), (72, .t (.int .i64 2)), (73, .t (.int .i64 i)), (122, .t (.lst 1 true L4)), (123, .t (.int .i64 4)), (124, .t (.int .i64 0))], []⟩)
    (hQ : ∀ (vs : List (Nat × V)) (H : Heap), get vs 0 = .t (.lst 1 false (B raw)) → get vs 3 = .t (.lst 1 false (Ns at_)) → get vs 4 = .t (.int .u8 by_) → get vs 5 = .t (.int .i64 cut) → get vs 71 = .t (.lst 1 true L) → get vs 72 = .t (.int .i64 2) → get vs 73 = .t (.int .i64 i) → Q .norm ⟨vs, H⟩) :
    wpC (SCall PP) 0 (.loop debuggerlaw36_MessageDecodes.l1) (blockK 4 Q) st := by
  refine wpC_loop_gc [0, 3, 4, 5, 71, 72, 73, 122, 123, 124] [] (fun m s => ∃ j : Nat, m + j = 4 ∧ s = ⟨[(0, .t (.lst 1 false (B raw))), (3, .t (.lst 1 false (Ns at_))), (4, .t (.int .u8 by_)), (5, .t (.int .i64 cut)), (71, .t (.lst 1 true L)), (72, .t (.int .i64 2)), (73, .t (.int .i64 i)), (122, .t (.lst 1 true L4)), (123, .t (.int .i64 4)), (124, .t (.int .i64 j))], []⟩) 4
    ⟨by simp [keepOk], 0, by omega, hst⟩ ?_
  clear hst st
  rintro m s ⟨j, hm, rfl⟩
  by_cases hj : j < 4
  case neg =>
    have hj' : ¬ (j : Int) < 4 := by omega
    simp (maxSteps := 4000000) -implicitDefEqProofs (disch := omega) only [hj', ↓sxPre, sxPost, sxLib, if_true, if_false, Nat.reduceEqDiff, ↓reduceIte, Nat.reduceAdd, Nat.reduceSub, Nat.reduceMul, Nat.reduceLT, Nat.reduceLeDiff, reduceCtorEq, eq_self, K.isEff, List.reduceReplicate]
    exact hQ _ _ rfl rfl rfl rfl rfl rfl rfl
  have hj' : (j : Int) < 4 := by omega
  obtain ⟨z, bz, lz, hatz⟩ := hLat j hj
  have k1 := DecodeCommand_scT z bz lz
  have k2 := rDecodeCommand_sc z bz lz
  have k3 := DecodeReply_sc z bz lz
  have k4 := rDecodeReply_sc z bz lz
  have hw := decC_words bz
  obtain ⟨hRo, hRf⟩ := decR_ok bz
  generalize decC z = D at *
  generalize decR z = D2 at *
  obtain ⟨p, e⟩ := D
  obtain ⟨R, e2⟩ := D2
  simp only at hw hRo hRf
  simp (maxSteps := 4000000) -implicitDefEqProofs (disch := omega) only [hj', hLl, hatz, Int.toNat_natCast, at_zero, ↓sxPre, sxPost, sxLib, if_true, if_false, Nat.reduceEqDiff, ↓reduceIte, Nat.reduceAdd, Nat.reduceSub, Nat.reduceMul, Nat.reduceLT, Nat.reduceLeDiff, reduceCtorEq, eq_self, K.isEff, List.reduceReplicate]
  refine ⟨⟨by omega, by omega⟩, ?_⟩
  refine step_decCT (D := (p, e)) ?_ fun sz t hsz => ?_
  · simpa [V.ren, V.renL, Abs.get, ev] using k1
  simp only [Cm.cells]
  simp (maxSteps := 4000000) -implicitDefEqProofs (disch := omega) only [putAt_zero, putAt_succ, ↓sxPre, sxPost, sxLib, if_true, if_false, Nat.reduceEqDiff, ↓reduceIte, Nat.reduceAdd, Nat.reduceSub, Nat.reduceMul, Nat.reduceLT, Nat.reduceLeDiff, reduceCtorEq, eq_self, K.isEff, List.reduceReplicate]
  refine step_decCT (D := (p, e)) ?_ fun sz' t' hsz' => ?_
  · simpa [V.ren, V.renL, Abs.get, ev] using k2
  simp only [Cm.cells]
  simp (maxSteps := 4000000) -implicitDefEqProofs (disch := omega) only [putAt_zero, putAt_succ, ↓sxPre, sxPost, sxLib, if_true, if_false, Nat.reduceEqDiff, ↓reduceIte, Nat.reduceAdd, Nat.reduceSub, Nat.reduceMul, Nat.reduceLT, Nat.reduceLeDiff, reduceCtorEq, eq_self, K.isEff, List.reduceReplicate]
  refine step_decRT (D := (R, e2)) ?_ fun c1 hA1 => ?_
  · simpa [V.ren, V.renL, Abs.get, ev] using k3
  obtain ⟨f1, f2, f3, f4, f5, f6⟩ := Rp.At.facts hA1 hRo.slen
  simp (maxSteps := 4000000) -implicitDefEqProofs (disch := omega) only [f1, f2, f3, f4, f6, ↓sxPre, sxPost, sxLib, if_true, if_false, Nat.reduceEqDiff, ↓reduceIte, Nat.reduceAdd, Nat.reduceSub, Nat.reduceMul, Nat.reduceLT, Nat.reduceLeDiff, reduceCtorEq, eq_self, K.isEff, List.reduceReplicate]
  refine step_decRT (D := (R, e2)) ?_ fun c2 hA2 => ?_
  · simpa [V.ren, V.renL, Abs.get, ev] using k4
  obtain ⟨g1, g2, g3, g4, g5, g6⟩ := Rp.At.facts hA2 hRo.slen
  have d1 : decide (e = e) = true := decide_eq_true rfl
  have d2 : decide (e2 = e2) = true := decide_eq_true rfl
  simp (maxSteps := 4000000) -implicitDefEqProofs (disch := omega) only [g1, g2, g3, g4, g6, d1, d2, ↓sxPre, sxPost, sxLib, if_true, if_false, Nat.reduceEqDiff, ↓reduceIte, Nat.reduceAdd, Nat.reduceSub, Nat.reduceMul, Nat.reduceLT, Nat.reduceLeDiff, reduceCtorEq, eq_self, K.isEff, List.reduceReplicate]
  have cSC := SameCommand_sc p p hw sz sz' t t' hsz hsz'
  have cSR := SameReply_sc R R c1 c2 hA1 hA2 hRo hRo (by have := hRf.1; omega) (by have := hRf.2.2.1; omega) (fun q hq => by have := hRf.2.2.2 q hq; omega) (by have := hRf.2.1; omega)
  rw [decide_eq_true rfl] at cSC cSR
  have hvw : ∀ (H : Heap) (l : List T), viewL H (l.map V.t) = l.map V.t := by
    intro H l
    rw [viewL_eq, List.map_map]
    rfl
  simp only [Cm.cells] at cSC
  refine step_guard rfl (fun _ => step_tree (x := .bool true) ?_ rfl ?_) (fun h => absurd rfl h)
  · simpa [Abs.view, viewL, Abs.get, ev] using cSC
  simp (maxSteps := 4000000) -implicitDefEqProofs (disch := omega) only [f1, f2, f3, f4, g1, g2, g3, g4, ↓sxPre, sxPost, sxLib, if_true, if_false, Nat.reduceEqDiff, ↓reduceIte, Nat.reduceAdd, Nat.reduceSub, Nat.reduceMul, Nat.reduceLT, Nat.reduceLeDiff, reduceCtorEq, eq_self, K.isEff, List.reduceReplicate]
  refine step_guard rfl (fun _ => step_tree (x := .bool true) ?_ rfl ?_) (fun h => absurd rfl h)
  · simpa [Abs.view, Abs.get, ev, hvw] using cSR
  simp (maxSteps := 4000000) -implicitDefEqProofs (disch := omega) only [↓sxPre, sxPost, sxLib, if_true, if_false, Nat.reduceEqDiff, ↓reduceIte, Nat.reduceAdd, Nat.reduceSub, Nat.reduceMul, Nat.reduceLT, Nat.reduceLeDiff, reduceCtorEq, eq_self, K.isEff, List.reduceReplicate]
  refine ⟨m - 1, by omega, by simp [gcSt, keepOk, finG, resV, resOne, resAll, idx, V.ren, V.renL, Obj.ren, get_cons, get_nil, RTree, RTup, RRow], j + 1, by omega, by simp [gcSt, keepOk, finG, resV, resOne, resAll, idx, V.ren, V.renL, Obj.ren, get_cons, get_nil, RTree, RTup, RRow]⟩

/-- Up to three bytes are changed. -/
theorem MD_l0 (Q : Ex → St → Prop) (raw at_ : List Int) (hat : I64s at_) (by_ cut : Int) (L : List T) (i : Int) (E : List Int) (bE : Bytes E) (lE : E.length ≤ 10000) (st : St)
    (hk : keepOk 0 [0] st.h.length) (hst : gcSt [0, 3, 4, 5, 19, 20, 71, 72, 73] [0] st = ⟨[(0, .t (.lst 1 false (B raw))), (3, .t (.lst 1 false (Ns at_))), (4, .t (.int .u8 by_)), (5, .t (.int .i64 cut)), (19, .sl 0 0 E.length 0 1), (20, .t (.int .i64 0)), (71, .t (.lst 1 true L)), (72, .t (.int .i64 2)), (73, .t (.int .i64 i))], [.row 1 0 (B E)]⟩)
    (hQ : ∀ (X : List Int) (vs : List (Nat × V)), Bytes X → X.length = E.length → get vs 0 = .t (.lst 1 false (B raw)) → get vs 3 = .t (.lst 1 false (Ns at_)) → get vs 4 = .t (.int .u8 by_) → get vs 5 = .t (.int .i64 cut) → get vs 19 = .sl 0 0 X.length 0 1 →
      get vs 71 = .t (.lst 1 true L) → get vs 72 = .t (.int .i64 2) → get vs 73 = .t (.int .i64 i) → Q .norm ⟨vs, [.row 1 0 (B X)]⟩) :
    wpC (SCall PP) 0 (.loop debuggerlaw36_MessageDecodes.l0) (blockK 2 Q) st := by
  refine wpC_loop_gc [0, 3, 4, 5, 19, 20, 71, 72, 73] [0] (fun m s => ∃ (j : Nat) (X : List Int), m + j = at_.length ∧ X.length = E.length ∧ Bytes X ∧ s = ⟨[(0, .t (.lst 1 false (B raw))), (3, .t (.lst 1 false (Ns at_))), (4, .t (.int .u8 by_)), (5, .t (.int .i64 cut)), (19, .sl 0 0 X.length 0 1), (20, .t (.int .i64 j)), (71, .t (.lst 1 true L)), (72, .t (.int .i64 2)), (73, .t (.int .i64 i))], [.row 1 0 (B X)]⟩) at_.length
    ⟨hk, 0, E, by omega, rfl, bE, hst⟩ ?_
  clear hst hk st
  rintro m s ⟨j, X, hm, hX, hXb, rfl⟩
  have fin : ∀ vs : List (Nat × V), get vs 0 = .t (.lst 1 false (B raw)) → get vs 3 = .t (.lst 1 false (Ns at_)) → get vs 4 = .t (.int .u8 by_) → get vs 5 = .t (.int .i64 cut) → get vs 19 = .sl 0 0 X.length 0 1 →
      get vs 71 = .t (.lst 1 true L) → get vs 72 = .t (.int .i64 2) → get vs 73 = .t (.int .i64 i) → Q .norm ⟨vs, [.row 1 0 (B X)]⟩ := fun vs => hQ X vs hXb hX
  clear hQ
  cases d1 : decide ((j : Int) < at_.length) with
  | false =>
    simp (maxSteps := 4000000) -implicitDefEqProofs (disch := omega) only [Ns_length, d1, ↓sxPre, sxPost, sxLib, if_true, if_false, Nat.reduceEqDiff, ↓reduceIte, Nat.reduceAdd, Nat.reduceSub, Nat.reduceMul, Nat.reduceLT, Nat.reduceLeDiff, reduceCtorEq, eq_self, K.isEff, List.reduceReplicate]
    exact fin _ rfl rfl rfl rfl rfl rfl rfl rfl
  | true =>
  cases d2 : decide ((j : Int) < 3) with
  | false =>
    simp (maxSteps := 4000000) -implicitDefEqProofs (disch := omega) only [Ns_length, d1, d2, ↓sxPre, sxPost, sxLib, if_true, if_false, Nat.reduceEqDiff, ↓reduceIte, Nat.reduceAdd, Nat.reduceSub, Nat.reduceMul, Nat.reduceLT, Nat.reduceLeDiff, reduceCtorEq, eq_self, K.isEff, List.reduceReplicate]
    exact fin _ rfl rfl rfl rfl rfl rfl rfl rfl
  | true =>
  cases d3 : decide ((0 : Int) < X.length) with
  | false =>
    simp (maxSteps := 4000000) -implicitDefEqProofs (disch := omega) only [Ns_length, B_length, d1, d2, d3, ↓sxPre, sxPost, sxLib, if_true, if_false, Nat.reduceEqDiff, ↓reduceIte, Nat.reduceAdd, Nat.reduceSub, Nat.reduceMul, Nat.reduceLT, Nat.reduceLeDiff, reduceCtorEq, eq_self, K.isEff, List.reduceReplicate]
    exact fin _ rfl rfl rfl rfl rfl rfl rfl rfl
  | true =>
  clear fin
  have d1' := of_decide_eq_true d1
  have d3' := of_decide_eq_true d3
  have d2' := of_decide_eq_true d2
  have hj : j < at_.length := by omega
  have hai := hat _ (List.getElem_mem hj)
  have hmod : 0 ≤ at_[j] % (X.length : Int) ∧ at_[j] % (X.length : Int) < X.length := ⟨Int.emod_nonneg _ (by omega), Int.emod_lt_of_pos _ (by omega)⟩
  have hax := at_B' (l := X) (i := (at_[j] % (X.length : Int)).toNat) (by omega)
  have cM := Mod_sc at_[j] X.length (by omega) (by omega)
  simp (maxSteps := 4000000) -implicitDefEqProofs (disch := omega) only [d1, d2, d3, Ns_length, B_length, Int.toNat_natCast, at_Ns hj, at_zero, ↓sxPre, sxPost, sxLib, if_true, if_false, Nat.reduceEqDiff, ↓reduceIte, Nat.reduceAdd, Nat.reduceSub, Nat.reduceMul, Nat.reduceLT, Nat.reduceLeDiff, reduceCtorEq, eq_self, K.isEff, List.reduceReplicate]
  refine ⟨by omega, step_tree (x := .int .i64 (at_[j] % (X.length : Int))) ?_ rfl ?_⟩
  · simpa [Abs.view, viewL, Abs.get, ev] using cM
  simp (maxSteps := 4000000) -implicitDefEqProofs (disch := omega) only [kload1_elt, hax, kstore_elt, elemPut_int, at_zero, B_set', B_length, ↓sxPre, sxPost, sxLib, if_true, if_false, Nat.reduceEqDiff, ↓reduceIte, Nat.reduceAdd, Nat.reduceSub, Nat.reduceMul, Nat.reduceLT, Nat.reduceLeDiff, reduceCtorEq, eq_self, K.isEff, List.reduceReplicate]
  have hx8 := xor_u8' (X[(at_[j] % (X.length : Int)).toNat]'(by omega)) by_
  refine ⟨by omega, by omega, by omega, m - 1, by omega, by simp [gcSt, keepOk, finG, resV, resOne, resAll, idx, V.ren, V.renL, Obj.ren, get_cons, get_nil, RTree, RTup, RRow], j + 1, X.set (at_[j] % (X.length : Int)).toNat (Abs.bits .xor .u8 (X[(at_[j] % (X.length : Int)).toNat]'(by omega)) by_), by omega, by simp [hX], bytes_set hXb hx8 _, by simp [gcSt, keepOk, finG, resV, resOne, resAll, idx, V.ren, V.renL, Obj.ren, get_cons, get_nil, RTree, RTup, RRow]⟩

theorem MessageDecodes_main (raw : List Int) (hraw : Bytes raw) (hrl : raw.length ≤ 2 ^ 47) (p : Cm) (hp : p.Ok) (R : Rp) (cs : List T) (hR : R.Ok) (hA : R.At cs) (at_ : List Int) (hat : I64s at_) (hal : at_.length ≤ 2 ^ 47) (by_ cut : Int) :
    SCall PP N.debuggerlaw36_MessageDecodes [.t (.lst 1 false (B raw)), .t (.agg (p.cells 1 false)), .t (.agg cs), .t (.lst 1 false (Ns at_)), .t (.int .u8 by_), .t (.int .i64 cut)] [] (RTree (.bool true)) := by
  refine debuggerlaw36_MessageDecodes.intro (by simp) ?_
  have cSm := small_sc R cs hR hA
  have cN0 := fun h : R.Small => nearT_sc R cs hR hA h 7 ⟨by decide, by decide⟩
  obtain ⟨s1, t1, s2, t2, s3, t3, xs, h1, h2, h3, hx, ha, rfl⟩ := hA
  obtain ⟨q0, q1, q2, q3, q4, q5, q6, hs7⟩ := seven hR.slen
  have hNs : Ns R.stop = [.int .i64 q0, .int .i64 q1, .int .i64 q2, .int .i64 q3, .int .i64 q4, .int .i64 q5, .int .i64 q6] := by rw [hs7]; rfl
  rw [hNs] at cSm cN0 ⊢
  simp only [Cm.cells, List.map_cons, List.map_nil] at cSm cN0 ⊢
  have hpad : ∀ d : V → Heap → Prop, d = d := fun _ => rfl
  cases b1 : decide ((1000 : Int) < raw.length) with
  | true =>
    simp (maxSteps := 4000000) -implicitDefEqProofs (disch := omega) only [B_length, Ns_length, b1, ↓sxPre, sxPost, sxLib, if_true, if_false, Nat.reduceEqDiff, ↓reduceIte, Nat.reduceAdd, Nat.reduceSub, Nat.reduceMul, Nat.reduceLT, Nat.reduceLeDiff, reduceCtorEq, eq_self, K.isEff, List.reduceReplicate]
    refine step_guard rfl (fun h => absurd h (by decide)) (fun _ => ?_)
    simp (maxSteps := 4000000) -implicitDefEqProofs (disch := omega) only [↓sxPre, sxPost, sxLib, if_true, if_false, Nat.reduceEqDiff, ↓reduceIte, Nat.reduceAdd, Nat.reduceSub, Nat.reduceMul, Nat.reduceLT, Nat.reduceLeDiff, reduceCtorEq, eq_self, K.isEff, List.reduceReplicate]
    refine step_tree awake36_sc rfl ?_
    simp (maxSteps := 4000000) -implicitDefEqProofs (disch := omega) only [↓sxPre, sxPost, sxLib, if_true, if_false, Nat.reduceEqDiff, ↓reduceIte, Nat.reduceAdd, Nat.reduceSub, Nat.reduceMul, Nat.reduceLT, Nat.reduceLeDiff, reduceCtorEq, eq_self, K.isEff, List.reduceReplicate]
    refine finK_gc [] ?_
    simp [gcSt, keepOk, finG, resV, resOne, resAll, idx, V.ren, V.renL, Obj.ren, get_cons, get_nil, RTree, RTup, RRow]
  | false =>
  cases b2 : decide ((20 : Int) < p.words.length) with
  | true =>
    simp (maxSteps := 4000000) -implicitDefEqProofs (disch := omega) only [B_length, Ns_length, b1, b2, ↓sxPre, sxPost, sxLib, if_true, if_false, Nat.reduceEqDiff, ↓reduceIte, Nat.reduceAdd, Nat.reduceSub, Nat.reduceMul, Nat.reduceLT, Nat.reduceLeDiff, reduceCtorEq, eq_self, K.isEff, List.reduceReplicate]
    refine step_guard rfl (fun h => absurd h (by decide)) (fun _ => ?_)
    simp (maxSteps := 4000000) -implicitDefEqProofs (disch := omega) only [↓sxPre, sxPost, sxLib, if_true, if_false, Nat.reduceEqDiff, ↓reduceIte, Nat.reduceAdd, Nat.reduceSub, Nat.reduceMul, Nat.reduceLT, Nat.reduceLeDiff, reduceCtorEq, eq_self, K.isEff, List.reduceReplicate]
    refine step_tree awake36_sc rfl ?_
    simp (maxSteps := 4000000) -implicitDefEqProofs (disch := omega) only [↓sxPre, sxPost, sxLib, if_true, if_false, Nat.reduceEqDiff, ↓reduceIte, Nat.reduceAdd, Nat.reduceSub, Nat.reduceMul, Nat.reduceLT, Nat.reduceLeDiff, reduceCtorEq, eq_self, K.isEff, List.reduceReplicate]
    refine finK_gc [] ?_
    simp [gcSt, keepOk, finG, resV, resOne, resAll, idx, V.ren, V.renL, Obj.ren, get_cons, get_nil, RTree, RTup, RRow]
  | false =>
  by_cases hsm : R.Small
  case neg =>
    rw [decide_eq_false hsm] at cSm
    simp (maxSteps := 4000000) -implicitDefEqProofs (disch := omega) only [B_length, Ns_length, b1, b2, ↓sxPre, sxPost, sxLib, if_true, if_false, Nat.reduceEqDiff, ↓reduceIte, Nat.reduceAdd, Nat.reduceSub, Nat.reduceMul, Nat.reduceLT, Nat.reduceLeDiff, reduceCtorEq, eq_self, K.isEff, List.reduceReplicate]
    refine step_guard rfl (fun _ => step_tree (x := .bool false) ?_ rfl ?_) (fun h => absurd rfl h)
    · simpa [Abs.view, viewL, Abs.get, ev] using cSm
    simp (maxSteps := 4000000) -implicitDefEqProofs (disch := omega) only [↓sxPre, sxPost, sxLib, if_true, if_false, Nat.reduceEqDiff, ↓reduceIte, Nat.reduceAdd, Nat.reduceSub, Nat.reduceMul, Nat.reduceLT, Nat.reduceLeDiff, reduceCtorEq, eq_self, K.isEff, List.reduceReplicate]
    refine step_tree awake36_sc rfl ?_
    simp (maxSteps := 4000000) -implicitDefEqProofs (disch := omega) only [↓sxPre, sxPost, sxLib, if_true, if_false, Nat.reduceEqDiff, ↓reduceIte, Nat.reduceAdd, Nat.reduceSub, Nat.reduceMul, Nat.reduceLT, Nat.reduceLeDiff, reduceCtorEq, eq_self, K.isEff, List.reduceReplicate]
    refine finK_gc [] ?_
    simp [gcSt, keepOk, finG, resV, resOne, resAll, idx, V.ren, V.renL, Obj.ren, get_cons, get_nil, RTree, RTup, RRow]
  rw [decide_eq_true hsm] at cSm
  have cN := cN0 hsm
  clear cN0
  cases b4 : decide ((20 : Int) < R.words.length) with
  | true =>
    simp (maxSteps := 4000000) -implicitDefEqProofs (disch := omega) only [B_length, Ns_length, b1, b2, ↓sxPre, sxPost, sxLib, if_true, if_false, Nat.reduceEqDiff, ↓reduceIte, Nat.reduceAdd, Nat.reduceSub, Nat.reduceMul, Nat.reduceLT, Nat.reduceLeDiff, reduceCtorEq, eq_self, K.isEff, List.reduceReplicate]
    refine step_guard rfl (fun _ => step_tree (x := .bool true) ?_ rfl ?_) (fun h => absurd rfl h)
    · simpa [Abs.view, viewL, Abs.get, ev] using cSm
    simp (maxSteps := 4000000) -implicitDefEqProofs (disch := omega) only [B_length, Ns_length, b4, ↓sxPre, sxPost, sxLib, if_true, if_false, Nat.reduceEqDiff, ↓reduceIte, Nat.reduceAdd, Nat.reduceSub, Nat.reduceMul, Nat.reduceLT, Nat.reduceLeDiff, reduceCtorEq, eq_self, K.isEff, List.reduceReplicate]
    refine step_tree awake36_sc rfl ?_
    simp (maxSteps := 4000000) -implicitDefEqProofs (disch := omega) only [↓sxPre, sxPost, sxLib, if_true, if_false, Nat.reduceEqDiff, ↓reduceIte, Nat.reduceAdd, Nat.reduceSub, Nat.reduceMul, Nat.reduceLT, Nat.reduceLeDiff, reduceCtorEq, eq_self, K.isEff, List.reduceReplicate]
    refine finK_gc [] ?_
    simp [gcSt, keepOk, finG, resV, resOne, resAll, idx, V.ren, V.renL, Obj.ren, get_cons, get_nil, RTree, RTup, RRow]
  | false =>
  cases b5 : decide ((20 : Int) < R.out.length) with
  | true =>
    simp (maxSteps := 4000000) -implicitDefEqProofs (disch := omega) only [B_length, Ns_length, b1, b2, ↓sxPre, sxPost, sxLib, if_true, if_false, Nat.reduceEqDiff, ↓reduceIte, Nat.reduceAdd, Nat.reduceSub, Nat.reduceMul, Nat.reduceLT, Nat.reduceLeDiff, reduceCtorEq, eq_self, K.isEff, List.reduceReplicate]
    refine step_guard rfl (fun _ => step_tree (x := .bool true) ?_ rfl ?_) (fun h => absurd rfl h)
    · simpa [Abs.view, viewL, Abs.get, ev] using cSm
    simp (maxSteps := 4000000) -implicitDefEqProofs (disch := omega) only [B_length, Ns_length, Ps_length, b4, b5, ↓sxPre, sxPost, sxLib, if_true, if_false, Nat.reduceEqDiff, ↓reduceIte, Nat.reduceAdd, Nat.reduceSub, Nat.reduceMul, Nat.reduceLT, Nat.reduceLeDiff, reduceCtorEq, eq_self, K.isEff, List.reduceReplicate]
    refine step_tree awake36_sc rfl ?_
    simp (maxSteps := 4000000) -implicitDefEqProofs (disch := omega) only [↓sxPre, sxPost, sxLib, if_true, if_false, Nat.reduceEqDiff, ↓reduceIte, Nat.reduceAdd, Nat.reduceSub, Nat.reduceMul, Nat.reduceLT, Nat.reduceLeDiff, reduceCtorEq, eq_self, K.isEff, List.reduceReplicate]
    refine finK_gc [] ?_
    simp [gcSt, keepOk, finG, resV, resOne, resAll, idx, V.ren, V.renL, Obj.ren, get_cons, get_nil, RTree, RTup, RRow]
  | false =>
  have b1' := of_decide_eq_false b1
  have b2' := of_decide_eq_false b2
  have b4' := of_decide_eq_false b4
  have b5' := of_decide_eq_false b5
  have cE := rEncodeCommand_sc p (by omega) hp 1 false (.inl rfl)
  have hbE := p.enc_bytes
  have lE : p.enc.length ≤ 2000 := by
    have e1 := enI_len (Cm.head_ok hp) (by simp [Cm.head])
    have e0 : p.head.length = 4 := rfl
    have e2 := enI_len hp.2.2.2.2.1 (by omega)
    simp only [Cm.enc, List.length_append]
    omega
  generalize p.enc = E1 at *
  simp only [Cm.cells, List.map_cons, List.map_nil] at cE
  simp (maxSteps := 4000000) -implicitDefEqProofs (disch := omega) only [B_length, Ns_length, b1, b2, ↓sxPre, sxPost, sxLib, if_true, if_false, Nat.reduceEqDiff, ↓reduceIte, Nat.reduceAdd, Nat.reduceSub, Nat.reduceMul, Nat.reduceLT, Nat.reduceLeDiff, reduceCtorEq, eq_self, K.isEff, List.reduceReplicate]
  refine step_guard rfl (fun _ => step_tree (x := .bool true) ?_ rfl ?_) (fun h => absurd rfl h)
  · simpa [Abs.view, viewL, Abs.get, ev] using cSm
  simp (maxSteps := 4000000) -implicitDefEqProofs (disch := omega) only [B_length, Ns_length, Ps_length, b4, b5, ↓sxPre, sxPost, sxLib, if_true, if_false, Nat.reduceEqDiff, ↓reduceIte, Nat.reduceAdd, Nat.reduceSub, Nat.reduceMul, Nat.reduceLT, Nat.reduceLeDiff, reduceCtorEq, eq_self, K.isEff, List.reduceReplicate]
  refine step_enc (ys := E1) ?_ fun ga => ?_
  · simpa [Abs.view, viewL, Abs.get, ev] using cE
  simp (maxSteps := 4000000) -implicitDefEqProofs (disch := omega) only [↓sxPre, sxPost, sxLib, if_true, if_false, Nat.reduceEqDiff, ↓reduceIte, Nat.reduceAdd, Nat.reduceSub, Nat.reduceMul, Nat.reduceLT, Nat.reduceLeDiff, reduceCtorEq, eq_self, K.isEff, List.reduceReplicate]
  refine step_nearT (R := R) (which := 7) ?_ fun c1 hA1 => ?_
  · simpa [V.ren, V.renL, Abs.get, ev] using cN
  have hok1 := Rp.near_ok hR 7
  have hfit1 := near7_fit (R := R) (by omega) (by omega)
  generalize R.near 7 = R1 at *
  have cR := SCall.tagg (rEncodeReply_sc R1 c1 hok1 hA1)
  have cR' : SCall PP N.debuggerref36_EncodeReply _ [] (REnc R1.enc) := cR.mono fun r H h => by simpa [REncR, hfit1] using h
  have hbR := R1.enc_bytes
  have lR := (Rp.enc_len hok1 hfit1).2
  clear cR
  generalize R1.enc = E2 at *
  refine step_enc (ys := E2) ?_ fun gb => ?_
  · simpa [Abs.view, viewL, Abs.get, ev] using cR'
  simp (maxSteps := 4000000) -implicitDefEqProofs (disch := omega) only [keff_buildSlice, toElems_cons, toElems_nil, toElem_t, toElem_row, setElems_cons, setElems_nil, B_all, ↓sxPre, sxPost, sxLib, if_true, if_false, Nat.reduceEqDiff, ↓reduceIte, Nat.reduceAdd, Nat.reduceSub, Nat.reduceMul, Nat.reduceLT, Nat.reduceLeDiff, reduceCtorEq, eq_self, K.isEff, List.reduceReplicate]
  obtain ⟨L, hL⟩ : ∃ L, L = [T.lst 1 false (B E1), T.lst 1 false (B E2)] := ⟨_, rfl⟩
  have hLat : ∀ i, i < 2 → ∃ l : List Int, Bytes l ∧ l.length ≤ 10000 ∧ T.at L i = .lst 1 false (B l) := by
    intro i hi
    subst hL
    match i, hi with
    | 0, _ => exact ⟨E1, hbE, by omega, rfl⟩
    | 1, _ => exact ⟨E2, hbR, by omega, rfl⟩
  have hLl : L.length = 2 := by rw [hL]; rfl
  rw [← hL]
  clear hL cR' cE cN cSm
  refine wpC_loop_gc [0, 3, 4, 5, 71, 72, 73] [] (fun m s => ∃ i : Nat, m + i = 2 ∧ s = ⟨[(0, .t (.lst 1 false (B raw))), (3, .t (.lst 1 false (Ns at_))), (4, .t (.int .u8 by_)), (5, .t (.int .i64 cut)), (71, .t (.lst 1 true L)), (72, .t (.int .i64 2)), (73, .t (.int .i64 i))], []⟩) 2
    ⟨by simp [gcSt, keepOk, finG, resV, resOne, resAll, idx, V.ren, V.renL, Obj.ren, get_cons, get_nil, RTree, RTup, RRow], 0, by omega, by simp [gcSt, keepOk, finG, resV, resOne, resAll, idx, V.ren, V.renL, Obj.ren, get_cons, get_nil, RTree, RTup, RRow]⟩ ?_
  rintro m s ⟨i, hm, rfl⟩
  by_cases hi : i < 2
  case neg =>
    have hi' : ¬ (i : Int) < 2 := by omega
    simp (maxSteps := 4000000) -implicitDefEqProofs (disch := omega) only [hi', ↓sxPre, sxPost, sxLib, if_true, if_false, Nat.reduceEqDiff, ↓reduceIte, Nat.reduceAdd, Nat.reduceSub, Nat.reduceMul, Nat.reduceLT, Nat.reduceLeDiff, reduceCtorEq, eq_self, K.isEff, List.reduceReplicate]
    refine step_tree awake36_sc rfl ?_
    simp (maxSteps := 4000000) -implicitDefEqProofs (disch := omega) only [↓sxPre, sxPost, sxLib, if_true, if_false, Nat.reduceEqDiff, ↓reduceIte, Nat.reduceAdd, Nat.reduceSub, Nat.reduceMul, Nat.reduceLT, Nat.reduceLeDiff, reduceCtorEq, eq_self, K.isEff, List.reduceReplicate]
    refine finK_gc [] ?_
    simp [gcSt, keepOk, finG, resV, resOne, resAll, idx, V.ren, V.renL, Obj.ren, get_cons, get_nil, RTree, RTup, RRow]
  have hi' : (i : Int) < 2 := by omega
  obtain ⟨E, bE, lE', hatE⟩ := hLat i hi
  simp (maxSteps := 4000000) -implicitDefEqProofs (disch := omega) only [hi', hLl, hatE, Int.toNat_natCast, at_zero, B_length, keff_buildSlice, toElems_nil, setElems_nil, kappend_nil, elems_lst', ↓sxPre, sxPost, sxLib, if_true, if_false, Nat.reduceEqDiff, ↓reduceIte, Nat.reduceAdd, Nat.reduceSub, Nat.reduceMul, Nat.reduceLT, Nat.reduceLeDiff, reduceCtorEq, eq_self, K.isEff, List.reduceReplicate]
  refine ⟨⟨by omega, by omega⟩, by omega, ?_⟩
  refine MD_l0 _ raw at_ hat by_ cut L i E bE lE' _ (by simp [keepOk]) (by simp [gcSt, keepOk, finG, resV, resOne, resAll, idx, V.ren, V.renL, Obj.ren, get_cons, get_nil, RTree, RTup, RRow]) ?_
  intro X vs bX lX v0 v3 v4 v5 v19 v71 v72 v73
  have hmod : 0 ≤ cut % ((X.length : Int) + 1) ∧ cut % ((X.length : Int) + 1) < (X.length : Int) + 1 := ⟨Int.emod_nonneg _ (by omega), Int.emod_lt_of_pos _ (by omega)⟩
  have cM := Mod_sc cut ((X.length : Int) + 1) (by omega) (by omega)
  generalize hk : cut % ((X.length : Int) + 1) = kk0 at *
  simp (maxSteps := 4000000) -implicitDefEqProofs (disch := omega) only [v0, v3, v4, v5, v19, B_length, ↓sxPre, sxPost, sxLib, if_true, if_false, Nat.reduceEqDiff, ↓reduceIte, Nat.reduceAdd, Nat.reduceSub, Nat.reduceMul, Nat.reduceLT, Nat.reduceLeDiff, reduceCtorEq, eq_self, K.isEff, List.reduceReplicate]
  have hW : (B X ++ B raw).take (X.length + raw.length) = B (X ++ raw) := by
    rw [← B_append]; exact List.take_of_length_le (by simp [B])
  refine ⟨?_, ?_⟩
  all_goals
    refine step_eff (step_tree (x := .int .i64 kk0) ?_ rfl ?_)
    · simpa [Abs.view, viewL, Abs.get, ev] using cM
    simp (maxSteps := 4000000) -implicitDefEqProofs (disch := omega) only [v0, v3, v4, v5, v19, B_length, keff_buildSlice, toElems_cons, toElems_nil, toElem_t, toElem_row, setElems_cons, setElems_nil, kappend_nil, elems_sl, elems_lst', B_all, B_take, List.take_length, hW, ↓sxPre, sxPost, sxLib, if_true, if_false, Nat.reduceEqDiff, ↓reduceIte, Nat.reduceAdd, Nat.reduceSub, Nat.reduceMul, Nat.reduceLT, Nat.reduceLeDiff, reduceCtorEq, eq_self, K.isEff, List.reduceReplicate]
    refine ⟨⟨by omega, by omega⟩, by omega, by omega, ?_⟩
    refine MD_l1 _ raw at_ by_ cut L [T.lst 1 false (B raw), T.lst 1 false (B X), T.lst 1 false (B (X.take kk0.toNat)), T.lst 1 false (B (X ++ raw))] i ?_ rfl _ (by simp [v0, v3, v4, v5, v71, v72, v73, gcSt, keepOk, finG, resV, resOne, resAll, idx, V.ren, V.renL, Obj.ren, get_cons, get_nil, RTree, RTup, RRow]) ?_
    · intro j hj
      match j, hj with
      | 0, _ => exact ⟨raw, hraw, by omega, rfl⟩
      | 1, _ => exact ⟨X, bX, by omega, rfl⟩
      | 2, _ => exact ⟨X.take kk0.toNat, bX.take _, by rw [List.length_take]; omega, rfl⟩
      | 3, _ => exact ⟨X ++ raw, bX.append hraw, by rw [List.length_append]; omega, rfl⟩
    · intro ws H w0 w3 w4 w5 w71 w72 w73
      clear v0 v3 v4 v5 v19 v71 v72 v73
      simp (maxSteps := 4000000) -implicitDefEqProofs (disch := omega) only [w73, ↓sxPre, sxPost, sxLib, if_true, if_false, Nat.reduceEqDiff, ↓reduceIte, Nat.reduceAdd, Nat.reduceSub, Nat.reduceMul, Nat.reduceLT, Nat.reduceLeDiff, reduceCtorEq, eq_self, K.isEff, List.reduceReplicate]
      refine ⟨m - 1, by omega, by simp [gcSt, keepOk, finG, resV, resOne, resAll, idx, V.ren, V.renL, Obj.ren, get_cons, get_nil, RTree, RTup, RRow], i + 1, by omega, by simp [w0, w3, w4, w5, w71, w72, gcSt, keepOk, finG, resV, resOne, resAll, idx, V.ren, V.renL, Obj.ren, get_cons, get_nil, RTree, RTup, RRow]⟩

theorem MessageDecodes_sc {W : World} {a : Option Addr} {len cap : Nat} {z : List Int} (w : IsRow .u8 W a len cap z) (y : len * 1 ≤ 140737488351232)
    {ta tc : List T} {ca cc : List Value} (h1 : Cells W [.int .i64, .int .i64, .int .i64, .int .i64, .lst false [.int .i64]] ta ca) (h3 : Cells W rpSh tc cc)
    {a2 : Option Addr} {len2 cap2 : Nat} {z2 : List Int} (w2 : IsRow .i64 W a2 len2 cap2 z2) (y2 : len2 * 8 ≤ 140737488351232) (by_ : Int) (hby : 0 ≤ by_ ∧ by_ < 256) (cut : Int) (hcut : -2 ^ 63 ≤ cut ∧ cut < 2 ^ 63) :
    SCall PP N.debuggerlaw36_MessageDecodes [.t (.lst 1 false ((z.take len).map (T.int .u8))), .t (.agg ta), .t (.agg tc), .t (.lst 1 false ((z2.take len2).map (T.int .i64))), .t (.int .u8 by_), .t (.int .i64 cut)] [] (RTree (.bool true)) := by
  obtain ⟨p, hp, rfl⟩ := Cells.cm h1
  obtain ⟨R, hR, rfl⟩ := Cells.rp h3
  exact MessageDecodes_main (z.take len) (IsRow.bytes w) (by rw [w.length]; omega) p hp R _ hR R.plain (z2.take len2) (fun x hx => i64_of (w2.wf x hx)) (by rw [w2.length]; omega) by_ cut
end Go.Proofs.Ytljjabccgbakgaa
