/- Messages: the specification reads replies. By the session itself. -/
import Derived.Test.YtljjabccgbakgaaMsg25
namespace Go.Proofs.Ytljjabccgbakgaa
open Go Go.Abs
set_option maxRecDepth 100000
set_option maxHeartbeats 8000000
set_option linter.unusedSimpArgs false
set_option linter.unusedVariables false

theorem afterThs_eq (b : List Int) (err : Int) (words : List Int) (l : List Th) (t : RS) : afterThs b err words (l, t) =
    (if (rdInts b 7 (rdOut b t).2).1.length = 7 ∧ (rdInts b 7 (rdOut b t).2).2.2 = false ∧ (rdInts b 7 (rdOut b t).2).2.1 = b.length then (⟨err, words, l, (rdOut b t).1, (rdInts b 7 (rdOut b t).2).1⟩, 0) else (zeroRp, 4)) := by
  unfold afterThs decEnd
  have e : (if (rdInts b 256 t).1.length % 2 = 0 then (rdInts b 256 t).2 else ((rdInts b 256 t).2.1, true)) = (rdOut b t).2 := rfl
  simp only [e]
  have e2 : pairs (rdInts b 256 t).1 = (rdOut b t).1 := rfl
  simp only [e2]
  generalize rdOut b t = o
  have hc : ((7 : Nat) : Int) = 7 := rfl
  by_cases h : (rdInts b 7 o.2).1.length = 7
  · rw [rdExact_pos (n := 7) h, hc]
    simp only [h, true_and]
  · rw [rdExact_neg (n := 7) h]
    simp [h]

theorem rdThs_bad (b : List Int) (k : Nat) (a : Int) : rdThs b k (a, true) = ([], (a, true)) := by
  cases k <;> simp [rdThs]

theorem afterThs_bad (b : List Int) (err : Int) (words : List Int) (a : Int) : afterThs b err words ([], (a, true)) = (zeroRp, 4) := by
  rw [afterThs_eq]
  have e : rdOut b (a, true) = ([], (a, true)) := by
    unfold rdOut
    rw [rdInts_bad b 256 a (by decide)]
    rfl
  rw [e]
  simp only
  rw [rdInts_bad b 7 a (by decide)]
  rw [if_neg (by simp)]

theorem rdOut_ok {b : List Int} (hb : Bytes b) {s : RS} (h : SOk b s) : SOk b (rdOut b s).2 ∧ (rdOut b s).1.length ≤ 128 := by
  obtain ⟨k1, k2, k3⟩ := rdInts_ok hb 256 h
  unfold rdOut
  refine ⟨?_, ?_⟩
  · simp only
    split
    · exact k1
    · exact k1
  · simp only [pairs_length]
    omega

abbrev rrTail : Cd := (.seq (.rgn debuggerref36_DecodeReply.r9) (.seq (.rgn debuggerref36_DecodeReply.r10) (.seq (.seq (.rgn debuggerref36_DecodeReply.r11) (.cond (.tmp 63) (.seq (.rgn debuggerref36_DecodeReply.r12) .ret) .skip)) (.seq (.rgnD debuggerref36_DecodeReply.d1) (.seq (.rgn debuggerref36_DecodeReply.r13) .ret)))))

theorem rDecodeReply_tail (b : List Int) (hb : Bytes b) (hl : b.length ≤ 2 ^ 40) (t : RS) (ht : SOk b t) (err : Int) (words : List Int) (ths : List Th) (s1 : Nat) (t1 : Bool) (h1 : s1 = 1 ∨ words = []) (ys : List T) (hyl : ys.length = ths.length) (hya : ∀ j (h : j < ths.length), (ths[j]'h).At (T.at ys j))
    (x : V) (H : Heap) (hxH : (ths = [] ∧ x = .t (.lst 0 true []) ∧ H = []) ∨ ∃ g', x = .sl 3 0 ths.length g' 20 ∧ H = [.row 20 g' ys]) (vs : List (Nat × V)) (hv0 : get vs 0 = .t (.lst 1 false (B b))) (hv2 : get vs 2 = .ref 0 0) (hv4 : get vs 4 = .ref 1 0) (hv5 : get vs 5 = .ref 2 0) :
    wpC (SCall PP) 0 rrTail (exitK 0 [.cell 2 11 false, .tmp 3] (RDecR (afterThs b err words (ths, t)))) ⟨vs, .box [.t (.int .i64 0), .t (.lst 0 true []), .t (.lst 0 true []), .t (.lst 0 true []), .t (.int .i64 0), .t (.int .i64 0), .t (.int .i64 0), .t (.int .i64 0), .t (.int .i64 0), .t (.int .i64 0), .t (.int .i64 0)] :: rbox b t :: .box [.t (.int .i64 err), .t (.lst s1 t1 (Ns words)), x, .t (.lst 0 true []), .t (.int .i64 0), .t (.int .i64 0), .t (.int .i64 0), .t (.int .i64 0), .t (.int .i64 0), .t (.int .i64 0), .t (.int .i64 0)] :: H⟩ := by
  have cO := routR_sc b hb hl t ht
  obtain ⟨k1, k2⟩ := rdOut_ok hb ht
  rw [afterThs_eq]
  have c7 := rlistT_sc b hb hl (rdOut b t).2 k1 7 (by decide)
  generalize rdOut b t = O at *
  obtain ⟨o, so⟩ := O
  simp only at k1 k2 c7 ⊢
  obtain ⟨D, hD⟩ : ∃ D, D = (if (rdInts b 7 so).1.length = 7 ∧ (rdInts b 7 so).2.2 = false ∧ (rdInts b 7 so).2.1 = (b.length : Int) then (⟨err, words, ths, o, (rdInts b 7 so).1⟩, 0) else ((zeroRp, 4) : Rp × Int)) := ⟨_, rfl⟩
  rw [← hD]
  generalize rdInts b 7 so = z at *
  obtain ⟨l, za, zb⟩ := z
  simp only at hD c7
  unfold rrTail
  simp (maxSteps := 4000000) -implicitDefEqProofs (disch := omega) only [hv4, ↓sxPre, sxPost, sxLib, if_true, if_false, Nat.reduceEqDiff, ↓reduceIte, Nat.reduceAdd, Nat.reduceSub, Nat.reduceMul, Nat.reduceLT, Nat.reduceLeDiff, reduceCtorEq, eq_self, K.isEff, List.reduceReplicate]
  refine step_outT (b := b) (x := (o, so)) 1 (by simp) ?_ (fun so1 to1 hso1 => ?_)
  · simpa [V.ren, V.renL, idx, Abs.get, ev, sub, rbox, Obj.ren, hv4] using cO
  simp (maxSteps := 4000000) -implicitDefEqProofs (disch := omega) only [hv5, hv4, kstore_ref, putAt_zero, putAt_succ, ↓sxPre, sxPost, sxLib, if_true, if_false, Nat.reduceEqDiff, ↓reduceIte, Nat.reduceAdd, Nat.reduceSub, Nat.reduceMul, Nat.reduceLT, Nat.reduceLeDiff, reduceCtorEq, eq_self, K.isEff, List.reduceReplicate]
  refine step_intsT (b := b) (x := (l, za, zb)) 1 (by simp) ?_ (fun sz tt hsz => ?_)
  · simpa [V.ren, V.renL, idx, Abs.get, ev, sub, rbox, Obj.ren, hv4] using c7
  unfold rbox
  cases zb with
  | true =>
    rw [if_neg (by simp)] at hD
    rw [hD]
    simp (maxSteps := 4000000) -implicitDefEqProofs (disch := omega) only [hv0, hv2, hv4, hv5, stepK_build', fillV, kstore_ref, putAt_zero, putAt_succ, ↓sxPre, sxPost, sxLib, if_true, if_false, Nat.reduceEqDiff, ↓reduceIte, Nat.reduceAdd, Nat.reduceSub, Nat.reduceMul, Nat.reduceLT, Nat.reduceLeDiff, reduceCtorEq, eq_self, K.isEff, List.reduceReplicate]
    exact finK_tup (n := 0) [] (c := True) (vs := [.agg [.t (.int .i64 0), .t (.lst 0 true []), .t (.lst 0 true []), .t (.lst 0 true []), .t (.int .i64 0), .t (.int .i64 0), .t (.int .i64 0), .t (.int .i64 0), .t (.int .i64 0), .t (.int .i64 0), .t (.int .i64 0)], .t (.int .i64 4)]) (xs := [.agg [.int .i64 0, .lst 0 true [], .lst 0 true [], .lst 0 true [], .int .i64 0, .int .i64 0, .int .i64 0, .int .i64 0, .int .i64 0, .int .i64 0, .int .i64 0], .int .i64 4])
      (H1 := .box [.t (.int .i64 0), .t (.lst 0 true []), .t (.lst 0 true []), .t (.lst 0 true []), .t (.int .i64 0), .t (.int .i64 0), .t (.int .i64 0), .t (.int .i64 0), .t (.int .i64 0), .t (.int .i64 0), .t (.int .i64 0)] :: .box [.t (.lst 1 false (B b)), .t (.int .i64 za), .t (.bool true)] :: .box [.t (.int .i64 err), .t (.lst s1 t1 (Ns words)), x, .t (.lst so1 to1 (Ps o)), .t (.int .i64 0), .t (.int .i64 0), .t (.int .i64 0), .t (.int .i64 0), .t (.int .i64 0), .t (.int .i64 0), .t (.int .i64 0)] :: H) (by simp [resV, resAll, resOne, get_cons, kloadN_ref, hv2]) trivial (by simp only [toElems_cons, toElems_nil, toElem_agg, toElem_t, toTs_cons, toTs_nil, toT_t]) (by simp [keepOk]) ⟨_, zeroRp_at, rfl, rfl⟩
  | false =>
  by_cases h7 : l.length = 7
  case neg =>
    have d1 : decide ((l.length : Int) = 7) = false := decide_eq_false (by omega)
    rw [if_neg (fun h => h7 h.1)] at hD
    rw [hD]
    simp (maxSteps := 4000000) -implicitDefEqProofs (disch := omega) only [hv0, hv2, hv4, hv5, Ns_length, d1, stepK_build', fillV, kstore_ref, putAt_zero, putAt_succ, ↓sxPre, sxPost, sxLib, if_true, if_false, Nat.reduceEqDiff, ↓reduceIte, Nat.reduceAdd, Nat.reduceSub, Nat.reduceMul, Nat.reduceLT, Nat.reduceLeDiff, reduceCtorEq, eq_self, K.isEff, List.reduceReplicate]
    exact finK_tup (n := 0) [] (c := True) (vs := [.agg [.t (.int .i64 0), .t (.lst 0 true []), .t (.lst 0 true []), .t (.lst 0 true []), .t (.int .i64 0), .t (.int .i64 0), .t (.int .i64 0), .t (.int .i64 0), .t (.int .i64 0), .t (.int .i64 0), .t (.int .i64 0)], .t (.int .i64 4)]) (xs := [.agg [.int .i64 0, .lst 0 true [], .lst 0 true [], .lst 0 true [], .int .i64 0, .int .i64 0, .int .i64 0, .int .i64 0, .int .i64 0, .int .i64 0, .int .i64 0], .int .i64 4])
      (H1 := .box [.t (.int .i64 0), .t (.lst 0 true []), .t (.lst 0 true []), .t (.lst 0 true []), .t (.int .i64 0), .t (.int .i64 0), .t (.int .i64 0), .t (.int .i64 0), .t (.int .i64 0), .t (.int .i64 0), .t (.int .i64 0)] :: .box [.t (.lst 1 false (B b)), .t (.int .i64 za), .t (.bool false)] :: .box [.t (.int .i64 err), .t (.lst s1 t1 (Ns words)), x, .t (.lst so1 to1 (Ps o)), .t (.int .i64 0), .t (.int .i64 0), .t (.int .i64 0), .t (.int .i64 0), .t (.int .i64 0), .t (.int .i64 0), .t (.int .i64 0)] :: H) (by simp [resV, resAll, resOne, get_cons, kloadN_ref, hv2]) trivial (by simp only [toElems_cons, toElems_nil, toElem_agg, toElem_t, toTs_cons, toTs_nil, toT_t]) (by simp [keepOk]) ⟨_, zeroRp_at, rfl, rfl⟩
  have d1 : decide ((l.length : Int) = 7) = true := decide_eq_true (by omega)
  by_cases hok : za = (b.length : Int)
  case neg =>
    have d2 : decide (za = (b.length : Int)) = false := decide_eq_false hok
    rw [if_neg (fun h => hok h.2.2)] at hD
    rw [hD]
    simp (maxSteps := 4000000) -implicitDefEqProofs (disch := omega) only [hv0, hv2, hv4, hv5, Ns_length, B_length, d1, d2, stepK_build', fillV, kstore_ref, putAt_zero, putAt_succ, ↓sxPre, sxPost, sxLib, if_true, if_false, Nat.reduceEqDiff, ↓reduceIte, Nat.reduceAdd, Nat.reduceSub, Nat.reduceMul, Nat.reduceLT, Nat.reduceLeDiff, reduceCtorEq, eq_self, K.isEff, List.reduceReplicate]
    exact finK_tup (n := 0) [] (c := True) (vs := [.agg [.t (.int .i64 0), .t (.lst 0 true []), .t (.lst 0 true []), .t (.lst 0 true []), .t (.int .i64 0), .t (.int .i64 0), .t (.int .i64 0), .t (.int .i64 0), .t (.int .i64 0), .t (.int .i64 0), .t (.int .i64 0)], .t (.int .i64 4)]) (xs := [.agg [.int .i64 0, .lst 0 true [], .lst 0 true [], .lst 0 true [], .int .i64 0, .int .i64 0, .int .i64 0, .int .i64 0, .int .i64 0, .int .i64 0, .int .i64 0], .int .i64 4])
      (H1 := .box [.t (.int .i64 0), .t (.lst 0 true []), .t (.lst 0 true []), .t (.lst 0 true []), .t (.int .i64 0), .t (.int .i64 0), .t (.int .i64 0), .t (.int .i64 0), .t (.int .i64 0), .t (.int .i64 0), .t (.int .i64 0)] :: .box [.t (.lst 1 false (B b)), .t (.int .i64 za), .t (.bool false)] :: .box [.t (.int .i64 err), .t (.lst s1 t1 (Ns words)), x, .t (.lst so1 to1 (Ps o)), .t (.int .i64 0), .t (.int .i64 0), .t (.int .i64 0), .t (.int .i64 0), .t (.int .i64 0), .t (.int .i64 0), .t (.int .i64 0)] :: H) (by simp [resV, resAll, resOne, get_cons, kloadN_ref, hv2]) trivial (by simp only [toElems_cons, toElems_nil, toElem_agg, toElem_t, toTs_cons, toTs_nil, toT_t]) (by simp [keepOk]) ⟨_, zeroRp_at, rfl, rfl⟩
  have d2 : decide (za = (b.length : Int)) = true := decide_eq_true hok
  rw [if_pos ⟨h7, rfl, hok⟩] at hD
  rw [hD]
  obtain ⟨q0, q1, q2, q3, q4, q5, q6, rfl⟩ := seven h7
  obtain rfl : sz = 1 := hsz.resolve_right (by simp)
  obtain ⟨X, hX⟩ : ∃ X, X = Ns [q0, q1, q2, q3, q4, q5, q6] := ⟨_, rfl⟩
  have A0 : T.at X 0 = .int .i64 q0 := by rw [hX]; rfl
  have A1 : T.at X 1 = .int .i64 q1 := by rw [hX]; rfl
  have A2 : T.at X 2 = .int .i64 q2 := by rw [hX]; rfl
  have A3 : T.at X 3 = .int .i64 q3 := by rw [hX]; rfl
  have A4 : T.at X 4 = .int .i64 q4 := by rw [hX]; rfl
  have A5 : T.at X 5 = .int .i64 q5 := by rw [hX]; rfl
  have A6 : T.at X 6 = .int .i64 q6 := by rw [hX]; rfl
  have hXl : X.length = 7 := by rw [hX]; rfl
  have d7 : decide (((7 : Nat) : Int) = 7) = true := by decide
  simp only [← hX]
  clear hX hD c7 cO d1
  simp (maxSteps := 4000000) -implicitDefEqProofs (disch := omega) only [hv0, hv2, hv4, hv5, hXl, B_length, d7, d2, Int.reduceToNat, A0, A1, A2, A3, A4, A5, A6, at_zero, stepK_build', fillV, kstore_ref, putAt_zero, putAt_succ, ↓sxPre, sxPost, sxLib, if_true, if_false, Nat.reduceEqDiff, ↓reduceIte, Nat.reduceAdd, Nat.reduceSub, Nat.reduceMul, Nat.reduceLT, Nat.reduceLeDiff, reduceCtorEq, eq_self, K.isEff, List.reduceReplicate]
  refine ⟨⟨by omega, by omega⟩, ⟨by omega, by omega⟩, ⟨by omega, by omega⟩, ⟨by omega, by omega⟩, ⟨by omega, by omega⟩, ⟨by omega, by omega⟩, ⟨by omega, by omega⟩, ?_⟩
  refine ⟨by rcases hxH with ⟨_, rfl, _⟩ | ⟨g', rfl, _⟩ <;> rfl, ?_⟩
  have hst : [q0, q1, q2, q3, q4, q5, q6].length = 7 := rfl
  rcases hxH with ⟨h0, rfl, rfl⟩ | ⟨g', rfl, rfl⟩
  · have hy0 : ys = [] := List.length_eq_zero_iff.1 (by rw [hyl, h0]; rfl)
    refine finK_tup (n := 0) [] (c := True) (vs := [.agg [.t (.int .i64 err), .t (.lst s1 t1 (Ns words)), .t (.lst 0 true []), .t (.lst so1 to1 (Ps o)), .t (.int .i64 q0), .t (.int .i64 q1), .t (.int .i64 q2), .t (.int .i64 q3), .t (.int .i64 q4), .t (.int .i64 q5), .t (.int .i64 q6)], .t (.int .i64 0)]) (xs := [.agg [.int .i64 err, .lst s1 t1 (Ns words), .lst 0 true [], .lst so1 to1 (Ps o), .int .i64 q0, .int .i64 q1, .int .i64 q2, .int .i64 q3, .int .i64 q4, .int .i64 q5, .int .i64 q6], .int .i64 0])
      (H1 := .box [.t (.int .i64 err), .t (.lst s1 t1 (Ns words)), .t (.lst 0 true []), .t (.lst so1 to1 (Ps o)), .t (.int .i64 q0), .t (.int .i64 q1), .t (.int .i64 q2), .t (.int .i64 q3), .t (.int .i64 q4), .t (.int .i64 q5), .t (.int .i64 q6)] :: .box [.t (.lst 1 false (B b)), .t (.int .i64 za), .t (.bool false)] :: .box [.t (.int .i64 err), .t (.lst s1 t1 (Ns words)), .t (.lst 0 true []), .t (.lst so1 to1 (Ps o)), .t (.int .i64 q0), .t (.int .i64 q1), .t (.int .i64 q2), .t (.int .i64 q3), .t (.int .i64 q4), .t (.int .i64 q5), .t (.int .i64 q6)] :: []) ?_ trivial ?_ (by simp [keepOk]) ⟨[.int .i64 err, .lst s1 t1 (Ns words), .lst 0 true [], .lst so1 to1 (Ps o), .int .i64 q0, .int .i64 q1, .int .i64 q2, .int .i64 q3, .int .i64 q4, .int .i64 q5, .int .i64 q6], (⟨s1, t1, 0, true, so1, to1, ys, h1, .inr h0, hso1, hyl, hya, by rw [hy0]; rfl⟩ : Rp.At ⟨err, words, ths, o, [q0, q1, q2, q3, q4, q5, q6]⟩ [.int .i64 err, .lst s1 t1 (Ns words), .lst 0 true [], .lst so1 to1 (Ps o), .int .i64 q0, .int .i64 q1, .int .i64 q2, .int .i64 q3, .int .i64 q4, .int .i64 q5, .int .i64 q6]), rfl, rfl⟩
    · simp [resV, resAll, resOne, get_cons, kloadN_ref, hv2]
    · simp only [toElems_cons, toElems_nil, toElem_agg, toElem_t, toTs_cons, toTs_nil, toT_t, toT_sl]
  · have hyt : ys.take ths.length = ys := List.take_of_length_le (by omega)
    refine finK_tup (n := 0) [] (c := True) (vs := [.agg [.t (.int .i64 err), .t (.lst s1 t1 (Ns words)), .sl 3 0 ths.length g' 20, .t (.lst so1 to1 (Ps o)), .t (.int .i64 q0), .t (.int .i64 q1), .t (.int .i64 q2), .t (.int .i64 q3), .t (.int .i64 q4), .t (.int .i64 q5), .t (.int .i64 q6)], .t (.int .i64 0)]) (xs := [.agg [.int .i64 err, .lst s1 t1 (Ns words), .lst 20 false ys, .lst so1 to1 (Ps o), .int .i64 q0, .int .i64 q1, .int .i64 q2, .int .i64 q3, .int .i64 q4, .int .i64 q5, .int .i64 q6], .int .i64 0])
      (H1 := .box [.t (.int .i64 err), .t (.lst s1 t1 (Ns words)), .sl 3 0 ths.length g' 20, .t (.lst so1 to1 (Ps o)), .t (.int .i64 q0), .t (.int .i64 q1), .t (.int .i64 q2), .t (.int .i64 q3), .t (.int .i64 q4), .t (.int .i64 q5), .t (.int .i64 q6)] :: .box [.t (.lst 1 false (B b)), .t (.int .i64 za), .t (.bool false)] :: .box [.t (.int .i64 err), .t (.lst s1 t1 (Ns words)), .sl 3 0 ths.length g' 20, .t (.lst so1 to1 (Ps o)), .t (.int .i64 q0), .t (.int .i64 q1), .t (.int .i64 q2), .t (.int .i64 q3), .t (.int .i64 q4), .t (.int .i64 q5), .t (.int .i64 q6)] :: [.frz 20 g' ys]) ?_ trivial ?_ (by simp [keepOk]) ⟨[.int .i64 err, .lst s1 t1 (Ns words), .lst 20 false ys, .lst so1 to1 (Ps o), .int .i64 q0, .int .i64 q1, .int .i64 q2, .int .i64 q3, .int .i64 q4, .int .i64 q5, .int .i64 q6], (⟨s1, t1, 20, false, so1, to1, ys, h1, .inl rfl, hso1, hyl, hya, rfl⟩ : Rp.At ⟨err, words, ths, o, [q0, q1, q2, q3, q4, q5, q6]⟩ [.int .i64 err, .lst s1 t1 (Ns words), .lst 20 false ys, .lst so1 to1 (Ps o), .int .i64 q0, .int .i64 q1, .int .i64 q2, .int .i64 q3, .int .i64 q4, .int .i64 q5, .int .i64 q6]), rfl, rfl⟩
    · simp [resV, resAll, resOne, get_cons, kloadN_ref, hv2]
    · simp only [toElems_cons, toElems_nil, toElem_agg, toElem_t, toTs_cons, toTs_nil, toT_t, toT_sl]
      simp [rowOf, hyt, toT_t]
end Go.Proofs.Ytljjabccgbakgaa
