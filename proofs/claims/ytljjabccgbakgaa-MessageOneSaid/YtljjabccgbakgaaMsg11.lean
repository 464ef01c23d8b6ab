/- MessageFits. By the session itself. -/
import Derived.Test.YtljjabccgbakgaaMa
namespace Go.Proofs.Ytljjabccgbakgaa
open Go Go.Abs
set_option maxRecDepth 100000
set_option maxHeartbeats 4000000
set_option linter.unusedSimpArgs false
set_option linter.unusedVariables false

theorem Ns_set (l : List Int) (i : Nat) (x : Int) : (Ns l).set i (.int .i64 x) = Ns (l.set i x) := by simp [Ns, List.map_set]
theorem Ps_set (l : List (Int × Int)) (i : Nat) (x y : Int) : (Ps l).set i (.agg [.int .i64 x, .int .i64 y]) = Ps (l.set i (x, y)) := by simp [Ps, List.map_set]

/-- A call of near with 7. -/
theorem step_near7 {P : Program} {f : FuncId} {H : Heap} {K : St → Prop} {vs : List (Nat × V)} {r : List Ins} {d : Nat} {xs : List Opnd} {R : Rp}
    (h : SCall P f ((xs.map (ev vs)).map (V.ren (idx []))) [] (RNear R 7))
    (hk : ∀ g ys s1 t1 s3 t3, (s1 = 1 ∨ R.words = []) → (s3 = 2 ∨ R.out = []) → ys.length = R.ths.length → (∀ i (h : i < R.ths.length), (R.ths[i]'h).cut.At (T.at ys i)) →
      wpR (SCall P) r K ⟨(d, .agg (.t (.int .i64 R.err) :: .t (.lst s1 t1 (Ns R.words)) :: .sl H.length 0 (min R.ths.length 8) g 20 :: .t (.lst s3 t3 (Ps R.out)) :: (Ns R.stop).map V.t)) :: vs, H ++ [.row 20 g ys]⟩) :
    wpR (SCall P) (⟨some d, none, .call f xs⟩ :: r) K ⟨vs, H⟩ := by
  refine step_call (call_own h ?_)
  rintro r N ⟨g, ys, w, o, F, h1, h2, rfl, rfl, s1, t1, s3, t3, h3, h4, h5⟩
  rcases h5 with ⟨_, _, rfl, rfl, rfl⟩ | ⟨h5, _⟩ | ⟨h5, _⟩
  · simpa [V.ren, V.renL, tau, Obj.ren, renL_t] using hk g ys s1 t1 s3 t3 h3 h4 h1 h2
  · exact absurd h5 (by decide)
  · exact absurd h5 (by decide)

theorem Th.cut_ok {q : Th} (h : q.Ok) : q.cut.Ok := by
  obtain ⟨h1, h2, h3, h4, h5, h6, h7⟩ := h
  exact ⟨h1, h2, h3, h4, h5, fun x hx => h6 x (List.mem_of_mem_take hx), by simp only [Th.cut, List.length_take]; omega⟩

theorem enI_pos (l : List Int) : 0 < (enI l).length := by
  have := groups_pos l.length
  rw [enI, List.length_append]; omega

/-- How long a reply is. -/
theorem Rp.enc_len {R : Rp} (hR : R.Ok) (hf : R.Fit) : 0 < R.enc.length ∧ R.enc.length ≤ 6000 := by
  obtain ⟨kerr, kwords, kwlen, kths, ktlen, kout, kolen, kstop, kslen⟩ := hR
  obtain ⟨f1, f2, f3, f4⟩ := hf
  have h1 := groups_le10 (zig_lt kerr)
  have h2 := enI_len kwords (by omega)
  have h3 := groups_le10 (v := R.ths.length) (by omega)
  have h4 := encs_len kths f4
  have h5 := enI_len kout (by rw [flatO_length]; omega)
  have h6 := enI_len kstop (by omega)
  have h7 := enI_pos R.stop
  rw [flatO_length] at h5
  simp only [Rp.enc, Rp.pre, List.length_append]
  omega

theorem MessageFits_main (p : Cm) (hp : p.Ok) (R : Rp) (cs : List T) (hR : R.Ok) (hA : R.At cs) (word : Int) (hw : I64 word) : SCall PP N.debuggerlaw36_MessageFits [.t (.agg (p.cells 1 false)), .t (.agg cs), .t (.int .i64 word)] [] (RTree (.bool true)) := by
  refine debuggerlaw36_MessageFits.intro (by simp) ?_
  have cSm := small_sc R cs hR hA
  have hA' := hA
  obtain ⟨s1, t1, s2, t2, s3, t3, xs, h1, h2, h3, hx, ha, hcs⟩ := hA
  have hR' := hR
  obtain ⟨kerr, kwords, kwlen, kths, ktlen, kout, kolen, kstop, kslen⟩ := hR
  obtain ⟨q0, q1, q2, q3, q4, q5, q6, hs7⟩ := seven kslen
  have hNs : Ns R.stop = [.int .i64 q0, .int .i64 q1, .int .i64 q2, .int .i64 q3, .int .i64 q4, .int .i64 q5, .int .i64 q6] := by rw [hs7]; rfl
  rw [hNs] at hcs
  have hcs' := hcs
  subst hcs
  simp only [Cm.cells]
  by_cases hb1 : (128 : Int) < p.words.length
  · have g1 : decide ((128 : Int) < p.words.length) = true := decide_eq_true hb1
    simp (maxSteps := 4000000) -implicitDefEqProofs (disch := omega) only [Ns_length, g1, ↓sxPre, sxPost, sxLib, if_true, if_false, Nat.reduceEqDiff, ↓reduceIte, Nat.reduceAdd, Nat.reduceSub, Nat.reduceMul, Nat.reduceLT, Nat.reduceLeDiff, reduceCtorEq, eq_self, K.isEff, List.reduceReplicate]
    refine step_guard rfl (fun h => absurd h (by decide)) (fun _ => ?_)
    simp (maxSteps := 4000000) -implicitDefEqProofs (disch := omega) only [↓sxPre, sxPost, sxLib, if_true, if_false, Nat.reduceEqDiff, ↓reduceIte, Nat.reduceAdd, Nat.reduceSub, Nat.reduceMul, Nat.reduceLT, Nat.reduceLeDiff, reduceCtorEq, eq_self, K.isEff, List.reduceReplicate]
    refine step_tree awake36_sc rfl ?_
    simp (maxSteps := 4000000) -implicitDefEqProofs (disch := omega) only [↓sxPre, sxPost, sxLib, if_true, if_false, Nat.reduceEqDiff, ↓reduceIte, Nat.reduceAdd, Nat.reduceSub, Nat.reduceMul, Nat.reduceLT, Nat.reduceLeDiff, reduceCtorEq, eq_self, K.isEff, List.reduceReplicate]
    refine finK_gc [] ?_
    simp [gcSt, keepOk, finG, resV, resOne, resAll, idx, V.ren, V.renL, Obj.ren, get_cons, get_nil, RTree, RTup, RRow]
  have g1 : decide ((128 : Int) < p.words.length) = false := decide_eq_false hb1
  by_cases hsm : R.Small
  case neg =>
    rw [decide_eq_false hsm] at cSm
    simp (maxSteps := 4000000) -implicitDefEqProofs (disch := omega) only [Ns_length, g1, ↓sxPre, sxPost, sxLib, if_true, if_false, Nat.reduceEqDiff, ↓reduceIte, Nat.reduceAdd, Nat.reduceSub, Nat.reduceMul, Nat.reduceLT, Nat.reduceLeDiff, reduceCtorEq, eq_self, K.isEff, List.reduceReplicate]
    refine step_guard rfl (fun _ => step_tree cSm rfl ?_) (fun h => absurd rfl h)
    simp (maxSteps := 4000000) -implicitDefEqProofs (disch := omega) only [↓sxPre, sxPost, sxLib, if_true, if_false, Nat.reduceEqDiff, ↓reduceIte, Nat.reduceAdd, Nat.reduceSub, Nat.reduceMul, Nat.reduceLT, Nat.reduceLeDiff, reduceCtorEq, eq_self, K.isEff, List.reduceReplicate]
    refine step_tree awake36_sc rfl ?_
    simp (maxSteps := 4000000) -implicitDefEqProofs (disch := omega) only [↓sxPre, sxPost, sxLib, if_true, if_false, Nat.reduceEqDiff, ↓reduceIte, Nat.reduceAdd, Nat.reduceSub, Nat.reduceMul, Nat.reduceLT, Nat.reduceLeDiff, reduceCtorEq, eq_self, K.isEff, List.reduceReplicate]
    refine finK_gc [] ?_
    simp [gcSt, keepOk, finG, resV, resOne, resAll, idx, V.ren, V.renL, Obj.ren, get_cons, get_nil, RTree, RTup, RRow]
  rw [decide_eq_true hsm] at cSm
  have cN := near36_sc R _ hR' hA' hsm 7 ⟨by decide, by decide⟩
  simp (maxSteps := 4000000) -implicitDefEqProofs (disch := omega) only [Ns_length, g1, ↓sxPre, sxPost, sxLib, if_true, if_false, Nat.reduceEqDiff, ↓reduceIte, Nat.reduceAdd, Nat.reduceSub, Nat.reduceMul, Nat.reduceLT, Nat.reduceLeDiff, reduceCtorEq, eq_self, K.isEff, List.reduceReplicate]
  refine step_guard rfl (fun _ => step_tree cSm rfl ?_) (fun h => absurd rfl h)
  have h128 : ((128 : Int)).toNat = 128 := rfl
  obtain ⟨L0, hL0⟩ : ∃ L0, L0 = List.replicate 128 (0 : Int) := ⟨_, rfl⟩
  obtain ⟨O0, hO0⟩ : ∃ O0, O0 = List.replicate 128 ((0, 0) : Int × Int) := ⟨_, rfl⟩
  have hrep : List.replicate (128 : Int).toNat (T.int .i64 0) = Ns L0 := by rw [hL0]; rfl
  have hrepO : List.replicate (128 : Int).toNat (T.agg [.int .i64 0, .int .i64 0]) = Ps O0 := by rw [hO0]; rfl
  have hL0l : L0.length = 128 := by rw [hL0]; simp
  have hO0l : O0.length = 128 := by rw [hO0]; simp
  simp (maxSteps := 4000000) -implicitDefEqProofs (disch := omega) only [↓hrep, h128, putAt_zero, putAt_succ, ↓sxPre, sxPost, sxLib, if_true, if_false, Nat.reduceEqDiff, ↓reduceIte, Nat.reduceAdd, Nat.reduceSub, Nat.reduceMul, Nat.reduceLT, Nat.reduceLeDiff, reduceCtorEq, eq_self, K.isEff, List.reduceReplicate]
  refine ⟨⟨by omega, by omega, by omega, by omega⟩, ?_⟩
  refine wpC_loop_gc [2, 3, 4, 7] [0, 1, 2] (fun m s => ∃ (i : Nat) (l : List Int), m + i = 128 ∧ l.length = 128 ∧ (∀ j (h : j < l.length), j < i → l[j]'h = word) ∧
      s = ⟨[(2, .t (.int .i64 word)), (3, .ref 0 0), (4, .ref 1 0), (7, .t (.int .i64 i))], [.box [.t (.int .i64 p.kind), .t (.int .i64 p.thread), .t (.int .i64 p.addr), .t (.int .i64 p.n), .sl 2 0 128 0 1],
        .box [.t (.int .i64 R.err), .t (.lst s1 t1 (Ns R.words)), .t (.lst s2 t2 xs), .t (.lst s3 t3 (Ps R.out)), .t (.int .i64 q0), .t (.int .i64 q1), .t (.int .i64 q2), .t (.int .i64 q3), .t (.int .i64 q4), .t (.int .i64 q5), .t (.int .i64 q6)], .row 1 0 (Ns l)]⟩) 128
    ⟨by simp [gcSt, keepOk, finG, resV, resOne, resAll, idx, V.ren, V.renL, Obj.ren, get_cons, get_nil, RTree, RTup, RRow], 0, L0, by omega, hL0l, fun j h hj => absurd hj (by omega), by simp [gcSt, keepOk, finG, resV, resOne, resAll, idx, V.ren, V.renL, Obj.ren, get_cons, get_nil, RTree, RTup, RRow]⟩ ?_
  rintro m s ⟨i, l, hm, hl, hlo, rfl⟩
  have hc128 : (((128 : Nat)) : Int) = 128 := rfl
  by_cases hi : i < 128
  · have hi' : decide ((i : Int) < 128) = true := decide_eq_true (by omega)
    have hi2 : (i : Int) < 128 := by omega
    have hil : i < l.length := by omega
    simp (maxSteps := 4000000) -implicitDefEqProofs (disch := omega) only [hc128, hi', hi2, Int.toNat_natCast, kstore_elt, at_Ns hil, elemPut_int, at_zero, Ns_set, Ns_length, hl, ↓sxPre, sxPost, sxLib, if_true, if_false, Nat.reduceEqDiff, ↓reduceIte, Nat.reduceAdd, Nat.reduceSub, Nat.reduceMul, Nat.reduceLT, Nat.reduceLeDiff, reduceCtorEq, eq_self, K.isEff, List.reduceReplicate]
    refine ⟨by omega, hi, m - 1, by omega, by simp [gcSt, keepOk, finG, resV, resOne, resAll, idx, V.ren, V.renL, Obj.ren, get_cons, get_nil, RTree, RTup, RRow], i + 1, l.set i word, by omega, by simp [hl], fun j h hj => ?_, by simp [gcSt, keepOk, finG, resV, resOne, resAll, idx, V.ren, V.renL, Obj.ren, get_cons, get_nil, RTree, RTup, RRow]⟩
    by_cases e : i = j
    · subst e; simp
    · rw [List.getElem_set_ne e]; exact hlo j _ (by omega)
  have hi' : decide ((i : Int) < 128) = false := decide_eq_false (by omega)
  obtain rfl : l = List.replicate 128 word := List.ext_getElem (by rw [hl, List.length_replicate]) fun j h1 h2 => by rw [hlo j h1 (by omega), List.getElem_replicate]
  obtain ⟨W, hW⟩ : ∃ W, W = List.replicate 128 word := ⟨_, rfl⟩
  have hWl : W.length = 128 := by rw [hW]; simp
  rw [← hW]
  simp (maxSteps := 4000000) -implicitDefEqProofs (disch := omega) only [hc128, hi', ↓sxPre, sxPost, sxLib, if_true, if_false, Nat.reduceEqDiff, ↓reduceIte, Nat.reduceAdd, Nat.reduceSub, Nat.reduceMul, Nat.reduceLT, Nat.reduceLeDiff, reduceCtorEq, eq_self, K.isEff, List.reduceReplicate]
  refine step_near7 (R := R) ?_ fun g ys s1 t1 s3 t3 h1 h3 hyl hya => ?_
  · simpa [V.ren, V.renL, idx, Abs.get, ev] using cN
  have hNS : Ns R.stop = [.int .i64 q0, .int .i64 q1, .int .i64 q2, .int .i64 q3, .int .i64 q4, .int .i64 q5, .int .i64 q6] := hNs
  rw [hNS]
  have hmin : (if (128 : Int) < R.words.length then (128 : Int) else R.words.length) = ((min 128 R.words.length : Nat) : Int) := by split <;> omega
  have hml : min 128 R.words.length ≤ R.words.length := by omega
  simp (maxSteps := 4000000) -implicitDefEqProofs (disch := omega) only [↓hrepO, h128, Ns_length, hmin, Int.toNat_natCast, putAt_zero, putAt_succ, ↓sxPre, sxPost, sxLib, if_true, if_false, Nat.reduceEqDiff, ↓reduceIte, Nat.reduceAdd, Nat.reduceSub, Nat.reduceMul, Nat.reduceLT, Nat.reduceLeDiff, reduceCtorEq, eq_self, K.isEff, List.reduceReplicate]
  have hNt : (Ns R.words).take (min 128 R.words.length) = Ns (R.words.take 128) := by
    rw [Ns_take]
    congr 1
    rcases Nat.le_total 128 R.words.length with h | h
    · rw [Nat.min_eq_left h]
    · rw [Nat.min_eq_right h, List.take_of_length_le h, List.take_of_length_le (Nat.le_refl _)]
  have hs' : s1 = 1 ∨ Ns R.words = [] := by
    rcases h1 with h | h
    · exact .inl h
    · right; rw [h]; rfl
  refine ⟨⟨hs', by omega, by omega⟩, ⟨by omega, by omega, by omega, by omega⟩, ?_⟩
  rw [hNt]
  clear hNt
  have hWS : s1 = 1 ∨ R.words.take 128 = [] := by
    rcases h1 with h | h
    · exact .inl h
    · right; rw [h]; rfl
  have hww : I64s (R.words.take 128) := fun x hx => kwords x (List.mem_of_mem_take hx)
  have hwl : (R.words.take 128).length ≤ 128 := by rw [List.length_take]; omega
  refine wpC_loop_gc [2, 3, 4, 8] [0, 1, 2, 3, 4] (fun m s => ∃ (i : Nat) (l : List (Int × Int)), m + i = 128 ∧ l.length = 128 ∧ (∀ j (h : j < l.length), j < i → l[j]'h = (word, word)) ∧
      s = ⟨[(2, .t (.int .i64 word)), (3, .ref 0 0), (4, .ref 1 0), (8, .t (.int .i64 i))], [.box [.t (.int .i64 p.kind), .t (.int .i64 p.thread), .t (.int .i64 p.addr), .t (.int .i64 p.n), .sl 2 0 128 0 1],
        .box [.t (.int .i64 R.err), .t (.lst s1 false (Ns (R.words.take 128))), .sl 3 0 (min R.ths.length 8) g 20, .sl 4 0 128 0 2, .t (.int .i64 q0), .t (.int .i64 q1), .t (.int .i64 q2), .t (.int .i64 q3), .t (.int .i64 q4), .t (.int .i64 q5), .t (.int .i64 q6)], .row 1 0 (Ns W), .row 20 g ys, .row 2 0 (Ps l)]⟩) 128
    ⟨by simp [gcSt, keepOk, finG, resV, resOne, resAll, idx, V.ren, V.renL, Obj.ren, get_cons, get_nil, RTree, RTup, RRow], 0, O0, by omega, hO0l, fun j h hj => absurd hj (by omega), by simp [gcSt, keepOk, finG, resV, resOne, resAll, idx, V.ren, V.renL, Obj.ren, get_cons, get_nil, RTree, RTup, RRow]⟩ ?_
  clear i hm hl hlo hi hi'
  rintro m s ⟨i, l, hm, hl, hlo, rfl⟩
  by_cases hi : i < 128
  · have hi' : decide ((i : Int) < 128) = true := decide_eq_true (by omega)
    have hi2 : (i : Int) < 128 := by omega
    have hil : i < l.length := by omega
    simp (maxSteps := 4000000) -implicitDefEqProofs (disch := omega) only [hc128, hi', hi2, Int.toNat_natCast, kstore_elt, at_Ps hil, elemPut_agg, at_zero, Ps_set, Ps_length, hl, fillV, putAt_zero, putAt_succ, ↓sxPre, sxPost, sxLib, if_true, if_false, Nat.reduceEqDiff, ↓reduceIte, Nat.reduceAdd, Nat.reduceSub, Nat.reduceMul, Nat.reduceLT, Nat.reduceLeDiff, reduceCtorEq, eq_self, K.isEff, List.reduceReplicate]
    refine ⟨by omega, hi, m - 1, by omega, by simp [gcSt, keepOk, finG, resV, resOne, resAll, idx, V.ren, V.renL, Obj.ren, get_cons, get_nil, RTree, RTup, RRow], i + 1, l.set i (word, word), by omega, by simp [hl], fun j h hj => ?_, by simp [gcSt, keepOk, finG, resV, resOne, resAll, idx, V.ren, V.renL, Obj.ren, get_cons, get_nil, RTree, RTup, RRow]⟩
    by_cases e : i = j
    · subst e; simp
    · rw [List.getElem_set_ne e]; exact hlo j _ (by omega)
  have hi' : decide ((i : Int) < 128) = false := decide_eq_false (by omega)
  obtain rfl : l = List.replicate 128 (word, word) := List.ext_getElem (by rw [hl, List.length_replicate]) fun j h1 h2 => by rw [hlo j h1 (by omega), List.getElem_replicate]
  obtain ⟨O, hO⟩ : ∃ O, O = List.replicate 128 (word, word) := ⟨_, rfl⟩
  have hOl : O.length = 128 := by rw [hO]; simp
  rw [← hO]
  have hWI : I64s W := by rw [hW]; intro x hx; rw [List.eq_of_mem_replicate hx]; exact hw
  have hOI : I64s (flatO O) := by
    rw [hO]; intro x hx
    simp only [flatO, List.mem_flatMap] at hx
    obtain ⟨o, ho, hx⟩ := hx
    rw [List.eq_of_mem_replicate ho] at hx
    simp only [List.mem_cons, List.not_mem_nil, or_false, or_self] at hx
    rw [hx]; exact hw
  -- the command
  have hpk : (⟨p.kind, p.thread, p.addr, p.n, W⟩ : Cm).Ok := ⟨hp.1, hp.2.1, hp.2.2.1, hp.2.2.2.1, hWI, by simp only; omega⟩
  have cE := EncodeCommand_sc ⟨p.kind, p.thread, p.addr, p.n, W⟩ (by simp only; omega) hpk 1 false (.inl rfl)
  have hEl : 0 < (Cm.enc ⟨p.kind, p.thread, p.addr, p.n, W⟩).length ∧ (Cm.enc ⟨p.kind, p.thread, p.addr, p.n, W⟩).length ≤ 6000 := by
    have a1 := enI_len (Cm.head_ok hpk) (by simp [Cm.head])
    have a2 := enI_len hpk.2.2.2.2.1 (by simp only; omega)
    have a3 := enI_pos W
    simp only [Cm.head, List.length_cons, List.length_nil] at a1 a2
    simp only [Cm.enc, Cm.head, List.length_append]
    omega
  -- the reply
  obtain ⟨R2, hR2⟩ : ∃ R2 : Rp, R2 = ⟨R.err, R.words.take 128, (R.ths.map Th.cut).take 8, O, R.stop⟩ := ⟨_, rfl⟩
  have hk2 : ∀ q ∈ (R.ths.map Th.cut).take 8, q.Ok ∧ q.args.length ≤ 4 := by
    intro q hq
    obtain ⟨q', hq', rfl⟩ := List.mem_map.1 (List.mem_of_mem_take hq)
    refine ⟨Th.cut_ok (kths q' hq'), by simp only [Th.cut, List.length_take]; omega⟩
  have hok2 : R2.Ok := by
    rw [hR2]
    exact ⟨kerr, hww, by simp only; omega, fun q hq => (hk2 q hq).1, by simp only [List.length_take]; omega, hOI, by simp only; omega, kstop, kslen⟩
  have hfit2 : R2.Fit := by
    rw [hR2]
    exact ⟨hwl, by simp only; omega, by simp only [List.length_take]; omega, fun q hq => (hk2 q hq).2⟩
  have hat2 : R2.At [.int .i64 R.err, .lst s1 false (Ns (R.words.take 128)), .lst 20 false ((ys.drop 0).take (min R.ths.length 8)), .lst 2 false (((Ps O).drop 0).take 128), .int .i64 q0, .int .i64 q1, .int .i64 q2, .int .i64 q3, .int .i64 q4, .int .i64 q5, .int .i64 q6] := by
    have e1 : ((Ps O).drop 0).take 128 = Ps O := by rw [List.drop_zero]; exact List.take_of_length_le (by rw [Ps_length]; omega)
    rw [hR2, e1]
    refine ⟨s1, false, 20, false, 2, false, (ys.drop 0).take (min R.ths.length 8), hWS, .inl rfl, .inl rfl, ?_, fun i h => ?_, by simp only [hNs]⟩
    · simp only [List.length_take, List.length_map, List.drop_zero]; omega
    · simp only [List.length_take, List.length_map] at h
      simp only [List.getElem_take, List.getElem_map, List.drop_zero]
      have e2 : T.at (ys.take (min R.ths.length 8)) i = T.at ys i := by simp only [T.at, List.getD_eq_getElem?_getD, List.getElem?_take]; rw [if_pos (by omega)]
      rw [e2]
      exact hya i (by omega)
  have cR := EncodeReply_sc R2 _ hok2 hat2
  have hRl := Rp.enc_len hok2 hfit2
  have hcR : SCall PP N.message_EncodeReply _ [] (REnc R2.enc) := cR.mono fun r H h => by simpa [REncR, hfit2] using h
  have hWt : (Ns W).take 128 = Ns W := List.take_of_length_le (by rw [Ns_length]; omega)
  have hOt : (Ps O).take 128 = Ps O := List.take_of_length_le (by rw [Ps_length]; omega)
  simp only [Cm.cells] at cE
  generalize Cm.enc ⟨p.kind, p.thread, p.addr, p.n, W⟩ = E1 at *
  generalize R2.enc = E2 at *
  have d1 : decide ((0 : Int) < E1.length) = true := decide_eq_true (by omega)
  have d2 : decide ((E1.length : Int) ≤ 6000) = true := decide_eq_true (by omega)
  have d3 : decide ((0 : Int) < E2.length) = true := decide_eq_true (by omega)
  have d4 : decide ((E2.length : Int) ≤ 6000) = true := decide_eq_true (by omega)
  simp (maxSteps := 4000000) -implicitDefEqProofs (disch := omega) only [hc128, hi', ↓sxPre, sxPost, sxLib, if_true, if_false, Nat.reduceEqDiff, ↓reduceIte, Nat.reduceAdd, Nat.reduceSub, Nat.reduceMul, Nat.reduceLT, Nat.reduceLeDiff, reduceCtorEq, eq_self, K.isEff, List.reduceReplicate]
  refine step_enc (ys := E1) ?_ fun ga => ?_
  · simpa [Abs.view, viewL, rowOf, Abs.get, ev, hWt] using cE
  simp (maxSteps := 4000000) -implicitDefEqProofs (disch := omega) only [B_length, ↓sxPre, sxPost, sxLib, if_true, if_false, Nat.reduceEqDiff, ↓reduceIte, Nat.reduceAdd, Nat.reduceSub, Nat.reduceMul, Nat.reduceLT, Nat.reduceLeDiff, reduceCtorEq, eq_self, K.isEff, List.reduceReplicate]
  refine step_enc (ys := E2) ?_ fun gb => ?_
  · simpa [Abs.view, viewL, rowOf, Abs.get, ev] using hcR
  simp (maxSteps := 4000000) -implicitDefEqProofs (disch := omega) only [B_length, d1, d2, d3, d4, ↓sxPre, sxPost, sxLib, if_true, if_false, Nat.reduceEqDiff, ↓reduceIte, Nat.reduceAdd, Nat.reduceSub, Nat.reduceMul, Nat.reduceLT, Nat.reduceLeDiff, reduceCtorEq, eq_self, K.isEff, List.reduceReplicate]
  refine step_guard rfl (fun _ => step_tree awake36_sc rfl ?_) (fun h => absurd rfl h)
  simp (maxSteps := 4000000) -implicitDefEqProofs (disch := omega) only [↓sxPre, sxPost, sxLib, if_true, if_false, Nat.reduceEqDiff, ↓reduceIte, Nat.reduceAdd, Nat.reduceSub, Nat.reduceMul, Nat.reduceLT, Nat.reduceLeDiff, reduceCtorEq, eq_self, K.isEff, List.reduceReplicate]
  refine finK_gc [] ?_
  simp [gcSt, keepOk, finG, resV, resOne, resAll, idx, V.ren, V.renL, Obj.ren, get_cons, get_nil, RTree, RTup, RRow]

theorem MessageFits_sc {W : World} {ts : List T} {cs : List Value} (h : Cells W [.int .i64, .int .i64, .int .i64, .int .i64, .lst false [.int .i64]] ts cs)
    {ts2 : List T} {cs2 : List Value} (h2 : Cells W rpSh ts2 cs2) (n : Int) (hn : -2 ^ 63 ≤ n ∧ n < 2 ^ 63) :
    SCall PP N.debuggerlaw36_MessageFits [.t (.agg ts), .t (.agg ts2), .t (.int .i64 n)] [] (RTree (.bool true)) := by
  obtain ⟨p, hp, rfl⟩ := Cells.cm h
  obtain ⟨R, hR, rfl⟩ := Cells.rp h2
  exact MessageFits_main p hp R _ hR R.plain n hn
end Go.Proofs.Ytljjabccgbakgaa
