/- Messages: the specification's replies are written. By the session itself. -/
import Derived.Test.YtljjabccgbakgaaMsg15
namespace Go.Proofs.Ytljjabccgbakgaa
open Go Go.Abs
set_option maxRecDepth 100000
set_option maxHeartbeats 4000000
set_option linter.unusedSimpArgs false
set_option linter.unusedVariables false

theorem rthread_sc (p : List Int) (hp : p.length ≤ 2 ^ 30) (t0 : Bool) (q : Th) (hq : q.Ok) (hql : q.args.length ≤ 2 ^ 20) (sz : Nat) (t : Bool) (hsz : sz = 1 ∨ q.args = []) :
    SCall PP N.debuggerref36_thread [.t (.lst 1 t0 (B p)), .agg ((q.cells sz t).map V.t)] [] (RRow 1 (B (p ++ q.enc))) := by
  refine debuggerref36_thread.intro (by simp) ?_
  obtain ⟨C, hC⟩ : ∃ C, C = (q.cells sz t).map V.t := ⟨_, rfl⟩
  obtain ⟨k1, k2, k3, k4, k5, k6, k7⟩ := q.facts hq sz t C hC
  rw [← hC]
  have hh := Th.head_len hq
  have hl1 := enI_len (Th.head_ok hq) (by omega)
  have c1 := rlist_sc p q.head (by omega) (Th.head_ok hq) (by omega) t0 1 false (.inl rfl)
  have c2 := rlist_sc (p ++ enI q.head) q.args (by simp; omega) hq.2.2.2.2.2.1 (by omega) false sz t hsz
  unfold Th.enc
  rw [← List.append_assoc]
  generalize p ++ enI q.head = E1 at *
  generalize E1 ++ enI q.args = E2 at *
  have hr0 : ¬ Ns q.r = [] := by
    intro e
    have : (Ns q.r).length = 0 := by rw [e]; rfl
    rw [Ns_length, hq.2.2.2.1] at this
    omega
  have hr1 : q.r.length = 16 := hq.2.2.2.1
  have hr2 : (Ns q.head).take q.head.length = Ns q.head := List.take_of_length_le (by rw [Ns_length]; omega)
  have hNh : T.int IntKind.i64 q.st :: T.int IntKind.i64 q.fn :: T.int IntKind.i64 q.pc :: Ns q.r = Ns q.head := rfl
  have hl3 : 3 + q.r.length = q.head.length := by omega
  simp (maxSteps := 4000000) -implicitDefEqProofs (disch := omega) only [k1, k2, k3, k4, k5, k6, k7, ksliceA_ref, elems_bsl, Ns_one, Ns_length, ↓sxPre, sxPost, sxLib, if_true, if_false, Nat.reduceEqDiff, ↓reduceIte, Nat.reduceAdd, Nat.reduceSub, Nat.reduceMul, Nat.reduceLT, Nat.reduceLeDiff, reduceCtorEq, eq_self, K.isEff, List.reduceReplicate]
  rw [hNh, hl3]
  refine ⟨⟨hr0, by omega⟩, step_eff (step_row (sz := 1) (ys := B E1) ?_ (B_flat _) fun ga => ?_)⟩
  · simpa [Abs.view, viewL, rowOf, Abs.get, ev, hr2] using c1
  simp (maxSteps := 4000000) -implicitDefEqProofs (disch := omega) only [k1, k2, k3, k4, k5, k6, k7, B_length, ↓sxPre, sxPost, sxLib, if_true, if_false, Nat.reduceEqDiff, ↓reduceIte, Nat.reduceAdd, Nat.reduceSub, Nat.reduceMul, Nat.reduceLT, Nat.reduceLeDiff, reduceCtorEq, eq_self, K.isEff, List.reduceReplicate]
  refine step_eff (step_row (sz := 1) (ys := B E2) ?_ (B_flat _) fun gb => ?_)
  · simpa [Abs.view, viewL, rowOf, Abs.get, ev, B_all] using c2
  simp (maxSteps := 4000000) -implicitDefEqProofs (disch := omega) only [B_length, ↓sxPre, sxPost, sxLib, if_true, if_false, Nat.reduceEqDiff, ↓reduceIte, Nat.reduceAdd, Nat.reduceSub, Nat.reduceMul, Nat.reduceLT, Nat.reduceLeDiff, reduceCtorEq, eq_self, K.isEff, List.reduceReplicate]
  refine finK_gc [3] ?_
  simp [RRow, B_length, gcSt, keepOk, finG, resV, resOne, resAll, idx, V.ren, V.renL, Obj.ren, get_cons, get_nil, RTree, RTup, RRow]

theorem routput_sc (p : List Int) (hp : p.length ≤ 2 ^ 30) (t0 : Bool) (o : List (Int × Int)) (ho : I64s (flatO o)) (hol : o.length ≤ 2 ^ 20) (sz : Nat) (t : Bool) (hsz : sz = 2 ∨ o = []) :
    SCall PP N.debuggerref36_output [.t (.lst 1 t0 (B p)), .t (.lst sz t (Ps o))] [] (RRow 1 (B (p ++ enI (flatO o)))) := by
  refine debuggerref36_output.intro (by simp) ?_
  have cO := rlist_sc p (flatO o) (by omega) ho (by rw [flatO_length]; omega) t0 1 false (.inl rfl)
  have cO0 := fun (h : o = []) => rlist_sc p (flatO o) (by omega) ho (by rw [flatO_length]; omega) t0 0 true (.inr (by rw [h]; rfl))
  generalize p ++ enI (flatO o) = E at *
  simp (maxSteps := 4000000) -implicitDefEqProofs (disch := omega) only [↓sxPre, sxPost, sxLib, if_true, if_false, Nat.reduceEqDiff, ↓reduceIte, Nat.reduceAdd, Nat.reduceSub, Nat.reduceMul, Nat.reduceLT, Nat.reduceLeDiff, reduceCtorEq, eq_self, K.isEff, List.reduceReplicate]
  refine wpC_loop_any [0, 1, 5, 6] (fun m s => ∃ (i : Nat) (x : V) (H : Heap), m + i = o.length ∧
      ((i = 0 ∧ x = .t (.lst 0 true []) ∧ H = []) ∨ ∃ g', x = .sl 0 0 (2 * i) g' 1 ∧ H = [.row 1 g' (Ns (flatO (o.take i)))]) ∧
      s = ⟨[(0, .t (.lst 1 t0 (B p))), (1, .t (.lst sz t (Ps o))), (5, x), (6, .t (.int .i64 i))], H⟩) o.length
    ⟨[], by simp [gcSt, keepOk, finG, resV, resOne, resAll, idx, V.ren, V.renL, Obj.ren, get_cons, get_nil, RTree, RTup, RRow], 0, .t (.lst 0 true []), [], by omega, .inl ⟨rfl, rfl, rfl⟩, by simp [gcSt, keepOk, finG, resV, resOne, resAll, idx, V.ren, V.renL, Obj.ren, get_cons, get_nil, RTree, RTup, RRow]⟩ ?_
  rintro m s ⟨i, x, H, hm, hxH, rfl⟩
  by_cases hi : i < o.length
  · have hi' : decide ((i : Int) < o.length) = true := decide_eq_true (by omega)
    have hio : (i : Int) < o.length := by omega
    have hs2 : sz = 2 := hsz.resolve_right (by intro e; rw [e] at hi; simp at hi)
    subst hs2
    have hft := flatO_take hi
    have hfl := flatO_length (o.take i)
    have hfl2 : (o.take i).length = i := by rw [List.length_take]; omega
    rw [hfl2] at hfl
    rcases hxH with ⟨rfl, rfl, rfl⟩ | ⟨g', rfl, rfl⟩
    · simp (maxSteps := 4000000) -implicitDefEqProofs (disch := omega) only [hi', hio, Ps_length, at_Ps hi, Int.toNat_natCast, at_zero, keff_buildSlice, toElems_cons, toElems_nil, toElem_t, setElems_cons, setElems_nil, ↓sxPre, sxPost, sxLib, if_true, if_false, Nat.reduceEqDiff, ↓reduceIte, Nat.reduceAdd, Nat.reduceSub, Nat.reduceMul, Nat.reduceLT, Nat.reduceLeDiff, reduceCtorEq, eq_self, K.isEff, List.reduceReplicate]
      refine ⟨by omega, by omega, by omega, m - 1, by omega, [0], by simp [gcSt, keepOk, finG, resV, resOne, resAll, idx, V.ren, V.renL, Obj.ren, get_cons, get_nil, RTree, RTup, RRow], 1, _, _, by omega, .inr ⟨0, rfl, rfl⟩, ?_⟩
      rw [hft]
      simp [flatO, Ns, gcSt, keepOk, finG, resV, resOne, resAll, idx, V.ren, V.renL, Obj.ren, get_cons, get_nil, RTree, RTup, RRow]
    · simp (maxSteps := 4000000) -implicitDefEqProofs (disch := omega) only [hi', hio, Ps_length, at_Ps hi, Int.toNat_natCast, at_zero, keff_buildSlice, toElems_cons, toElems_nil, toElem_t, setElems_cons, setElems_nil, Ns_length, hfl, ↓sxPre, sxPost, sxLib, if_true, if_false, Nat.reduceEqDiff, ↓reduceIte, Nat.reduceAdd, Nat.reduceSub, Nat.reduceMul, Nat.reduceLT, Nat.reduceLeDiff, reduceCtorEq, eq_self, K.isEff, List.reduceReplicate]
      refine ⟨by omega, by omega, by omega, m - 1, by omega, [0], by simp [gcSt, keepOk, finG, resV, resOne, resAll, idx, V.ren, V.renL, Obj.ren, get_cons, get_nil, RTree, RTup, RRow], i + 1, _, _, by omega, .inr ⟨g' + 1, rfl, rfl⟩, ?_⟩
      rw [hft, Ns_append]
      simp [Ns, Nat.mul_add, gcSt, keepOk, finG, resV, resOne, resAll, idx, V.ren, V.renL, Obj.ren, get_cons, get_nil, RTree, RTup, RRow]
  · have hi' : decide ((i : Int) < o.length) = false := decide_eq_false (by omega)
    obtain rfl : i = o.length := by omega
    rw [List.take_length] at hxH
    rcases hxH with ⟨h0, rfl, rfl⟩ | ⟨g', rfl, rfl⟩
    · have ho0 : o = [] := List.length_eq_zero_iff.1 h0
      have := cO0 ho0
      rw [ho0] at this
      simp (maxSteps := 4000000) -implicitDefEqProofs (disch := omega) only [hi', Ps_length, ↓sxPre, sxPost, sxLib, if_true, if_false, Nat.reduceEqDiff, ↓reduceIte, Nat.reduceAdd, Nat.reduceSub, Nat.reduceMul, Nat.reduceLT, Nat.reduceLeDiff, reduceCtorEq, eq_self, K.isEff, List.reduceReplicate]
      refine step_row (sz := 1) (ys := B E) ?_ (B_flat _) fun ga => ?_
      · simpa [Abs.view, viewL, rowOf, Abs.get, ev, flatO, Ns] using this
      simp (maxSteps := 4000000) -implicitDefEqProofs (disch := omega) only [B_length, ↓sxPre, sxPost, sxLib, if_true, if_false, Nat.reduceEqDiff, ↓reduceIte, Nat.reduceAdd, Nat.reduceSub, Nat.reduceMul, Nat.reduceLT, Nat.reduceLeDiff, reduceCtorEq, eq_self, K.isEff, List.reduceReplicate]
      refine finK_gc [0] ?_
      simp [RRow, B_length, gcSt, keepOk, finG, resV, resOne, resAll, idx, V.ren, V.renL, Obj.ren, get_cons, get_nil, RTree, RTup, RRow]
    · have hON : (Ns (flatO o)).take (2 * o.length) = Ns (flatO o) := List.take_of_length_le (by rw [Ns_length, flatO_length]; omega)
      simp (maxSteps := 4000000) -implicitDefEqProofs (disch := omega) only [hi', Ps_length, ↓sxPre, sxPost, sxLib, if_true, if_false, Nat.reduceEqDiff, ↓reduceIte, Nat.reduceAdd, Nat.reduceSub, Nat.reduceMul, Nat.reduceLT, Nat.reduceLeDiff, reduceCtorEq, eq_self, K.isEff, List.reduceReplicate]
      refine step_row (sz := 1) (ys := B E) ?_ (B_flat _) fun ga => ?_
      · simpa [Abs.view, viewL, rowOf, Abs.get, ev, hON] using cO
      simp (maxSteps := 4000000) -implicitDefEqProofs (disch := omega) only [B_length, ↓sxPre, sxPost, sxLib, if_true, if_false, Nat.reduceEqDiff, ↓reduceIte, Nat.reduceAdd, Nat.reduceSub, Nat.reduceMul, Nat.reduceLT, Nat.reduceLeDiff, reduceCtorEq, eq_self, K.isEff, List.reduceReplicate]
      refine finK_gc [1] ?_
      simp [RRow, B_length, gcSt, keepOk, finG, resV, resOne, resAll, idx, V.ren, V.renL, Obj.ren, get_cons, get_nil, RTree, RTup, RRow]

theorem rEncodeReply_sc (R : Rp) (cs : List T) (hR : R.Ok) (hA : R.At cs) : SCall PP N.debuggerref36_EncodeReply [.agg (cs.map V.t)] [] (REncR R) := by
  refine debuggerref36_EncodeReply.intro (by simp) ?_
  obtain ⟨s1, t1, s2, t2, s3, t3, xs, h1, h2, h3, hx, ha, rfl⟩ := hA
  obtain ⟨kerr, kwords, kwlen, kths, ktlen, kout, kolen, kstop, kslen⟩ := hR
  obtain ⟨q0, q1, q2, q3, q4, q5, q6, hs7⟩ := seven kslen
  have hNs : Ns R.stop = [.int .i64 q0, .int .i64 q1, .int .i64 q2, .int .i64 q3, .int .i64 q4, .int .i64 q5, .int .i64 q6] := by rw [hs7]; rfl
  have hst := hNs.symm
  rw [hNs]
  have hgz := groups_le10 (zig_lt kerr)
  by_cases hb : ¬ (R.words.length ≤ 128 ∧ R.out.length ≤ 128 ∧ R.ths.length ≤ 8)
  · have hnf : ¬ R.Fit := fun h => hb ⟨h.1, h.2.1, h.2.2.1⟩
    cases g1 : decide ((128 : Int) < R.words.length) <;> cases g2 : decide ((128 : Int) < R.out.length) <;> cases g3 : decide ((8 : Int) < R.ths.length)
    all_goals first
      | exfalso
        have g1 := of_decide_eq_false g1
        have g2 := of_decide_eq_false g2
        have g3 := of_decide_eq_false g3
        omega
      | simp (maxSteps := 4000000) -implicitDefEqProofs (disch := omega) only [Ns_length, Ps_length, hx, g1, g2, g3, ↓sxPre, sxPost, sxLib, if_true, if_false, Nat.reduceEqDiff, ↓reduceIte, Nat.reduceAdd, Nat.reduceSub, Nat.reduceMul, Nat.reduceLT, Nat.reduceLeDiff, reduceCtorEq, eq_self, K.isEff, List.reduceReplicate]
        refine finK_gc [] ?_
        simp [REncR, hnf, gcSt, keepOk, finG, resV, resOne, resAll, idx, V.ren, V.renL, Obj.ren, get_cons, get_nil, RTree, RTup, RRow]
  obtain ⟨hb1, hb2, hb3⟩ := Classical.not_not.1 hb
  have g1 : decide ((128 : Int) < R.words.length) = false := decide_eq_false (by omega)
  have g2 : decide ((128 : Int) < R.out.length) = false := decide_eq_false (by omega)
  have g3 : decide ((8 : Int) < R.ths.length) = false := decide_eq_false (by omega)
  have cI := rAppendInt_sc [] true R.err kerr (by simp)
  rw [List.nil_append] at cI
  have hWl := enI_len kwords (by omega)
  have cW := rlist_sc (groups (zig R.err)) R.words (by omega) kwords (by omega) false s1 t1 h1
  have hE1 : (groups (zig R.err) ++ enI R.words).length = (groups (zig R.err)).length + (enI R.words).length := by simp
  have cU := rAppendUint_sc (groups (zig R.err) ++ enI R.words) false R.ths.length (by omega) (by omega)
  rw [if_neg (by omega), Int.toNat_natCast] at cU
  have g10 := groups_le10 (v := R.ths.length) (by omega)
  have hpre : groups (zig R.err) ++ enI R.words ++ groups R.ths.length = R.pre := rfl
  have hEl : R.pre.length = (groups (zig R.err) ++ enI R.words).length + (groups R.ths.length).length := by rw [← hpre, List.length_append]
  have henc0 : R.enc = R.pre ++ encs R.ths ++ enI (flatO R.out) ++ enI R.stop := rfl
  rw [hpre] at cU
  generalize groups (zig R.err) = Z at *
  generalize Z ++ enI R.words = E1 at *
  generalize R.pre = E0 at *
  simp (maxSteps := 4000000) -implicitDefEqProofs (disch := omega) only [Ns_length, Ps_length, hx, g1, g2, g3, ↓sxPre, sxPost, sxLib, if_true, if_false, Nat.reduceEqDiff, ↓reduceIte, Nat.reduceAdd, Nat.reduceSub, Nat.reduceMul, Nat.reduceLT, Nat.reduceLeDiff, reduceCtorEq, eq_self, K.isEff, List.reduceReplicate]
  refine step_row (sz := 1) (ys := B Z) (nil_at 0 1 rfl cI) (B_flat _) fun ga => ?_
  simp (maxSteps := 4000000) -implicitDefEqProofs (disch := omega) only [Ns_length, Ps_length, hx, B_length, ↓sxPre, sxPost, sxLib, if_true, if_false, Nat.reduceEqDiff, ↓reduceIte, Nat.reduceAdd, Nat.reduceSub, Nat.reduceMul, Nat.reduceLT, Nat.reduceLeDiff, reduceCtorEq, eq_self, K.isEff, List.reduceReplicate]
  refine step_row (sz := 1) (ys := B E1) ?_ (B_flat _) fun gb => ?_
  · simpa [Abs.view, viewL, rowOf, Abs.get, ev, B_all] using cW
  simp (maxSteps := 4000000) -implicitDefEqProofs (disch := omega) only [Ns_length, Ps_length, hx, B_length, ↓sxPre, sxPost, sxLib, if_true, if_false, Nat.reduceEqDiff, ↓reduceIte, Nat.reduceAdd, Nat.reduceSub, Nat.reduceMul, Nat.reduceLT, Nat.reduceLeDiff, reduceCtorEq, eq_self, K.isEff, List.reduceReplicate]
  refine step_row (sz := 1) (ys := B E0) ?_ (B_flat _) fun gc => ?_
  · simpa [Abs.view, viewL, rowOf, Abs.get, ev, B_all] using cU
  simp (maxSteps := 4000000) -implicitDefEqProofs (disch := omega) only [B_length, ↓sxPre, sxPost, sxLib, if_true, if_false, Nat.reduceEqDiff, ↓reduceIte, Nat.reduceAdd, Nat.reduceSub, Nat.reduceMul, Nat.reduceLT, Nat.reduceLeDiff, reduceCtorEq, eq_self, K.isEff, List.reduceReplicate]
  refine wpC_loop_any [1, 4, 5] (fun m s => ∃ (i g : Nat), m + i = R.ths.length ∧ (∀ q ∈ R.ths.take i, q.args.length ≤ 4) ∧
      s = ⟨[(1, .ref 0 0), (4, .sl 1 0 (E0 ++ encs (R.ths.take i)).length g 1), (5, .t (.int .i64 i))], [.box [.t (.int .i64 R.err), .t (.lst s1 t1 (Ns R.words)), .t (.lst s2 t2 xs), .t (.lst s3 t3 (Ps R.out)), .t (.int .i64 q0), .t (.int .i64 q1), .t (.int .i64 q2), .t (.int .i64 q3), .t (.int .i64 q4), .t (.int .i64 q5), .t (.int .i64 q6)], .row 1 g (B (E0 ++ encs (R.ths.take i)))]⟩) R.ths.length
    ⟨[0, 3], by simp [gcSt, keepOk, finG, resV, resOne, resAll, idx, V.ren, V.renL, Obj.ren, get_cons, get_nil, RTree, RTup, RRow], 0, gc, by omega, by simp, by simp [encs, gcSt, keepOk, finG, resV, resOne, resAll, idx, V.ren, V.renL, Obj.ren, get_cons, get_nil, RTree, RTup, RRow]⟩ ?_
  rintro m s ⟨i, g, hm, hle, rfl⟩
  have htk : ∀ q ∈ R.ths.take i, q.Ok := fun q hq => kths q (List.mem_of_mem_take hq)
  have hel := encs_len htk hle
  have hel2 : (R.ths.take i).length ≤ 8 := by rw [List.length_take]; omega
  by_cases hi : i < R.ths.length
  · have hi' : decide ((i : Int) < R.ths.length) = true := decide_eq_true (by omega)
    have hix : (i : Int) < R.ths.length := by omega
    obtain ⟨sz, t, hsz, hat⟩ := ha i hi
    have hqk := kths _ (List.getElem_mem hi)
    have hs20 : s2 = 20 := h2.resolve_right (by intro e; rw [e] at hi; simp at hi)
    obtain ⟨C, hC⟩ : ∃ C, C = (R.ths[i]'hi).cells sz t := ⟨_, rfl⟩
    obtain ⟨k1, k2, k3, k4, k5, k6, k7, k8⟩ := (R.ths[i]'hi).facts2 hqk sz t C hC
    obtain ⟨_, k9, _⟩ := (R.ths[i]'hi).facts3 hqk sz t C hC
    rw [← hC] at hat
    subst hs20
    have hP1 : E0 ++ encs (R.ths.take (i + 1)) = E0 ++ encs (R.ths.take i) ++ (R.ths[i]'hi).enc := by rw [encs_take hi, List.append_assoc]
    have hPl : (E0 ++ encs (R.ths.take i)).length ≤ 2 ^ 20 := by rw [List.length_append]; omega
    by_cases hargs : (R.ths[i]'hi).args.length ≤ 4
    · have ga4 : decide ((4 : Int) < (R.ths[i]'hi).args.length) = false := decide_eq_false (by omega)
      have cT := rthread_sc (E0 ++ encs (R.ths.take i)) (by omega) false (R.ths[i]'hi) hqk (by omega) sz t hsz
      rw [← hC, ← hP1] at cT
      generalize E0 ++ encs (R.ths.take i) = P0 at *
      simp (maxSteps := 4000000) -implicitDefEqProofs (disch := omega) only [hi', hix, hx, hat, Int.toNat_natCast, k1, k2, k3, k4, k5, k6, k7, k8, k9, at_zero, Ns_length, ga4, ↓sxPre, sxPost, sxLib, if_true, if_false, Nat.reduceEqDiff, ↓reduceIte, Nat.reduceAdd, Nat.reduceSub, Nat.reduceMul, Nat.reduceLT, Nat.reduceLeDiff, reduceCtorEq, eq_self, K.isEff, List.reduceReplicate]
      generalize hP2 : E0 ++ encs (R.ths.take (i + 1)) = P2 at *
      have hP2l : P2.length = E0.length + (encs (R.ths.take (i + 1))).length := by rw [← hP2, List.length_append]
      refine ⟨by omega, by omega, step_row (sz := 1) (ys := B P2) ?_ (B_flat _) fun gd => ?_⟩
      · simpa [Abs.view, viewL, viewL_eq, rowOf, Abs.get, ev, B_all, Function.comp_def] using cT
      simp (maxSteps := 4000000) -implicitDefEqProofs (disch := omega) only [B_length, ↓sxPre, sxPost, sxLib, if_true, if_false, Nat.reduceEqDiff, ↓reduceIte, Nat.reduceAdd, Nat.reduceSub, Nat.reduceMul, Nat.reduceLT, Nat.reduceLeDiff, reduceCtorEq, eq_self, K.isEff, List.reduceReplicate]
      refine ⟨m - 1, by omega, [0, 2], by simp [gcSt, keepOk, finG, resV, resOne, resAll, idx, V.ren, V.renL, Obj.ren, get_cons, get_nil, RTree, RTup, RRow], i + 1, gd, by omega, ?_, ?_⟩
      · intro q hq
        rw [List.take_succ_eq_append_getElem hi, List.mem_append] at hq
        rcases hq with hq | hq
        · exact hle q hq
        · rw [List.mem_singleton.1 hq]; exact hargs
      · rw [hP2]
        simp [hP2l, gcSt, keepOk, finG, resV, resOne, resAll, idx, V.ren, V.renL, Obj.ren, get_cons, get_nil, RTree, RTup, RRow]
    · have ga4 : decide ((4 : Int) < (R.ths[i]'hi).args.length) = true := decide_eq_true (by omega)
      have hnf : ¬ R.Fit := fun h => hargs (h.2.2.2 _ (List.getElem_mem hi))
      generalize E0 ++ encs (R.ths.take i) = P0 at *
      simp (maxSteps := 4000000) -implicitDefEqProofs (disch := omega) only [hi', hix, hx, hat, Int.toNat_natCast, k1, k2, k3, k4, k5, k6, k7, k8, k9, at_zero, Ns_length, ga4, ↓sxPre, sxPost, sxLib, if_true, if_false, Nat.reduceEqDiff, ↓reduceIte, Nat.reduceAdd, Nat.reduceSub, Nat.reduceMul, Nat.reduceLT, Nat.reduceLeDiff, reduceCtorEq, eq_self, K.isEff, List.reduceReplicate]
      refine ⟨by omega, finK_gc [] ?_⟩
      simp [REncR, hnf, gcSt, keepOk, finG, resV, resOne, resAll, idx, V.ren, V.renL, Obj.ren, get_cons, get_nil, RTree, RTup, RRow]
  · have hi' : decide ((i : Int) < R.ths.length) = false := decide_eq_false (by omega)
    obtain rfl : i = R.ths.length := by omega
    rw [List.take_length] at hle hel hel2 ⊢
    have hfit : R.Fit := ⟨hb1, hb2, hb3, hle⟩
    have hE2l : (E0 ++ encs R.ths).length ≤ 2 ^ 20 := by rw [List.length_append]; omega
    generalize E0 ++ encs R.ths = E2 at *
    have cO := routput_sc E2 (by omega) false R.out kout (by omega) s3 t3 h3
    have hOl := enI_len kout (by rw [flatO_length]; omega)
    rw [flatO_length] at hOl
    have cS := rlist_sc (E2 ++ enI (flatO R.out)) R.stop (by rw [List.length_append]; omega) kstop (by omega) false 1 true (.inl rfl)
    rw [← henc0] at cS
    generalize E2 ++ enI (flatO R.out) = E3 at *
    simp (maxSteps := 4000000) -implicitDefEqProofs (disch := omega) only [hi', hx, ↓sxPre, sxPost, sxLib, if_true, if_false, Nat.reduceEqDiff, ↓reduceIte, Nat.reduceAdd, Nat.reduceSub, Nat.reduceMul, Nat.reduceLT, Nat.reduceLeDiff, reduceCtorEq, eq_self, K.isEff, List.reduceReplicate]
    refine step_row (sz := 1) (ys := B E3) ?_ (B_flat _) fun gd => ?_
    · simpa [Abs.view, viewL, rowOf, Abs.get, ev, B_all] using cO
    simp (maxSteps := 4000000) -implicitDefEqProofs (disch := omega) only [B_length, putAt_zero, keff_buildSlice, toElems_cons, toElems_nil, toElem_t, setElems_cons, setElems_nil, ↓sxPre, sxPost, sxLib, if_true, if_false, Nat.reduceEqDiff, ↓reduceIte, Nat.reduceAdd, Nat.reduceSub, Nat.reduceMul, Nat.reduceLT, Nat.reduceLeDiff, reduceCtorEq, eq_self, K.isEff, List.reduceReplicate]
    simp only [hst]
    refine step_row (sz := 1) (ys := B R.enc) ?_ (B_flat _) fun ge => ?_
    · simpa [Abs.view, viewL, rowOf, Abs.get, ev, B_all] using cS
    simp (maxSteps := 4000000) -implicitDefEqProofs (disch := omega) only [B_length, ↓sxPre, sxPost, sxLib, if_true, if_false, Nat.reduceEqDiff, ↓reduceIte, Nat.reduceAdd, Nat.reduceSub, Nat.reduceMul, Nat.reduceLT, Nat.reduceLeDiff, reduceCtorEq, eq_self, K.isEff, List.reduceReplicate]
    refine finK_gc [4] ?_
    simp [REncR, REnc, hfit, gcSt, keepOk, finG, resV, resOne, resAll, idx, V.ren, V.renL, Obj.ren, get_cons, get_nil, RTree, RTup, RRow]
end Go.Proofs.Ytljjabccgbakgaa
