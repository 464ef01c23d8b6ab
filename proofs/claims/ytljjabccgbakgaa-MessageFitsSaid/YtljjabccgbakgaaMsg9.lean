/- Messages: small replies, and near ones. By the session itself. -/
import Derived.Test.YtljjabccgbakgaaMsg8
namespace Go.Proofs.Ytljjabccgbakgaa
open Go Go.Abs
set_option maxRecDepth 100000
set_option maxHeartbeats 4000000
set_option linter.unusedSimpArgs false
set_option linter.unusedVariables false

def Rp.Small (R : Rp) : Prop := R.words.length ≤ 300 ∧ R.ths.length ≤ 20 ∧ R.out.length ≤ 300 ∧ ∀ q ∈ R.ths, q.args.length ≤ 20
instance (R : Rp) : Decidable R.Small := by unfold Rp.Small; exact inferInstance

theorem Th.facts3 {q : Th} (h : q.Ok) (sz : Nat) (t : Bool) (C : List T) (hC : C = q.cells sz t) : C.length = 20 ∧ C.drop 19 = [.lst sz t (Ns q.args)] ∧ T.at C 19 = .lst sz t (Ns q.args) ∧ (∀ x, putAt C 19 [x] = C.take 19 ++ [x]) ∧ ∀ l s2 t2, C.take 19 ++ [.lst s2 t2 (Ns l)] = Th.cells { q with args := l } s2 t2 := by
  obtain ⟨st, fn, pc, r, args⟩ := q
  have hr : r.length = 16 := h.2.2.2.1
  subst hC
  simp only [Th.cells]
  match r, hr with
  | [b0, b1, b2, b3, b4, b5, b6, b7, b8, b9, b10, b11, b12, b13, b14, b15], _ =>
  exact ⟨rfl, rfl, rfl, fun _ => rfl, fun _ _ _ => rfl⟩

theorem small_sc (R : Rp) (cs : List T) (hR : R.Ok) (hA : R.At cs) : SCall PP N.debuggerlaw36_small [.agg (cs.map V.t)] [] (RTree (.bool (decide R.Small))) := by
  refine debuggerlaw36_small.intro (by simp) ?_
  obtain ⟨s1, t1, s2, t2, s3, t3, xs, h1, h2, h3, hx, ha, rfl⟩ := hA
  obtain ⟨kerr, kwords, kwlen, kths, ktlen, kout, kolen, kstop, kslen⟩ := hR
  obtain ⟨q0, q1, q2, q3, q4, q5, q6, hs7⟩ := seven kslen
  have hNs : Ns R.stop = [.int .i64 q0, .int .i64 q1, .int .i64 q2, .int .i64 q3, .int .i64 q4, .int .i64 q5, .int .i64 q6] := by rw [hs7]; rfl
  rw [hNs]
  by_cases hb : ¬ (R.words.length ≤ 300 ∧ R.ths.length ≤ 20 ∧ R.out.length ≤ 300)
  · have hnf : ¬ R.Small := fun h => hb ⟨h.1, h.2.1, h.2.2.1⟩
    cases g1 : decide ((300 : Int) < R.words.length) <;> cases g2 : decide ((20 : Int) < R.ths.length) <;> cases g3 : decide ((300 : Int) < R.out.length)
    all_goals first
      | exfalso
        have g1 := of_decide_eq_false g1
        have g2 := of_decide_eq_false g2
        have g3 := of_decide_eq_false g3
        omega
      | simp (maxSteps := 4000000) -implicitDefEqProofs (disch := omega) only [Ns_length, Ps_length, hx, g1, g2, g3, ↓sxPre, sxPost, sxLib, if_true, if_false, Nat.reduceEqDiff, ↓reduceIte, Nat.reduceAdd, Nat.reduceSub, Nat.reduceMul, Nat.reduceLT, Nat.reduceLeDiff, reduceCtorEq, eq_self, K.isEff, List.reduceReplicate]
        refine finK_gc [] ?_
        simp [hnf, gcSt, keepOk, finG, resV, resOne, resAll, idx, V.ren, V.renL, Obj.ren, get_cons, get_nil, RTree, RTup, RRow]
  obtain ⟨hb1, hb2, hb3⟩ := Classical.not_not.1 hb
  have g1 : decide ((300 : Int) < R.words.length) = false := decide_eq_false (by omega)
  have g2 : decide ((20 : Int) < R.ths.length) = false := decide_eq_false (by omega)
  have g3 : decide ((300 : Int) < R.out.length) = false := decide_eq_false (by omega)
  obtain ⟨Dd, hDd⟩ : ∃ Dd, Dd = decide R.Small := ⟨_, rfl⟩
  rw [← hDd]
  simp (maxSteps := 4000000) -implicitDefEqProofs (disch := omega) only [Ns_length, Ps_length, hx, g1, g2, g3, ↓sxPre, sxPost, sxLib, if_true, if_false, Nat.reduceEqDiff, ↓reduceIte, Nat.reduceAdd, Nat.reduceSub, Nat.reduceMul, Nat.reduceLT, Nat.reduceLeDiff, reduceCtorEq, eq_self, K.isEff, List.reduceReplicate]
  refine wpC_loop_any [1, 3] (fun m s => ∃ (i : Nat), m + i = R.ths.length ∧ (∀ q ∈ R.ths.take i, q.args.length ≤ 20) ∧
      s = ⟨[(1, .ref 0 0), (3, .t (.int .i64 i))], [.box [.t (.int .i64 R.err), .t (.lst s1 t1 (Ns R.words)), .t (.lst s2 t2 xs), .t (.lst s3 t3 (Ps R.out)), .t (.int .i64 q0), .t (.int .i64 q1), .t (.int .i64 q2), .t (.int .i64 q3), .t (.int .i64 q4), .t (.int .i64 q5), .t (.int .i64 q6)]]⟩) R.ths.length
    ⟨[0], by simp [gcSt, keepOk, finG, resV, resOne, resAll, idx, V.ren, V.renL, Obj.ren, get_cons, get_nil, RTree, RTup, RRow], 0, by omega, by simp, by simp [gcSt, keepOk, finG, resV, resOne, resAll, idx, V.ren, V.renL, Obj.ren, get_cons, get_nil, RTree, RTup, RRow]⟩ ?_
  rintro m s ⟨i, hm, hle, rfl⟩
  by_cases hi : i < R.ths.length
  · have hi' : decide ((i : Int) < R.ths.length) = true := decide_eq_true (by omega)
    have hix : (i : Int) < xs.length := by omega
    obtain ⟨sz, t, hsz, hat⟩ := ha i hi
    have hqk := kths _ (List.getElem_mem hi)
    have hs20 : s2 = 20 := h2.resolve_right (by intro e; rw [e] at hi; simp at hi)
    obtain ⟨C, hC⟩ : ∃ C, C = (R.ths[i]'hi).cells sz t := ⟨_, rfl⟩
    obtain ⟨k1, k2, k3, k4, k5⟩ := (R.ths[i]'hi).facts3 hqk sz t C hC
    rw [← hC] at hat
    subst hs20
    by_cases hargs : (R.ths[i]'hi).args.length ≤ 20
    · have ga4 : decide ((20 : Int) < (R.ths[i]'hi).args.length) = false := decide_eq_false (by omega)
      simp (maxSteps := 4000000) -implicitDefEqProofs (disch := omega) only [hi', hix, hx, hat, Int.toNat_natCast, k1, k2, k3, at_zero, Ns_length, ga4, ↓sxPre, sxPost, sxLib, if_true, if_false, Nat.reduceEqDiff, ↓reduceIte, Nat.reduceAdd, Nat.reduceSub, Nat.reduceMul, Nat.reduceLT, Nat.reduceLeDiff, reduceCtorEq, eq_self, K.isEff, List.reduceReplicate]
      refine ⟨by omega, m - 1, by omega, [0], by simp [gcSt, keepOk, finG, resV, resOne, resAll, idx, V.ren, V.renL, Obj.ren, get_cons, get_nil, RTree, RTup, RRow], i + 1, by omega, ?_, by simp [gcSt, keepOk, finG, resV, resOne, resAll, idx, V.ren, V.renL, Obj.ren, get_cons, get_nil, RTree, RTup, RRow]⟩
      intro q hq
      rw [List.take_succ_eq_append_getElem hi, List.mem_append] at hq
      rcases hq with hq | hq
      · exact hle q hq
      · rw [List.mem_singleton.1 hq]; exact hargs
    · have ga4 : decide ((20 : Int) < (R.ths[i]'hi).args.length) = true := decide_eq_true (by omega)
      have hnf : ¬ R.Small := fun h => hargs (h.2.2.2 _ (List.getElem_mem hi))
      rw [decide_eq_false hnf] at hDd
      subst hDd
      simp (maxSteps := 4000000) -implicitDefEqProofs (disch := omega) only [hi', hix, hx, hat, Int.toNat_natCast, k1, k2, k3, at_zero, Ns_length, ga4, ↓sxPre, sxPost, sxLib, if_true, if_false, Nat.reduceEqDiff, ↓reduceIte, Nat.reduceAdd, Nat.reduceSub, Nat.reduceMul, Nat.reduceLT, Nat.reduceLeDiff, reduceCtorEq, eq_self, K.isEff, List.reduceReplicate]
      refine ⟨by omega, finK_gc [] ?_⟩
      simp [gcSt, keepOk, finG, resV, resOne, resAll, idx, V.ren, V.renL, Obj.ren, get_cons, get_nil, RTree, RTup, RRow]
  · have hi' : decide ((i : Int) < R.ths.length) = false := decide_eq_false (by omega)
    obtain rfl : i = R.ths.length := by omega
    rw [List.take_length] at hle
    have hfit : R.Small := ⟨hb1, hb2, hb3, hle⟩
    rw [decide_eq_true hfit] at hDd
    subst hDd
    simp (maxSteps := 4000000) -implicitDefEqProofs (disch := omega) only [hi', hx, ↓sxPre, sxPost, sxLib, if_true, if_false, Nat.reduceEqDiff, ↓reduceIte, Nat.reduceAdd, Nat.reduceSub, Nat.reduceMul, Nat.reduceLT, Nat.reduceLeDiff, reduceCtorEq, eq_self, K.isEff, List.reduceReplicate]
    refine finK_gc [] ?_
    simp [gcSt, keepOk, finG, resV, resOne, resAll, idx, V.ren, V.renL, Obj.ren, get_cons, get_nil, RTree, RTup, RRow]

def Th.cut (q : Th) : Th := { q with args := q.args.take 4 }
theorem elemPut_agg {cs : List T} {off : Nat} {x : T} : elemPut (.agg cs) off x = .agg (putAt cs off x.cells) := (rfl)
theorem Ns_take (l : List Int) (k : Nat) : (Ns l).take k = Ns (l.take k) := by simp [Ns, List.map_take]
theorem at_set {xs : List T} {i : Nat} {x : T} (h : i < xs.length) : T.at (xs.set i x) i = x := by simp [T.at, h]
theorem at_set_ne {xs : List T} {i j : Nat} {x : T} (h : i ≠ j) : T.at (xs.set i x) j = T.at xs j := by simp [T.at, List.getElem?_set_ne h]

/-- The words and the output of a reply that may be encoded, mostly. -/
def NearRest (R : Rp) (which : Int) (w o : V) (F : Heap) : Prop :=
  ∃ s1 t1 s3 t3, (s1 = 1 ∨ R.words = []) ∧ (s3 = 2 ∨ R.out = []) ∧
  ((which % 8 ≠ 0 ∧ which % 8 ≠ 1 ∧ w = .t (.lst s1 t1 (Ns R.words)) ∧ o = .t (.lst s3 t3 (Ps R.out)) ∧ F = []) ∨
   (which % 8 = 0 ∧ ∃ k, k = 128 + (which % 2).toNat ∧ w = .sl 1 0 k 0 1 ∧ o = .t (.lst s3 t3 (Ps R.out)) ∧ F = [.row 1 0 (Ns (List.replicate k 0))]) ∨
   (which % 8 = 1 ∧ ∃ k, k = 128 + (which.tdiv 8 % 2).toNat ∧ w = .t (.lst s1 t1 (Ns R.words)) ∧ o = .sl 1 0 k 0 2 ∧ F = [.row 2 0 (Ps (List.replicate k (0, 0)))]))
/-- A reply that may be encoded, mostly. -/
def RNear (R : Rp) (which : Int) (r : V) (F : Heap) : Prop :=
  ∃ g xs w o F', xs.length = R.ths.length ∧ (∀ i (h : i < R.ths.length), (R.ths[i]'h).cut.At (T.at xs i)) ∧ r = .agg (.t (.int .i64 R.err) :: w :: .sl 0 0 (min R.ths.length 8) g 20 :: o :: (Ns R.stop).map V.t) ∧ F = .row 20 g xs :: F' ∧ NearRest R which w o F'

theorem near36_sc (R : Rp) (cs : List T) (hR : R.Ok) (hA : R.At cs) (hsm : R.Small) (which : Int) (hw : I64 which) : SCall PP N.debuggerlaw36_near [.agg (cs.map V.t), .t (.int .i64 which)] [] (RNear R which) := by
  refine debuggerlaw36_near.intro (by simp) ?_
  obtain ⟨s1, t1, s2, t2, s3, t3, xs, h1, h2, h3, hx, ha, rfl⟩ := hA
  obtain ⟨kerr, kwords, kwlen, kths, ktlen, kout, kolen, kstop, kslen⟩ := hR
  obtain ⟨hb1, hb2, hb3, hb4⟩ := hsm
  obtain ⟨q0, q1, q2, q3, q4, q5, q6, hs7⟩ := seven kslen
  have hNs : Ns R.stop = [.int .i64 q0, .int .i64 q1, .int .i64 q2, .int .i64 q3, .int .i64 q4, .int .i64 q5, .int .i64 q6] := by rw [hs7]; rfl
  have hst := hNs.symm
  rw [hNs]
  have hel : ∀ H, elems H 20 (.t (.lst s2 t2 xs)) = some xs := by
    intro H
    rcases h2 with rfl | e
    · exact elems_lst'
    · rw [e] at hx
      rw [List.length_eq_zero_iff.1 hx]; exact elems_nil
  simp (maxSteps := 4000000) -implicitDefEqProofs (disch := omega) only [keff_buildSlice, toElems_nil, setElems_nil, hel, kappend_nil, putAt_zero, putAt_succ, ↓sxPre, sxPost, sxLib, if_true, if_false, Nat.reduceEqDiff, ↓reduceIte, Nat.reduceAdd, Nat.reduceSub, Nat.reduceMul, Nat.reduceLT, Nat.reduceLeDiff, reduceCtorEq, eq_self, K.isEff, List.reduceReplicate]
  refine ⟨by omega, ?_⟩
  refine wpC_loop_any [1, 2, 4, 5] (fun m s => ∃ (i : Nat) (ys : List T), m + i = R.ths.length ∧ ys.length = R.ths.length ∧ (∀ j (h : j < R.ths.length), j < i → (R.ths[j]'h).cut.At (T.at ys j)) ∧ (∀ j (h : j < R.ths.length), i ≤ j → (R.ths[j]'h).At (T.at ys j)) ∧
      s = ⟨[(1, .t (.int .i64 which)), (2, .ref 0 0), (4, .ref 1 0), (5, .t (.int .i64 i))], [.box [.t (.int .i64 R.err), .t (.lst s1 t1 (Ns R.words)), .sl 2 0 ys.length 0 20, .t (.lst s3 t3 (Ps R.out)), .t (.int .i64 q0), .t (.int .i64 q1), .t (.int .i64 q2), .t (.int .i64 q3), .t (.int .i64 q4), .t (.int .i64 q5), .t (.int .i64 q6)], .box [.t (.int .i64 0), .t (.lst 0 true []), .t (.lst 0 true []), .t (.lst 0 true []), .t (.int .i64 0), .t (.int .i64 0), .t (.int .i64 0), .t (.int .i64 0), .t (.int .i64 0), .t (.int .i64 0), .t (.int .i64 0)], .row 20 0 ys]⟩) R.ths.length
    ⟨[0, 1, 2], by simp [gcSt, keepOk, finG, resV, resOne, resAll, idx, V.ren, V.renL, Obj.ren, get_cons, get_nil, RTree, RTup, RRow], 0, xs, by omega, hx, fun j h hj => absurd hj (by omega), fun j h _ => ha j h, by simp [hx, gcSt, keepOk, finG, resV, resOne, resAll, idx, V.ren, V.renL, Obj.ren, get_cons, get_nil, RTree, RTup, RRow]⟩ ?_
  rintro m s ⟨i, ys, hm, hyl, hlo, hhi, rfl⟩
  by_cases hi : i < R.ths.length
  · have hi' : decide ((i : Int) < R.ths.length) = true := decide_eq_true (by omega)
    have hiy : (i : Int) < R.ths.length := by omega
    obtain ⟨sz, t, hsz, hat⟩ := hhi i hi (Nat.le_refl _)
    have hqk := kths _ (List.getElem_mem hi)
    obtain ⟨C, hC⟩ : ∃ C, C = (R.ths[i]'hi).cells sz t := ⟨_, rfl⟩
    obtain ⟨k1, k2, k3, k4, k5⟩ := (R.ths[i]'hi).facts3 hqk sz t C hC
    rw [← hC] at hat
    have hmin : (if (4 : Int) < (R.ths[i]'hi).args.length then (4 : Int) else (R.ths[i]'hi).args.length) = ((min 4 (R.ths[i]'hi).args.length : Nat) : Int) := by split <;> omega
    have hml : min 4 (R.ths[i]'hi).args.length ≤ (R.ths[i]'hi).args.length := by omega
    simp (maxSteps := 4000000) -implicitDefEqProofs (disch := omega) only [hi', hiy, hyl, hat, Int.toNat_natCast, k1, k2, k3, k4, at_zero, Ns_length, hmin, elemPut_agg, ↓sxPre, sxPost, sxLib, if_true, if_false, Nat.reduceEqDiff, ↓reduceIte, Nat.reduceAdd, Nat.reduceSub, Nat.reduceMul, Nat.reduceLT, Nat.reduceLeDiff, reduceCtorEq, eq_self, K.isEff, List.reduceReplicate]
    have hNt : (Ns (R.ths[i]'hi).args).take (min 4 (R.ths[i]'hi).args.length) = Ns ((R.ths[i]'hi).args.take 4) := by
      rw [Ns_take]
      congr 1
      rcases Nat.le_total 4 (R.ths[i]'hi).args.length with h | h
      · rw [Nat.min_eq_left h]
      · rw [Nat.min_eq_right h, List.take_of_length_le h, List.take_of_length_le (Nat.le_refl _)]
    have hs' : sz = 1 ∨ Ns (R.ths[i]'hi).args = [] := by
      rcases hsz with h | h
      · exact .inl h
      · right; rw [h]; rfl
    have hs'' : sz = 1 ∨ (R.ths[i]'hi).cut.args = [] := by
      rcases hsz with h | h
      · exact .inl h
      · right; simp only [Th.cut]; rw [h]; rfl
    rw [hNt, k5]
    refine ⟨by omega, by omega, ⟨hs', by omega, by omega⟩, by omega, hi, m - 1, by omega, [0, 1, 2], by simp [gcSt, keepOk, finG, resV, resOne, resAll, idx, V.ren, V.renL, Obj.ren, get_cons, get_nil, RTree, RTup, RRow], i + 1, ys.set i (.agg ((R.ths[i]'hi).cut.cells sz false)), by omega, by simp [hyl], fun j h hj => ?_, fun j h hj => ?_, by simp [hyl, Th.cut, gcSt, keepOk, finG, resV, resOne, resAll, idx, V.ren, V.renL, Obj.ren, get_cons, get_nil, RTree, RTup, RRow]⟩
    · by_cases e : i = j
      · subst e
        rw [at_set (by omega)]
        exact ⟨sz, false, hs'', rfl⟩
      · rw [at_set_ne e]; exact hlo j h (by omega)
    · rw [at_set_ne (by omega)]; exact hhi j h (by omega)
  · have hi' : decide ((i : Int) < R.ths.length) = false := decide_eq_false (by omega)
    obtain rfl : i = R.ths.length := by omega
    have hmin : (if (8 : Int) < R.ths.length then (8 : Int) else R.ths.length) = ((min R.ths.length 8 : Nat) : Int) := by split <;> omega
    have hml : min R.ths.length 8 ≤ R.ths.length := by omega
    have hlo' : ∀ j (h : j < R.ths.length), (R.ths[j]'h).cut.At (T.at ys j) := fun j h => hlo j h h
    have m8 : 0 ≤ which % 8 ∧ which % 8 < 8 := by omega
    simp (maxSteps := 4000000) -implicitDefEqProofs (disch := omega) only [hi', hyl, hmin, Int.toNat_natCast, putAt_zero, putAt_succ, ↓sxPre, sxPost, sxLib, if_true, if_false, Nat.reduceEqDiff, ↓reduceIte, Nat.reduceAdd, Nat.reduceSub, Nat.reduceMul, Nat.reduceLT, Nat.reduceLeDiff, reduceCtorEq, eq_self, K.isEff, List.reduceReplicate]
    refine ⟨⟨by omega, by omega⟩, step_tree (Mod_sc which 8 (by decide) (by decide)) rfl ?_⟩
    have hd : -2 ^ 60 ≤ which.tdiv 8 ∧ which.tdiv 8 < 2 ^ 60 := by
      obtain ⟨ha, hb⟩ := hw
      rcases Int.le_total 0 which with h | h
      · rw [Int.tdiv_eq_ediv_of_nonneg h]; omega
      · have e : which.tdiv 8 = -((-which).tdiv 8) := by rw [Int.neg_tdiv]; omega
        rw [e, Int.tdiv_eq_ediv_of_nonneg (by omega)]; omega
    have a1 := andOne hw
    have a2 := andOne (v := which.tdiv 8) (by omega)
    obtain ⟨k1, hk1⟩ : ∃ k1, k1 = 128 + (which % 2).toNat := ⟨_, rfl⟩
    obtain ⟨k2, hk2⟩ : ∃ k2, k2 = 128 + (which.tdiv 8 % 2).toNat := ⟨_, rfl⟩
    have e1 : (128 : Int) + (((which % 2).toNat : Nat) : Int) = (k1 : Int) := by omega
    have e2 : (128 : Int) + (((which.tdiv 8 % 2).toNat : Nat) : Int) = (k2 : Int) := by omega
    have hk1' : k1 ≤ 129 := by omega
    have hk2' : k2 ≤ 129 := by omega
    cases g0 : decide (which % 8 = 0) <;> cases g1 : decide (which % 8 = 1)
    · have g0' := of_decide_eq_false g0
      have g1' := of_decide_eq_false g1
      simp (maxSteps := 4000000) -implicitDefEqProofs (disch := omega) only [g0, g1, putAt_zero, putAt_succ, ↓sxPre, sxPost, sxLib, if_true, if_false, Nat.reduceEqDiff, ↓reduceIte, Nat.reduceAdd, Nat.reduceSub, Nat.reduceMul, Nat.reduceLT, Nat.reduceLeDiff, reduceCtorEq, eq_self, K.isEff, List.reduceReplicate]
      refine finK_gc [2] ⟨by simp [keepOk], ?_⟩
      simp only [resV, resAll, resOne, get_cons, get_nil, kloadN_ref, List.getElem?_cons_zero, List.getElem?_cons_succ, Nat.reduceEqDiff, if_true, if_false, ↓reduceIte]
      refine ⟨by simp, 0, ys, _, _, _, hyl, hlo', ?_, ?_, s1, t1, s3, t3, h1, h3, .inl ⟨g0', g1', rfl, rfl, rfl⟩⟩
      · simp [V.ren, V.renL, idx, hNs]
      · simp [idx, Obj.ren, Ns, Ps]
    · have g1' := of_decide_eq_true g1
      simp (maxSteps := 4000000) -implicitDefEqProofs (disch := omega) only [g0, g1, putAt_zero, putAt_succ, a1, a2, e1, e2, Int.toNat_natCast, ↓sxPre, sxPost, sxLib, if_true, if_false, Nat.reduceEqDiff, ↓reduceIte, Nat.reduceAdd, Nat.reduceSub, Nat.reduceMul, Nat.reduceLT, Nat.reduceLeDiff, reduceCtorEq, eq_self, K.isEff, List.reduceReplicate]
      refine ⟨by decide, ⟨by omega, by omega, by omega, by omega⟩, ?_⟩
      refine finK_gc [2, 3] ⟨by simp [keepOk], ?_⟩
      simp only [resV, resAll, resOne, get_cons, get_nil, kloadN_ref, List.getElem?_cons_zero, List.getElem?_cons_succ, Nat.reduceEqDiff, if_true, if_false, ↓reduceIte]
      refine ⟨by simp, 0, ys, _, .sl 1 0 k2 0 2, _, hyl, hlo', ?_, ?_, s1, t1, s3, t3, h1, h3, .inr (.inr ⟨g1', k2, hk2, rfl, rfl, rfl⟩)⟩
      · simp [V.ren, V.renL, idx, hNs]
      · simp [idx, Obj.ren, Ns, Ps]
    · have g0' := of_decide_eq_true g0
      simp (maxSteps := 4000000) -implicitDefEqProofs (disch := omega) only [g0, g1, putAt_zero, putAt_succ, a1, a2, e1, e2, Int.toNat_natCast, ↓sxPre, sxPost, sxLib, if_true, if_false, Nat.reduceEqDiff, ↓reduceIte, Nat.reduceAdd, Nat.reduceSub, Nat.reduceMul, Nat.reduceLT, Nat.reduceLeDiff, reduceCtorEq, eq_self, K.isEff, List.reduceReplicate]
      refine ⟨⟨by omega, by omega, by omega, by omega⟩, ?_⟩
      refine finK_gc [2, 3] ⟨by simp [keepOk], ?_⟩
      simp only [resV, resAll, resOne, get_cons, get_nil, kloadN_ref, List.getElem?_cons_zero, List.getElem?_cons_succ, Nat.reduceEqDiff, if_true, if_false, ↓reduceIte]
      refine ⟨by simp, 0, ys, .sl 1 0 k1 0 1, _, _, hyl, hlo', ?_, ?_, s1, t1, s3, t3, h1, h3, .inr (.inl ⟨g0', k1, hk1, rfl, rfl, rfl⟩)⟩
      · simp [V.ren, V.renL, idx, hNs]
      · simp [idx, Obj.ren, Ns, Ps]
    · have g0 := of_decide_eq_true g0
      have g1 := of_decide_eq_true g1
      omega
end Go.Proofs.Ytljjabccgbakgaa
