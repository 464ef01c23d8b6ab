/- Messages: replies that are compared. By the session itself. -/
import Derived.Test.YtljjabccgbakgaaMsg14
namespace Go.Proofs.Ytljjabccgbakgaa
open Go Go.Abs
set_option maxRecDepth 100000
set_option maxHeartbeats 4000000
set_option linter.unusedSimpArgs false
set_option linter.unusedVariables false

theorem Out_sc (a b : List (Int × Int)) (s1 s2 : Nat) (t1 t2 : Bool) (h1 : s1 = 2 ∨ a = []) (h2 : s2 = 2 ∨ b = []) (ha : I64s (flatO a)) (hb : I64s (flatO b)) (hl : a.length < 2 ^ 62) :
    SCall PP N.debuggerequal_SameOutput [.t (.lst s1 t1 (Ps a)), .t (.lst s2 t2 (Ps b))] [] (RTree (.bool (decide (a = b)))) := by
  refine debuggerequal_SameOutput.intro (by simp) ?_
  simp (maxSteps := 4000000) -implicitDefEqProofs (disch := omega) only [Ps_length, ↓sxPre, sxPost, sxLib, if_true, if_false, Nat.reduceEqDiff, ↓reduceIte, Nat.reduceAdd, Nat.reduceSub, Nat.reduceMul, Nat.reduceLT, Nat.reduceLeDiff, reduceCtorEq, eq_self, K.isEff, List.reduceReplicate]
  refine condV_ndec (fun h => ?_) fun h => ?_
  · refine finK_gc [] ?_
    have : ¬ a = b := by rintro rfl; exact h rfl
    simp [this, gcSt, keepOk, finG, resV, resOne, resAll, idx, V.ren, V.renL, Obj.ren, get_cons, get_nil, RTree, RTup, RRow]
  · have hll : a.length = b.length := by omega
    refine wpC_loop_gc [0, 1, 5] [] (fun m s => ∃ i : Nat, m + i = a.length ∧ a.take i = b.take i ∧ s = ⟨[(0, .t (.lst s1 t1 (Ps a))), (1, .t (.lst s2 t2 (Ps b))), (5, .t (.int .i64 i))], []⟩) a.length
      ⟨by simp [gcSt, keepOk, finG, resV, resOne, resAll, idx, V.ren, V.renL, Obj.ren, get_cons, get_nil, RTree, RTup, RRow], 0, by omega, by simp, by simp [gcSt, keepOk, finG, resV, resOne, resAll, idx, V.ren, V.renL, Obj.ren, get_cons, get_nil, RTree, RTup, RRow]⟩ ?_
    rintro m s ⟨i, hm, heq, rfl⟩
    by_cases hi : i < a.length
    · have hi' : (i : Int) < a.length := by omega
      have hib : i < b.length := by omega
      have hib' : (i : Int) < b.length := by omega
      have k1 : s1 = 2 := h1.resolve_right (by rintro rfl; simp at hi)
      have k2 : s2 = 2 := h2.resolve_right (by rintro rfl; simp at hib)
      subst k1 k2
      have m1 : ∀ x ∈ [(a[i]'hi).1, (a[i]'hi).2], -2 ^ 63 ≤ x ∧ x < 2 ^ 63 := fun x hx => ha x (List.mem_flatMap.2 ⟨_, List.getElem_mem hi, hx⟩)
      have m2 : ∀ x ∈ [(b[i]'hib).1, (b[i]'hib).2], -2 ^ 63 ≤ x ∧ x < 2 ^ 63 := fun x hx => hb x (List.mem_flatMap.2 ⟨_, List.getElem_mem hib, hx⟩)
      have hE : ∀ (H : Heap) (k : V → Heap → Prop), stepK H (.aggEq true [.int .i64, .int .i64]) [.agg [.t (.int .i64 (a[i]'hi).1), .t (.int .i64 (a[i]'hi).2)], .agg [.t (.int .i64 (b[i]'hib).1), .t (.int .i64 (b[i]'hib).2)]] k = k (.t (.bool (!decide (a[i]'hi = b[i]'hib)))) H := by
        intro H k
        have := kaggEq_ints (neg := true) (ss := [.int .i64, .int .i64]) (l := [(a[i]'hi).1, (a[i]'hi).2]) (m := [(b[i]'hib).1, (b[i]'hib).2]) rfl rfl (by simp) m1 m2 (H := H) (k := k)
        have e : decide ([(a[i]'hi).1, (a[i]'hi).2] = [(b[i]'hib).1, (b[i]'hib).2]) = decide (a[i]'hi = b[i]'hib) := by
          simp [Prod.ext_iff]
        rw [e] at this
        exact this
      simp (maxSteps := 4000000) -implicitDefEqProofs (disch := omega) only [Ps_length, hi', hib', Int.toNat_natCast, at_Ps hi, at_Ps hib, hE, ↓sxPre, sxPost, sxLib, if_true, if_false, Nat.reduceEqDiff, ↓reduceIte, Nat.reduceAdd, Nat.reduceSub, Nat.reduceMul, Nat.reduceLT, Nat.reduceLeDiff, reduceCtorEq, eq_self, K.isEff, List.reduceReplicate]
      refine ⟨by omega, by omega, condV_ndec (fun hne => ?_) fun he => ?_⟩
      · refine finK_gc [] ?_
        have : ¬ a = b := by rintro rfl; exact hne rfl
        simp [this, gcSt, keepOk, finG, resV, resOne, resAll, idx, V.ren, V.renL, Obj.ren, get_cons, get_nil, RTree, RTup, RRow]
      · refine ⟨m - 1, by omega, by simp [gcSt, keepOk, finG, resV, resOne, resAll, idx, V.ren, V.renL, Obj.ren, get_cons, get_nil, RTree, RTup, RRow], i + 1, by omega, ?_, by simp [gcSt, keepOk, finG, resV, resOne, resAll, idx, V.ren, V.renL, Obj.ren, get_cons, get_nil, RTree, RTup, RRow]⟩
        rw [List.take_succ_eq_append_getElem hi, List.take_succ_eq_append_getElem hib, heq, he]
    · have hi' : ¬ (i : Int) < a.length := by omega
      simp (maxSteps := 4000000) -implicitDefEqProofs (disch := omega) only [Ps_length, hi', ↓sxPre, sxPost, sxLib, if_true, if_false, Nat.reduceEqDiff, ↓reduceIte, Nat.reduceAdd, Nat.reduceSub, Nat.reduceMul, Nat.reduceLT, Nat.reduceLeDiff, reduceCtorEq, eq_self, K.isEff, List.reduceReplicate]
      refine finK_gc [] ?_
      rw [List.take_of_length_le (by omega), List.take_of_length_le (by omega)] at heq
      simp [heq, gcSt, keepOk, finG, resV, resOne, resAll, idx, V.ren, V.renL, Obj.ren, get_cons, get_nil, RTree, RTup, RRow]

theorem Th.facts4 {q : Th} (h : q.Ok) (sz : Nat) (t : Bool) (C : List T) (hC : C = q.cells sz t) :
    C.length = 20 ∧ T.at C 0 = .int .i64 q.st ∧ C.drop 18 = [.int .i64 q.fn, .lst sz t (Ns q.args)] ∧ (C.drop 1).take 17 = Ns (q.r ++ [q.pc]) ∧ C.drop 19 = [.lst sz t (Ns q.args)] ∧ I64s (q.r ++ [q.pc]) ∧ (q.r ++ [q.pc]).length = 17 := by
  obtain ⟨st, fn, pc, r, args⟩ := q
  have hr : r.length = 16 := h.2.2.2.1
  have hpc : I64 pc := h.2.2.1
  have hri : I64s r := h.2.2.2.2.1
  subst hC
  simp only [Th.cells]
  refine ⟨by simp [Ns, hr], rfl, ?_, ?_, ?_, ?_, by simp [hr]⟩
  · match r, hr with
    | [b0, b1, b2, b3, b4, b5, b6, b7, b8, b9, b10, b11, b12, b13, b14, b15], _ => rfl
  · match r, hr with
    | [b0, b1, b2, b3, b4, b5, b6, b7, b8, b9, b10, b11, b12, b13, b14, b15], _ => rfl
  · match r, hr with
    | [b0, b1, b2, b3, b4, b5, b6, b7, b8, b9, b10, b11, b12, b13, b14, b15], _ => rfl
  · intro x hx
    rcases List.mem_append.1 hx with hx | hx
    · exact hri x hx
    · rw [List.mem_singleton.1 hx]; exact hpc

theorem Ths_sc (a b : List Th) (s1 s2 : Nat) (t1 t2 : Bool) (xs ys : List T) (h1 : s1 = 20 ∨ a = []) (h2 : s2 = 20 ∨ b = []) (hxl : xs.length = a.length) (hyl : ys.length = b.length)
    (hxa : ∀ i (h : i < a.length), (a[i]'h).At (T.at xs i)) (hyb : ∀ i (h : i < b.length), (b[i]'h).At (T.at ys i)) (ha : ∀ q ∈ a, q.Ok ∧ q.args.length < 2 ^ 62) (hb : ∀ q ∈ b, q.Ok) (hl : a.length < 2 ^ 62) :
    SCall PP N.debuggerequal_SameThreads [.t (.lst s1 t1 xs), .t (.lst s2 t2 ys)] [] (RTree (.bool (decide (a = b)))) := by
  refine debuggerequal_SameThreads.intro (by simp) ?_
  simp (maxSteps := 4000000) -implicitDefEqProofs (disch := omega) only [hxl, hyl, ↓sxPre, sxPost, sxLib, if_true, if_false, Nat.reduceEqDiff, ↓reduceIte, Nat.reduceAdd, Nat.reduceSub, Nat.reduceMul, Nat.reduceLT, Nat.reduceLeDiff, reduceCtorEq, eq_self, K.isEff, List.reduceReplicate]
  refine condV_ndec (fun h => ?_) fun h => ?_
  · refine finK_gc [] ?_
    have : ¬ a = b := by rintro rfl; exact h rfl
    simp [this, gcSt, keepOk, finG, resV, resOne, resAll, idx, V.ren, V.renL, Obj.ren, get_cons, get_nil, RTree, RTup, RRow]
  · have hll : a.length = b.length := by omega
    refine wpC_loop_gc [0, 1, 5] [] (fun m s => ∃ i : Nat, m + i = a.length ∧ a.take i = b.take i ∧ s = ⟨[(0, .t (.lst s1 t1 xs)), (1, .t (.lst s2 t2 ys)), (5, .t (.int .i64 i))], []⟩) a.length
      ⟨by simp [gcSt, keepOk, finG, resV, resOne, resAll, idx, V.ren, V.renL, Obj.ren, get_cons, get_nil, RTree, RTup, RRow], 0, by omega, by simp, by simp [gcSt, keepOk, finG, resV, resOne, resAll, idx, V.ren, V.renL, Obj.ren, get_cons, get_nil, RTree, RTup, RRow]⟩ ?_
    rintro m s ⟨i, hm, heq, rfl⟩
    by_cases hi : i < a.length
    · have hi' : (i : Int) < a.length := by omega
      have hib : i < b.length := by omega
      have hib' : (i : Int) < b.length := by omega
      have d1 : decide ((i : Int) < a.length) = true := decide_eq_true hi'
      have k1 : s1 = 20 := h1.resolve_right (by rintro rfl; simp at hi)
      have k2 : s2 = 20 := h2.resolve_right (by rintro rfl; simp at hib)
      subst k1 k2
      obtain ⟨sz1, tt1, hz1, hat1⟩ := hxa i hi
      obtain ⟨sz2, tt2, hz2, hat2⟩ := hyb i hib
      have ok1 := ha _ (List.getElem_mem hi)
      have ok2 := hb _ (List.getElem_mem hib)
      have hne : a[i]'hi ≠ b[i]'hib → ¬ a = b := by intro h e; subst e; exact h rfl
      have heq' : a[i]'hi = b[i]'hib → a.take (i + 1) = b.take (i + 1) := by
        intro e; rw [List.take_succ_eq_append_getElem hi, List.take_succ_eq_append_getElem hib, heq, e]
      generalize a[i]'hi = q1 at *
      generalize b[i]'hib = q2 at *
      obtain ⟨f1, f2, f3, f4, f5, f6, f7⟩ := q1.facts4 ok1.1 sz1 tt1 _ rfl
      obtain ⟨e1, e2, e3, e4, e5, e6, e7⟩ := q2.facts4 ok2 sz2 tt2 _ rfl
      have cI := Ints_sc q1.args q2.args sz1 sz2 tt1 tt2 hz1 hz2 ok1.2
      have hE : ∀ (H : Heap) (k : V → Heap → Prop), stepK H (.aggEq true [.int .i64, .int .i64, .int .i64, .int .i64, .int .i64, .int .i64, .int .i64, .int .i64, .int .i64, .int .i64, .int .i64, .int .i64, .int .i64, .int .i64, .int .i64, .int .i64, .int .i64]) [.agg ((Ns (q1.r ++ [q1.pc])).map V.t), .agg ((Ns (q2.r ++ [q2.pc])).map V.t)] k = k (.t (.bool (!decide (q1.r ++ [q1.pc] = q2.r ++ [q2.pc])))) H := by
        intro H k
        exact kaggEq_ints (neg := true) (by rw [f7]; rfl) (by rw [e7]; rfl) (by simp) f6 e6
      have hqe : q1.st = q2.st ∧ q1.fn = q2.fn ∧ q1.r ++ [q1.pc] = q2.r ++ [q2.pc] ∧ q1.args = q2.args → q1 = q2 := by
        rintro ⟨g1, g2, g3, g4⟩
        obtain ⟨a1, a2, a3, a4, a5⟩ := q1
        obtain ⟨b1, b2, b3, b4, b5⟩ := q2
        have := List.append_inj' g3 rfl
        simp at g1 g2 g4 this
        simp [g1, g2, g4, this]
      generalize q1.cells sz1 tt1 = C1 at *
      generalize q2.cells sz2 tt2 = C2 at *
      have hd1 : 17 ≤ (C1.drop 1).length := by rw [List.length_drop, f1]; omega
      have hd2 : 17 ≤ (C2.drop 1).length := by rw [List.length_drop, e1]; omega
      by_cases g : q1.st = q2.st ∧ q1.fn = q2.fn ∧ q1.r ++ [q1.pc] = q2.r ++ [q2.pc]
      · obtain ⟨g1, g2, g3⟩ := g
        have d2 : decide (q1.st = q2.st) = true := decide_eq_true g1
        have d3 : decide (q1.fn = q2.fn) = true := decide_eq_true g2
        have d4 : decide (q1.r ++ [q1.pc] = q2.r ++ [q2.pc]) = true := decide_eq_true g3
        simp (maxSteps := 4000000) -implicitDefEqProofs (disch := omega) only [hxl, hyl, d1, Int.toNat_natCast, hat1, hat2, f1, f2, f3, f4, f5, e1, e2, e3, e4, e5, at_zero, d2, d3, d4, hE, ↓sxPre, sxPost, sxLib, if_true, if_false, Nat.reduceEqDiff, ↓reduceIte, Nat.reduceAdd, Nat.reduceSub, Nat.reduceMul, Nat.reduceLT, Nat.reduceLeDiff, reduceCtorEq, eq_self, K.isEff, List.reduceReplicate]
        refine ⟨⟨by omega, by omega⟩, ⟨by omega, by omega⟩, ⟨by omega, by omega⟩, ⟨by omega, by omega⟩, ⟨by omega, by omega⟩, hd1, ⟨by omega, by omega⟩, hd2, ⟨by omega, by omega⟩, ⟨by omega, by omega⟩, ?_⟩
        refine step_eff (step_guard rfl (fun _ => step_tree cI rfl ?_) (fun h => absurd rfl h))
        by_cases ga : q1.args = q2.args
        · have d5 : decide (q1.args = q2.args) = true := decide_eq_true ga
          have hq : q1 = q2 := hqe ⟨g1, g2, g3, ga⟩
          rw [d5]
          simp (maxSteps := 4000000) -implicitDefEqProofs (disch := omega) only [↓sxPre, sxPost, sxLib, if_true, if_false, Nat.reduceEqDiff, ↓reduceIte, Nat.reduceAdd, Nat.reduceSub, Nat.reduceMul, Nat.reduceLT, Nat.reduceLeDiff, reduceCtorEq, eq_self, K.isEff, List.reduceReplicate]
          exact ⟨m - 1, by omega, by simp [gcSt, keepOk, finG, resV, resOne, resAll, idx, V.ren, V.renL, Obj.ren, get_cons, get_nil, RTree, RTup, RRow], i + 1, by omega, heq' hq, by simp [gcSt, keepOk, finG, resV, resOne, resAll, idx, V.ren, V.renL, Obj.ren, get_cons, get_nil, RTree, RTup, RRow]⟩
        · have d5 : decide (q1.args = q2.args) = false := decide_eq_false ga
          have hq : ¬ a = b := hne (by rintro rfl; exact ga rfl)
          rw [d5]
          simp (maxSteps := 4000000) -implicitDefEqProofs (disch := omega) only [↓sxPre, sxPost, sxLib, if_true, if_false, Nat.reduceEqDiff, ↓reduceIte, Nat.reduceAdd, Nat.reduceSub, Nat.reduceMul, Nat.reduceLT, Nat.reduceLeDiff, reduceCtorEq, eq_self, K.isEff, List.reduceReplicate]
          refine finK_gc [] ?_
          simp [hq, gcSt, keepOk, finG, resV, resOne, resAll, idx, V.ren, V.renL, Obj.ren, get_cons, get_nil, RTree, RTup, RRow]
      · have hq : ¬ a = b := hne (by rintro rfl; exact g ⟨rfl, rfl, rfl⟩)
        clear heq' hne hqe
        cases d2 : decide (q1.st = q2.st) with
        | false =>
          simp (maxSteps := 4000000) -implicitDefEqProofs (disch := omega) only [hxl, hyl, d1, Int.toNat_natCast, hat1, hat2, f1, f2, f3, f4, f5, e1, e2, e3, e4, e5, at_zero, d2, hE, ↓sxPre, sxPost, sxLib, if_true, if_false, Nat.reduceEqDiff, ↓reduceIte, Nat.reduceAdd, Nat.reduceSub, Nat.reduceMul, Nat.reduceLT, Nat.reduceLeDiff, reduceCtorEq, eq_self, K.isEff, List.reduceReplicate]
          refine ⟨⟨by omega, by omega⟩, ⟨by omega, by omega⟩, step_eff (step_guard rfl (fun h => absurd h (by decide)) (fun _ => ?_))⟩
          simp (maxSteps := 4000000) -implicitDefEqProofs (disch := omega) only [↓sxPre, sxPost, sxLib, if_true, if_false, Nat.reduceEqDiff, ↓reduceIte, Nat.reduceAdd, Nat.reduceSub, Nat.reduceMul, Nat.reduceLT, Nat.reduceLeDiff, reduceCtorEq, eq_self, K.isEff, List.reduceReplicate]
          refine finK_gc [] ?_
          simp [hq, gcSt, keepOk, finG, resV, resOne, resAll, idx, V.ren, V.renL, Obj.ren, get_cons, get_nil, RTree, RTup, RRow]
        | true =>
          cases d3 : decide (q1.fn = q2.fn) with
          | false =>
            simp (maxSteps := 4000000) -implicitDefEqProofs (disch := omega) only [hxl, hyl, d1, Int.toNat_natCast, hat1, hat2, f1, f2, f3, f4, f5, e1, e2, e3, e4, e5, at_zero, d2, d3, hE, ↓sxPre, sxPost, sxLib, if_true, if_false, Nat.reduceEqDiff, ↓reduceIte, Nat.reduceAdd, Nat.reduceSub, Nat.reduceMul, Nat.reduceLT, Nat.reduceLeDiff, reduceCtorEq, eq_self, K.isEff, List.reduceReplicate]
            refine ⟨⟨by omega, by omega⟩, ⟨by omega, by omega⟩, ⟨by omega, by omega⟩, ⟨by omega, by omega⟩, step_eff (step_guard rfl (fun h => absurd h (by decide)) (fun _ => ?_))⟩
            simp (maxSteps := 4000000) -implicitDefEqProofs (disch := omega) only [↓sxPre, sxPost, sxLib, if_true, if_false, Nat.reduceEqDiff, ↓reduceIte, Nat.reduceAdd, Nat.reduceSub, Nat.reduceMul, Nat.reduceLT, Nat.reduceLeDiff, reduceCtorEq, eq_self, K.isEff, List.reduceReplicate]
            refine finK_gc [] ?_
            simp [hq, gcSt, keepOk, finG, resV, resOne, resAll, idx, V.ren, V.renL, Obj.ren, get_cons, get_nil, RTree, RTup, RRow]
          | true =>
            have d4 : decide (q1.r ++ [q1.pc] = q2.r ++ [q2.pc]) = false := decide_eq_false fun h => g ⟨of_decide_eq_true d2, of_decide_eq_true d3, h⟩
            simp (maxSteps := 4000000) -implicitDefEqProofs (disch := omega) only [hxl, hyl, d1, Int.toNat_natCast, hat1, hat2, f1, f2, f3, f4, f5, e1, e2, e3, e4, e5, at_zero, d2, d3, d4, hE, ↓sxPre, sxPost, sxLib, if_true, if_false, Nat.reduceEqDiff, ↓reduceIte, Nat.reduceAdd, Nat.reduceSub, Nat.reduceMul, Nat.reduceLT, Nat.reduceLeDiff, reduceCtorEq, eq_self, K.isEff, List.reduceReplicate]
            refine ⟨⟨by omega, by omega⟩, ⟨by omega, by omega⟩, ⟨by omega, by omega⟩, ⟨by omega, by omega⟩, ⟨by omega, by omega⟩, hd1, ⟨by omega, by omega⟩, hd2, step_eff (step_guard rfl (fun h => absurd h (by decide)) (fun _ => ?_))⟩
            simp (maxSteps := 4000000) -implicitDefEqProofs (disch := omega) only [↓sxPre, sxPost, sxLib, if_true, if_false, Nat.reduceEqDiff, ↓reduceIte, Nat.reduceAdd, Nat.reduceSub, Nat.reduceMul, Nat.reduceLT, Nat.reduceLeDiff, reduceCtorEq, eq_self, K.isEff, List.reduceReplicate]
            refine finK_gc [] ?_
            simp [hq, gcSt, keepOk, finG, resV, resOne, resAll, idx, V.ren, V.renL, Obj.ren, get_cons, get_nil, RTree, RTup, RRow]
    · have hi' : ¬ (i : Int) < a.length := by omega
      simp (maxSteps := 4000000) -implicitDefEqProofs (disch := omega) only [hxl, hi', ↓sxPre, sxPost, sxLib, if_true, if_false, Nat.reduceEqDiff, ↓reduceIte, Nat.reduceAdd, Nat.reduceSub, Nat.reduceMul, Nat.reduceLT, Nat.reduceLeDiff, reduceCtorEq, eq_self, K.isEff, List.reduceReplicate]
      refine finK_gc [] ?_
      rw [List.take_of_length_le (by omega), List.take_of_length_le (by omega)] at heq
      simp [heq, gcSt, keepOk, finG, resV, resOne, resAll, idx, V.ren, V.renL, Obj.ren, get_cons, get_nil, RTree, RTup, RRow]

/-- Two replies that are compared. -/
theorem SameReply_sc (R R' : Rp) (cs cs' : List T) (hA : R.At cs) (hA' : R'.At cs') (hR : R.Ok) (hR' : R'.Ok) (hw : R.words.length < 2 ^ 62) (ht : R.ths.length < 2 ^ 62) (hta : ∀ q ∈ R.ths, q.args.length < 2 ^ 62) (ho : R.out.length < 2 ^ 62) :
    SCall PP N.debuggerequal_SameReply [.agg (cs.map V.t), .agg (cs'.map V.t)] [] (RTree (.bool (decide (R = R')))) := by
  refine debuggerequal_SameReply.intro (by simp) ?_
  obtain ⟨s1, t1, s2, t2, s3, t3, xs, h1, h2, h3, hx, ha, rfl⟩ := hA
  obtain ⟨s1', t1', s2', t2', s3', t3', xs', h1', h2', h3', hx', ha', rfl⟩ := hA'
  obtain ⟨err, words, ths, out, stop⟩ := R
  obtain ⟨err', words', ths', out', stop'⟩ := R'
  simp only at h1 h2 h3 hx h1' h2' h3' hx' hw ht hta ho ⊢
  obtain ⟨q0, q1, q2, q3, q4, q5, q6, rfl⟩ := seven hR.slen
  obtain ⟨p0, p1, p2, p3, p4, p5, p6, rfl⟩ := seven hR'.slen
  have c1 := Ints_sc words words' s1 s1' t1 t1' h1 h1' hw
  have c2 := Ths_sc ths ths' s2 s2' t2 t2' xs xs' h2 h2' hx hx' ha ha' (fun q hq => ⟨hR.ths q hq, hta q hq⟩) hR'.ths ht
  have c3 := Out_sc out out' s3 s3' t3 t3' h3 h3' hR.out hR'.out ho
  have hE : ∀ (H : Heap) (k : V → Heap → Prop), stepK H (.aggEq false [.int .i64, .int .i64, .int .i64, .int .i64, .int .i64, .int .i64, .int .i64]) [.agg [.t (.int .i64 q0), .t (.int .i64 q1), .t (.int .i64 q2), .t (.int .i64 q3), .t (.int .i64 q4), .t (.int .i64 q5), .t (.int .i64 q6)], .agg [.t (.int .i64 p0), .t (.int .i64 p1), .t (.int .i64 p2), .t (.int .i64 p3), .t (.int .i64 p4), .t (.int .i64 p5), .t (.int .i64 p6)]] k =
      k (.t (.bool (decide ([q0, q1, q2, q3, q4, q5, q6] = [p0, p1, p2, p3, p4, p5, p6])))) H := by
    intro H k
    exact kaggEq_ints (neg := false) (l := [q0, q1, q2, q3, q4, q5, q6]) (m := [p0, p1, p2, p3, p4, p5, p6]) rfl rfl (by simp) hR.stop hR'.stop
  obtain ⟨D, hD⟩ : ∃ D, D = decide ((⟨err, words, ths, out, [q0, q1, q2, q3, q4, q5, q6]⟩ : Rp) = ⟨err', words', ths', out', [p0, p1, p2, p3, p4, p5, p6]⟩) := ⟨_, rfl⟩
  rw [← hD]
  have hNs : ∀ a b c d e f g : Int, Ns [a, b, c, d, e, f, g] = [.int .i64 a, .int .i64 b, .int .i64 c, .int .i64 d, .int .i64 e, .int .i64 f, .int .i64 g] := fun _ _ _ _ _ _ _ => rfl
  simp only [hNs]
  cases g1 : decide (err = err')
  · have g1' := of_decide_eq_false g1
    obtain rfl : D = false := by rw [hD]; exact decide_eq_false fun h => by injection h with a1 a2 a3 a4 a5; exact g1' a1
    simp (maxSteps := 4000000) -implicitDefEqProofs (disch := omega) only [g1, ↓sxPre, sxPost, sxLib, if_true, if_false, Nat.reduceEqDiff, ↓reduceIte, Nat.reduceAdd, Nat.reduceSub, Nat.reduceMul, Nat.reduceLT, Nat.reduceLeDiff, reduceCtorEq, eq_self, K.isEff, List.reduceReplicate]
    refine step_guard rfl (fun h => absurd h (by decide)) (fun _ => ?_)
    simp (maxSteps := 4000000) -implicitDefEqProofs (disch := omega) only [↓sxPre, sxPost, sxLib, if_true, if_false, Nat.reduceEqDiff, ↓reduceIte, Nat.reduceAdd, Nat.reduceSub, Nat.reduceMul, Nat.reduceLT, Nat.reduceLeDiff, reduceCtorEq, eq_self, K.isEff, List.reduceReplicate]
    refine step_guard rfl (fun h => absurd h (by decide)) (fun _ => ?_)
    simp (maxSteps := 4000000) -implicitDefEqProofs (disch := omega) only [↓sxPre, sxPost, sxLib, if_true, if_false, Nat.reduceEqDiff, ↓reduceIte, Nat.reduceAdd, Nat.reduceSub, Nat.reduceMul, Nat.reduceLT, Nat.reduceLeDiff, reduceCtorEq, eq_self, K.isEff, List.reduceReplicate]
    refine step_guard rfl (fun h => absurd h (by decide)) (fun _ => ?_)
    simp (maxSteps := 4000000) -implicitDefEqProofs (disch := omega) only [↓sxPre, sxPost, sxLib, if_true, if_false, Nat.reduceEqDiff, ↓reduceIte, Nat.reduceAdd, Nat.reduceSub, Nat.reduceMul, Nat.reduceLT, Nat.reduceLeDiff, reduceCtorEq, eq_self, K.isEff, List.reduceReplicate]
    refine finK_gc [] ?_
    simp [gcSt, keepOk, finG, resV, resOne, resAll, idx, V.ren, V.renL, Obj.ren, get_cons, get_nil, RTree, RTup, RRow]
  have g1' := of_decide_eq_true g1
  cases g2 : decide ([q0, q1, q2, q3, q4, q5, q6] = [p0, p1, p2, p3, p4, p5, p6])
  · have g2' := of_decide_eq_false g2
    obtain rfl : D = false := by rw [hD]; exact decide_eq_false fun h => by injection h with a1 a2 a3 a4 a5; exact g2' a5
    simp (maxSteps := 4000000) -implicitDefEqProofs (disch := omega) only [g1, hE, g2, ↓sxPre, sxPost, sxLib, if_true, if_false, Nat.reduceEqDiff, ↓reduceIte, Nat.reduceAdd, Nat.reduceSub, Nat.reduceMul, Nat.reduceLT, Nat.reduceLeDiff, reduceCtorEq, eq_self, K.isEff, List.reduceReplicate]
    refine step_guard rfl (fun h => absurd h (by decide)) (fun _ => ?_)
    simp (maxSteps := 4000000) -implicitDefEqProofs (disch := omega) only [↓sxPre, sxPost, sxLib, if_true, if_false, Nat.reduceEqDiff, ↓reduceIte, Nat.reduceAdd, Nat.reduceSub, Nat.reduceMul, Nat.reduceLT, Nat.reduceLeDiff, reduceCtorEq, eq_self, K.isEff, List.reduceReplicate]
    refine step_guard rfl (fun h => absurd h (by decide)) (fun _ => ?_)
    simp (maxSteps := 4000000) -implicitDefEqProofs (disch := omega) only [↓sxPre, sxPost, sxLib, if_true, if_false, Nat.reduceEqDiff, ↓reduceIte, Nat.reduceAdd, Nat.reduceSub, Nat.reduceMul, Nat.reduceLT, Nat.reduceLeDiff, reduceCtorEq, eq_self, K.isEff, List.reduceReplicate]
    refine step_guard rfl (fun h => absurd h (by decide)) (fun _ => ?_)
    simp (maxSteps := 4000000) -implicitDefEqProofs (disch := omega) only [↓sxPre, sxPost, sxLib, if_true, if_false, Nat.reduceEqDiff, ↓reduceIte, Nat.reduceAdd, Nat.reduceSub, Nat.reduceMul, Nat.reduceLT, Nat.reduceLeDiff, reduceCtorEq, eq_self, K.isEff, List.reduceReplicate]
    refine finK_gc [] ?_
    simp [gcSt, keepOk, finG, resV, resOne, resAll, idx, V.ren, V.renL, Obj.ren, get_cons, get_nil, RTree, RTup, RRow]
  have g2' := of_decide_eq_true g2
  simp (maxSteps := 4000000) -implicitDefEqProofs (disch := omega) only [g1, hE, g2, ↓sxPre, sxPost, sxLib, if_true, if_false, Nat.reduceEqDiff, ↓reduceIte, Nat.reduceAdd, Nat.reduceSub, Nat.reduceMul, Nat.reduceLT, Nat.reduceLeDiff, reduceCtorEq, eq_self, K.isEff, List.reduceReplicate]
  refine step_guard rfl (fun _ => step_tree c1 rfl ?_) (fun h => absurd rfl h)
  by_cases g3 : words = words'
  case neg =>
    obtain rfl : D = false := by rw [hD]; exact decide_eq_false fun h => by injection h with a1 a2 a3 a4 a5; exact g3 a2
    rw [decide_eq_false g3]
    simp (maxSteps := 4000000) -implicitDefEqProofs (disch := omega) only [↓sxPre, sxPost, sxLib, if_true, if_false, Nat.reduceEqDiff, ↓reduceIte, Nat.reduceAdd, Nat.reduceSub, Nat.reduceMul, Nat.reduceLT, Nat.reduceLeDiff, reduceCtorEq, eq_self, K.isEff, List.reduceReplicate]
    refine step_guard rfl (fun h => absurd h (by decide)) (fun _ => ?_)
    simp (maxSteps := 4000000) -implicitDefEqProofs (disch := omega) only [↓sxPre, sxPost, sxLib, if_true, if_false, Nat.reduceEqDiff, ↓reduceIte, Nat.reduceAdd, Nat.reduceSub, Nat.reduceMul, Nat.reduceLT, Nat.reduceLeDiff, reduceCtorEq, eq_self, K.isEff, List.reduceReplicate]
    refine step_guard rfl (fun h => absurd h (by decide)) (fun _ => ?_)
    simp (maxSteps := 4000000) -implicitDefEqProofs (disch := omega) only [↓sxPre, sxPost, sxLib, if_true, if_false, Nat.reduceEqDiff, ↓reduceIte, Nat.reduceAdd, Nat.reduceSub, Nat.reduceMul, Nat.reduceLT, Nat.reduceLeDiff, reduceCtorEq, eq_self, K.isEff, List.reduceReplicate]
    refine finK_gc [] ?_
    simp [gcSt, keepOk, finG, resV, resOne, resAll, idx, V.ren, V.renL, Obj.ren, get_cons, get_nil, RTree, RTup, RRow]
  rw [decide_eq_true g3]
  simp (maxSteps := 4000000) -implicitDefEqProofs (disch := omega) only [↓sxPre, sxPost, sxLib, if_true, if_false, Nat.reduceEqDiff, ↓reduceIte, Nat.reduceAdd, Nat.reduceSub, Nat.reduceMul, Nat.reduceLT, Nat.reduceLeDiff, reduceCtorEq, eq_self, K.isEff, List.reduceReplicate]
  refine step_guard rfl (fun _ => step_tree c2 rfl ?_) (fun h => absurd rfl h)
  by_cases g4 : ths = ths'
  case neg =>
    obtain rfl : D = false := by rw [hD]; exact decide_eq_false fun h => by injection h with a1 a2 a3 a4 a5; exact g4 a3
    rw [decide_eq_false g4]
    simp (maxSteps := 4000000) -implicitDefEqProofs (disch := omega) only [↓sxPre, sxPost, sxLib, if_true, if_false, Nat.reduceEqDiff, ↓reduceIte, Nat.reduceAdd, Nat.reduceSub, Nat.reduceMul, Nat.reduceLT, Nat.reduceLeDiff, reduceCtorEq, eq_self, K.isEff, List.reduceReplicate]
    refine step_guard rfl (fun h => absurd h (by decide)) (fun _ => ?_)
    simp (maxSteps := 4000000) -implicitDefEqProofs (disch := omega) only [↓sxPre, sxPost, sxLib, if_true, if_false, Nat.reduceEqDiff, ↓reduceIte, Nat.reduceAdd, Nat.reduceSub, Nat.reduceMul, Nat.reduceLT, Nat.reduceLeDiff, reduceCtorEq, eq_self, K.isEff, List.reduceReplicate]
    refine finK_gc [] ?_
    simp [gcSt, keepOk, finG, resV, resOne, resAll, idx, V.ren, V.renL, Obj.ren, get_cons, get_nil, RTree, RTup, RRow]
  rw [decide_eq_true g4]
  simp (maxSteps := 4000000) -implicitDefEqProofs (disch := omega) only [↓sxPre, sxPost, sxLib, if_true, if_false, Nat.reduceEqDiff, ↓reduceIte, Nat.reduceAdd, Nat.reduceSub, Nat.reduceMul, Nat.reduceLT, Nat.reduceLeDiff, reduceCtorEq, eq_self, K.isEff, List.reduceReplicate]
  refine step_guard rfl (fun _ => step_tree c3 rfl ?_) (fun h => absurd rfl h)
  by_cases g5 : out = out'
  case neg =>
    obtain rfl : D = false := by rw [hD]; exact decide_eq_false fun h => by injection h with a1 a2 a3 a4 a5; exact g5 a4
    rw [decide_eq_false g5]
    simp (maxSteps := 4000000) -implicitDefEqProofs (disch := omega) only [↓sxPre, sxPost, sxLib, if_true, if_false, Nat.reduceEqDiff, ↓reduceIte, Nat.reduceAdd, Nat.reduceSub, Nat.reduceMul, Nat.reduceLT, Nat.reduceLeDiff, reduceCtorEq, eq_self, K.isEff, List.reduceReplicate]
    refine finK_gc [] ?_
    simp [gcSt, keepOk, finG, resV, resOne, resAll, idx, V.ren, V.renL, Obj.ren, get_cons, get_nil, RTree, RTup, RRow]
  obtain rfl : D = true := by rw [hD]; exact decide_eq_true (by rw [g1', g2', g3, g4, g5])
  rw [decide_eq_true g5]
  simp (maxSteps := 4000000) -implicitDefEqProofs (disch := omega) only [↓sxPre, sxPost, sxLib, if_true, if_false, Nat.reduceEqDiff, ↓reduceIte, Nat.reduceAdd, Nat.reduceSub, Nat.reduceMul, Nat.reduceLT, Nat.reduceLeDiff, reduceCtorEq, eq_self, K.isEff, List.reduceReplicate]
  refine finK_gc [] ?_
  simp [gcSt, keepOk, finG, resV, resOne, resAll, idx, V.ren, V.renL, Obj.ren, get_cons, get_nil, RTree, RTup, RRow]
end Go.Proofs.Ytljjabccgbakgaa
