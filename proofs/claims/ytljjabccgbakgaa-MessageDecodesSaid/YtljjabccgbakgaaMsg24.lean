/- Messages: the specification's threads and output are read. By the session itself. -/
import Derived.Test.YtljjabccgbakgaaMsg23
namespace Go.Proofs.Ytljjabccgbakgaa
open Go Go.Abs
set_option maxRecDepth 100000
set_option maxHeartbeats 8000000
set_option linter.unusedSimpArgs false
set_option linter.unusedVariables false

theorem rdInts_bad (b : List Int) (m a : Int) (hm : 0 ≤ m) : rdInts b m (a, true) = ([], (a, true)) := by
  unfold rdInts rdN
  simp only [if_true]
  rw [if_neg (by omega)]
  rfl

theorem rthreadR_sc (b : List Int) (hb : Bytes b) (hl : b.length ≤ 2 ^ 40) (s : RS) (hs : SOk b s) : SCall PP N.debuggerref36_reader_thread [.ref 0 0] [rbox b s] (RTh b (rdTh b s)) := by
  refine debuggerref36_reader_thread.intro (by simp) ?_
  have c1 := rlistT_sc b hb hl s hs 19 (by decide)
  obtain ⟨m1, m2, m3⟩ := rdInts_ok hb 19 hs
  by_cases hlen : (rdInts b 19 s).1.length = 19
  case neg =>
    have e1 : rdExact b 19 s = (List.replicate 19 0, ((rdInts b 19 s).2.1, true)) := by
      unfold rdExact
      have hc : ((19 : Nat) : Int) = 19 := rfl
      rw [hc, if_neg hlen]
    have e2 : rdTh b s = (zeroTh, ((rdInts b 19 s).2.1, true)) := by
      unfold rdTh
      rw [e1]
      simp only
      rw [rdInts_bad b 4 _ (by decide)]
      rfl
    rw [e2]
    generalize rdInts b 19 s = x at *
    obtain ⟨l, sa, sb⟩ := x
    simp only at hlen ⊢
    simp (maxSteps := 4000000) -implicitDefEqProofs (disch := omega) only [↓sxPre, sxPost, sxLib, if_true, if_false, Nat.reduceEqDiff, ↓reduceIte, Nat.reduceAdd, Nat.reduceSub, Nat.reduceMul, Nat.reduceLT, Nat.reduceLeDiff, reduceCtorEq, eq_self, K.isEff, List.reduceReplicate]
    refine step_intsT (b := b) (x := (l, sa, sb)) 0 (by simp) ?_ (fun sz t hsz => ?_)
    · simpa [V.ren, V.renL, idx, Abs.get, ev, sub, rbox, Obj.ren] using c1
    have d1 : decide ((l.length : Int) = 19) = false := decide_eq_false (by omega)
    unfold rbox
    simp (maxSteps := 4000000) -implicitDefEqProofs (disch := omega) only [Ns_length, d1, kstore_ref, putAt_zero, putAt_succ, fillV, ↓sxPre, sxPost, sxLib, if_true, if_false, Nat.reduceEqDiff, ↓reduceIte, Nat.reduceAdd, Nat.reduceSub, Nat.reduceMul, Nat.reduceLT, Nat.reduceLeDiff, reduceCtorEq, eq_self, K.isEff, List.reduceReplicate]
    refine finK_one (n := 1) [0] (c := True) (v := .agg ((zeroTh.cells 0 true).map V.t)) (x := .agg (zeroTh.cells 0 true)) (H1 := [rbox b (sa, true), .box ((zeroTh.cells 0 true).map V.t)]) ?_ trivial ?_ (by simp [keepOk]) ?_
    · simp [resV, resOne, get_cons, kloadN_ref, zeroTh, Th.cells, Ns]
    · rw [toElem_agg]
      have := toTs_ts (H := [rbox b (sa, true), .box ((zeroTh.cells 0 true).map V.t)]) (toTs_nil) (zeroTh.cells 0 true)
      simp only [List.append_nil] at this
      rw [show ∀ H, H = [rbox b (sa, true), .box ((zeroTh.cells 0 true).map V.t)] → toTs H ((zeroTh.cells 0 true).map V.t) = some (zeroTh.cells 0 true, H) from fun H hH => by subst hH; exact this]
      · rfl
      · rfl
    · exact ⟨0, true, .inr rfl, rfl, rfl⟩
  have e1 : rdExact b 19 s = rdInts b 19 s := by
    unfold rdExact
    have hc : ((19 : Nat) : Int) = 19 := rfl
    rw [hc, if_pos hlen]
  have c2 := rlistT_sc b hb hl (rdInts b 19 s).2 m1 4 (by decide)
  unfold rdTh
  rw [e1]
  generalize rdInts b 19 s = x at *
  obtain ⟨l, s1⟩ := x
  simp only at m1 m2 m3 hlen c2 ⊢
  generalize rdInts b 4 s1 = z at *
  obtain ⟨y, s2⟩ := z
  simp only at c2 ⊢
  have k3 : l.length = 19 := hlen
  obtain ⟨l0, l1, l2, r, rfl⟩ : ∃ l0 l1 l2 r, l = l0 :: l1 :: l2 :: r := by
    match l, k3 with
    | l0 :: l1 :: l2 :: r, _ => exact ⟨l0, l1, l2, r, rfl⟩
  have hr : r.length = 16 := by simpa using k3
  obtain ⟨f1, f2, f3, f4, f5, f6⟩ := vfacts l0 l1 l2 r hr
  simp only [List.getD_cons_zero, List.getD_cons_succ, List.drop_succ_cons, List.drop_zero]
  simp (maxSteps := 4000000) -implicitDefEqProofs (disch := omega) only [↓sxPre, sxPost, sxLib, if_true, if_false, Nat.reduceEqDiff, ↓reduceIte, Nat.reduceAdd, Nat.reduceSub, Nat.reduceMul, Nat.reduceLT, Nat.reduceLeDiff, reduceCtorEq, eq_self, K.isEff, List.reduceReplicate]
  refine step_intsT (b := b) (x := (l0 :: l1 :: l2 :: r, s1)) 0 (by simp) ?_ (fun sz t hsz => ?_)
  · simpa [V.ren, V.renL, idx, Abs.get, ev, sub, rbox, Obj.ren] using c1
  obtain rfl : sz = 1 := hsz.resolve_right (by simp)
  have a0 := at_Ns (l := l0 :: l1 :: l2 :: r) (i := 0) (by simp)
  have a1 := at_Ns (l := l0 :: l1 :: l2 :: r) (i := 1) (by simp)
  have a2 := at_Ns (l := l0 :: l1 :: l2 :: r) (i := 2) (by simp)
  simp only [List.getElem_cons_zero, List.getElem_cons_succ] at a0 a1 a2
  have hL : (l0 :: l1 :: l2 :: r).length = 19 := k3
  obtain ⟨X, hX⟩ : ∃ X, X = Ns (l0 :: l1 :: l2 :: r) := ⟨_, rfl⟩
  have hXl : X.length = 19 := by rw [hX, Ns_length]; exact hL
  have hXd : X.drop 3 = Ns r := by
    rw [hX]; rfl
  have hrt : (Ns r).take 16 = Ns r := List.take_of_length_le (by rw [Ns_length]; omega)
  have hXt : X.take 19 = X := List.take_of_length_le (by omega)
  rw [← hX] at a0 a1 a2
  simp only [← hX]
  clear hX
  have d19 : decide (((19 : Nat) : Int) = 19) = true := by decide
  simp (maxSteps := 4000000) -implicitDefEqProofs (disch := omega) only [kload1_elt, Int.reduceToNat, a0, a1, a2, hXl, d19, at_zero, stepK_build', fillV, putAt_zero, putAt_succ, ksliceA_ref, kcopy_bsl, elems_lst', hXd, hXt, hrt, Ns_one, Ns_length, hr, f6, ↓sxPre, sxPost, sxLib, if_true, if_false, Nat.reduceEqDiff, ↓reduceIte, Nat.reduceAdd, Nat.reduceSub, Nat.reduceMul, Nat.reduceLT, Nat.reduceLeDiff, reduceCtorEq, eq_self, K.isEff, List.reduceReplicate]
  refine ⟨⟨by omega, by omega⟩, ⟨by omega, by omega⟩, ⟨by omega, by omega⟩, ⟨by omega, by omega⟩, ⟨by omega, by omega⟩, ⟨by omega, by omega⟩, ⟨by omega, by omega⟩, ?_⟩
  refine step_intsT (b := b) (x := (y, s2)) 0 (by simp) ?_ (fun sz2 t2 hsz2 => ?_)
  · simpa [V.ren, V.renL, idx, Abs.get, ev, sub, rbox, Obj.ren] using c2
  simp (maxSteps := 4000000) -implicitDefEqProofs (disch := omega) only [f1, f2, f3, f4, f5, ↓sxPre, sxPost, sxLib, if_true, if_false, Nat.reduceEqDiff, ↓reduceIte, Nat.reduceAdd, Nat.reduceSub, Nat.reduceMul, Nat.reduceLT, Nat.reduceLeDiff, reduceCtorEq, eq_self, K.isEff, List.reduceReplicate]
  refine ⟨f4 _ rfl, ?_⟩
  refine finK_one (n := 1) [0] (c := True) (v := .agg (vcells l0 l1 l2 r (.t (.lst sz2 t2 (Ns y))))) (x := .agg (Th.cells ⟨l0, l1, l2, r, y⟩ sz2 t2)) (H1 := [rbox b s2, .box (vcells l0 l1 l2 r (.t (.lst sz2 t2 (Ns y)))), .box (vcells l0 l1 l2 r (.t (.lst sz2 t2 (Ns y))))]) ?_ trivial ?_ (by simp [keepOk]) ?_
  · simp [resV, resOne, get_cons, kloadN_ref, f1, f2]
  · rw [toElem_agg, vcells_toTs (toT_t (x := .lst sz2 t2 (Ns y)))]
    rfl
  · exact ⟨sz2, t2, hsz2, rfl, rfl⟩

/-- What was printed, frozen; and the reader has moved. -/
def ROutT (b : List Int) (x : List (Int × Int) × RS) (r : V) (F : Heap) : Prop := ∃ sz t, (sz = 2 ∨ x.1 = []) ∧ r = .t (.lst sz t (Ps x.1)) ∧ F = [rbox b x.2]
def rdOut (b : List Int) (s : RS) : List (Int × Int) × RS :=
  (pairs (rdInts b 256 s).1, if (rdInts b 256 s).1.length % 2 = 0 then (rdInts b 256 s).2 else ((rdInts b 256 s).2.1, true))

theorem step_outT {P : Program} {f : FuncId} {H : Heap} {K : St → Prop} {vs : List (Nat × V)} {r : List Ins} {d : Nat} {xs : List Opnd} {b : List Int} {x : List (Int × Int) × RS} (id : Nat) (hid : id < H.length)
    (h : SCall P f ((xs.map (ev vs)).map (V.ren (idx [id]))) (sub H [id]) (ROutT b x))
    (hk : ∀ sz t, (sz = 2 ∨ x.1 = []) → wpR (SCall P) r K ⟨(d, .t (.lst sz t (Ps x.1))) :: vs, H.set id (rbox b x.2)⟩) : wpR (SCall P) (⟨some d, none, .call f xs⟩ :: r) K ⟨vs, H⟩ := by
  refine step_call (call_frame [id] (by simp) (by simpa using hid) h ?_)
  rintro r F ⟨sz, t, hs, rfl, rfl⟩
  simpa [merge, setAll, V.ren, Obj.ren, rbox, V.renL] using hk sz t hs

abbrev orTail : Cd := (.seq (.rgn debuggerref36_reader_output.r8) .ret)

theorem routR_l0 (b : List Int) (s : RS) (m0 : Int) (o : List Int) (ho : o.length ≤ 2 ^ 20) (so : Nat) (to : Bool) (hso : so = 1 ∨ o = []) (st : St)
    (hk : keepOk 1 [0] st.h.length) (hst : gcSt [0, 5, 6, 7] [0] st = ⟨[(0, .ref 0 0), (5, .t (.lst so to (Ns o))), (6, .t (.lst 0 true [])), (7, .t (.int .i64 0))], [rbox b s]⟩) :
    wpC (SCall PP) 1 (.loop debuggerref36_reader_output.l0) (blockK 0 (thenK (wpC (SCall PP) 1 orTail (exitK 1 [.tmp 4] (ROutT b (pairs o, s)))) (exitK 1 [.tmp 4] (ROutT b (pairs o, s))))) st := by
  refine wpC_loop (fun m st => ∃ (j : Nat) (x : V) (H : Heap), m + j = o.length / 2 ∧
      ((j = 0 ∧ x = .t (.lst 0 true []) ∧ H = []) ∨ ∃ g', x = .sl 1 0 j g' 2 ∧ H = [.row 2 g' (Ps ((pairs o).take j))]) ∧
      st = ⟨[(0, .ref 0 0), (5, .t (.lst so to (Ns o))), (6, x), (7, .t (.int .i64 (2 * j : Nat)))], rbox b s :: H⟩) (o.length / 2) _ (weak_keep hk)
    ⟨0, _, [], by omega, .inl ⟨rfl, rfl, rfl⟩, hst⟩ ?_
  clear hst hk st
  have hpl := pairs_length o
  rintro m st ⟨j, x, H, hm, hxH, rfl⟩
  by_cases hj : 2 * j + 1 < o.length
  · have d1 : decide (((2 * j : Nat) : Int) + 1 < o.length) = true := decide_eq_true (by omega)
    have hso1 : so = 1 := hso.resolve_right (by rintro rfl; simp at hj)
    subst hso1
    have b1 : ((2 * j : Nat) : Int) < o.length := by omega
    have b2 : ((2 * j : Nat) : Int) + 1 < o.length := by omega
    have e2 : (((2 * j : Nat) : Int) + 1).toNat = 2 * j + 1 := by omega
    have a1 := at_Ns (l := o) (i := 2 * j) (by omega)
    have a2 := at_Ns (l := o) (i := 2 * j + 1) (by omega)
    have hpj : j < (pairs o).length := by omega
    have hpg := pairs_get o j hpj
    have hpt : (pairs o).take (j + 1) = (pairs o).take j ++ [(o[2 * j]'(by omega), o[2 * j + 1]'(by omega))] := by
      rw [List.take_succ_eq_append_getElem hpj, hpg]
      simp [List.getD_eq_getElem?_getD, show 2 * j < o.length by omega, hj]
    have hptl : ((pairs o).take j).length = j := by rw [List.length_take]; omega
    have e3 : ((2 * j : Nat) : Int) + 2 = ((2 * (j + 1) : Nat) : Int) := by omega
    rcases hxH with ⟨rfl, rfl, rfl⟩ | ⟨g', rfl, rfl⟩
    · simp (maxSteps := 4000000) -implicitDefEqProofs (disch := omega) only [Ns_length, d1, b1, b2, e2, a1, a2, e3, Int.toNat_natCast, at_zero, fillV, putAt_zero, putAt_succ, keff_buildSlice, toElems_cons, toElems_nil, toElem_agg, toTs_cons, toTs_nil, toT_t, setElems_cons, setElems_nil, ↓sxPre, sxPost, sxLib, if_true, if_false, Nat.reduceEqDiff, ↓reduceIte, Nat.reduceAdd, Nat.reduceSub, Nat.reduceMul, Nat.reduceLT, Nat.reduceLeDiff, reduceCtorEq, eq_self, K.isEff, List.reduceReplicate]
      refine ⟨by omega, by omega, by omega, m - 1, _, by omega, weak_keep (slots := [0, 5, 6, 7]) (keep := [0, 1]) (by simp [keepOk]), 1, _, _, by omega, .inr ⟨0, rfl, rfl⟩, ?_⟩
      rw [hpt]
      simp [Ps, rbox, gcSt, keepOk, finG, resV, resOne, resAll, idx, V.ren, V.renL, Obj.ren, get_cons, get_nil, RTree, RTup, RRow]
    · simp (maxSteps := 4000000) -implicitDefEqProofs (disch := omega) only [Ns_length, d1, b1, b2, e2, a1, a2, e3, Int.toNat_natCast, at_zero, fillV, putAt_zero, putAt_succ, keff_buildSlice, toElems_cons, toElems_nil, toElem_agg, toTs_cons, toTs_nil, toT_t, setElems_cons, setElems_nil, Ps_length, hptl, ↓sxPre, sxPost, sxLib, if_true, if_false, Nat.reduceEqDiff, ↓reduceIte, Nat.reduceAdd, Nat.reduceSub, Nat.reduceMul, Nat.reduceLT, Nat.reduceLeDiff, reduceCtorEq, eq_self, K.isEff, List.reduceReplicate]
      refine ⟨by omega, by omega, by omega, m - 1, _, by omega, weak_keep (slots := [0, 5, 6, 7]) (keep := [0, 1]) (by simp [keepOk]), j + 1, _, _, by omega, .inr ⟨g' + 1, rfl, rfl⟩, ?_⟩
      rw [hpt]
      simp [Ps, rbox, gcSt, keepOk, finG, resV, resOne, resAll, idx, V.ren, V.renL, Obj.ren, get_cons, get_nil, RTree, RTup, RRow]
  · have d1 : decide (((2 * j : Nat) : Int) + 1 < o.length) = false := decide_eq_false (by omega)
    obtain rfl : j = o.length / 2 := by
      rcases hxH with ⟨h, _⟩ | ⟨g', _⟩ <;> omega
    have hpt : (pairs o).take (o.length / 2) = pairs o := List.take_of_length_le (by omega)
    rw [hpt] at hxH
    have hPt : (Ps (pairs o)).take (o.length / 2) = Ps (pairs o) := List.take_of_length_le (by rw [Ps_length]; omega)
    rcases hxH with ⟨h0, rfl, rfl⟩ | ⟨g', rfl, rfl⟩
    · have hp0 : pairs o = [] := List.length_eq_zero_iff.1 (by omega)
      simp (maxSteps := 4000000) -implicitDefEqProofs (disch := omega) only [d1, Ns_length, ↓sxPre, sxPost, sxLib, if_true, if_false, Nat.reduceEqDiff, ↓reduceIte, Nat.reduceAdd, Nat.reduceSub, Nat.reduceMul, Nat.reduceLT, Nat.reduceLeDiff, reduceCtorEq, eq_self, K.isEff, List.reduceReplicate]
      refine finK_one (n := 1) [0] (c := True) (v := .t (.lst 0 true [])) (x := .lst 0 true []) (H1 := [rbox b s]) ?_ trivial rfl (by simp [keepOk]) ?_
      · simp [resV, resOne, get_cons]
      · exact ⟨0, true, .inr hp0, by rw [hp0]; rfl, rfl⟩
    · simp (maxSteps := 4000000) -implicitDefEqProofs (disch := omega) only [d1, Ns_length, ↓sxPre, sxPost, sxLib, if_true, if_false, Nat.reduceEqDiff, ↓reduceIte, Nat.reduceAdd, Nat.reduceSub, Nat.reduceMul, Nat.reduceLT, Nat.reduceLeDiff, reduceCtorEq, eq_self, K.isEff, List.reduceReplicate]
      refine finK_one (n := 1) [0] (c := True) (v := .sl 1 0 (o.length / 2) g' 2) (x := .lst 2 false (Ps (pairs o))) (H1 := [rbox b s, .frz 2 g' (Ps (pairs o))]) ?_ trivial ?_ (by simp [keepOk]) ?_
      · simp [resV, resOne, get_cons]
      · simp [toElem, toT_sl, rowOf, hPt]
      · exact ⟨2, false, .inl rfl, rfl, rfl⟩

theorem routR_sc (b : List Int) (hb : Bytes b) (hl : b.length ≤ 2 ^ 40) (s : RS) (hs : SOk b s) : SCall PP N.debuggerref36_reader_output [.ref 0 0, .t (.int .i64 128)] [rbox b s] (ROutT b (rdOut b s)) := by
  refine debuggerref36_reader_output.intro (by simp) ?_
  have c1 := rlistT_sc b hb hl s hs 256 (by decide)
  obtain ⟨k1, k2, k3⟩ := rdInts_ok hb 256 hs
  unfold rdOut
  generalize rdInts b 256 s = z at *
  obtain ⟨o, so⟩ := z
  simp only at k1 k3 ⊢
  have h256 : IntKind.i64.wrap (2 * 128) = 256 := by decide
  simp (maxSteps := 4000000) -implicitDefEqProofs (disch := omega) only [h256, ↓sxPre, sxPost, sxLib, if_true, if_false, Nat.reduceEqDiff, ↓reduceIte, Nat.reduceAdd, Nat.reduceSub, Nat.reduceMul, Nat.reduceLT, Nat.reduceLeDiff, reduceCtorEq, eq_self, K.isEff, List.reduceReplicate]
  refine step_intsT (b := b) (x := (o, so)) 0 (by simp) ?_ (fun sz t hsz => ?_)
  · simpa [V.ren, V.renL, idx, Abs.get, ev, sub, rbox, Obj.ren] using c1
  by_cases hpar : o.length % 2 = 0
  · have d2 : decide (((o.length % 2 : Nat) : Int) = 1) = false := decide_eq_false (by omega)
    rw [if_pos hpar]
    simp (maxSteps := 4000000) -implicitDefEqProofs (disch := omega) only [Ns_length, rem2, d2, ↓sxPre, sxPost, sxLib, if_true, if_false, Nat.reduceEqDiff, ↓reduceIte, Nat.reduceAdd, Nat.reduceSub, Nat.reduceMul, Nat.reduceLT, Nat.reduceLeDiff, reduceCtorEq, eq_self, K.isEff, List.reduceReplicate]
    refine ⟨by decide, routR_l0 b so 0 o (by omega) sz t hsz _ (by simp [keepOk]) ?_⟩
    simp [rbox, gcSt, keepOk, finG, resV, resOne, resAll, idx, V.ren, V.renL, Obj.ren, get_cons, get_nil, RTree, RTup, RRow]
  · have d2 : decide (((o.length % 2 : Nat) : Int) = 1) = true := decide_eq_true (by omega)
    rw [if_neg hpar]
    obtain ⟨oa, ob⟩ := so
    unfold rbox
    simp (maxSteps := 4000000) -implicitDefEqProofs (disch := omega) only [Ns_length, rem2, d2, kstore_ref, putAt_zero, putAt_succ, ↓sxPre, sxPost, sxLib, if_true, if_false, Nat.reduceEqDiff, ↓reduceIte, Nat.reduceAdd, Nat.reduceSub, Nat.reduceMul, Nat.reduceLT, Nat.reduceLeDiff, reduceCtorEq, eq_self, K.isEff, List.reduceReplicate]
    refine ⟨by decide, routR_l0 b (oa, true) 0 o (by omega) sz t hsz _ (by simp [keepOk]) ?_⟩
    simp [rbox, gcSt, keepOk, finG, resV, resOne, resAll, idx, V.ren, V.renL, Obj.ren, get_cons, get_nil, RTree, RTup, RRow]
end Go.Proofs.Ytljjabccgbakgaa
