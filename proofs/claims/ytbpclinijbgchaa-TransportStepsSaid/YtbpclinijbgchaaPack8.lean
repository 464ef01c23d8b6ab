/- Packets: Decode of the reference. By the session itself. -/
import Derived.Test.YtbpclinijbgchaaPack6
namespace Go.Proofs.Ytbpclinijbgchaa
open Go Go.Abs
set_option maxRecDepth 100000
set_option maxHeartbeats 4000000
set_option linter.unusedSimpArgs false
set_option linter.unusedVariables false

theorem rDecode_sc (l : List Int) (hb : Bytes l) (hl : l.length ≤ 2 ^ 40) (tight : Bool) : SCall PP N.debuggerref33_Decode [.t (.lst 1 tight (B l))] [] (RDec (dec l)) := by
  refine debuggerref33_Decode.intro (by simp) ?_
  by_cases h1 : 6060 < l.length
  · have g1 : decide ((6060 : Int) < l.length) = true := decide_eq_true (by omega)
    have hd : dec l = (zeroPk, 5) := if_pos h1
    rw [hd]
    simp (maxSteps := 4000000) -implicitDefEqProofs (disch := omega) only [B_length, g1, stepK_build', fillV_nil, kstore_ref, putAt_zero, ↓sxPre, sxPost, sxLib, if_true, if_false, Nat.reduceEqDiff, ↓reduceIte, Nat.reduceAdd, Nat.reduceSub, Nat.reduceMul, Nat.reduceLT, Nat.reduceLeDiff, reduceCtorEq, eq_self, K.isEff, List.reduceReplicate]
    exact fin_nil (q := zeroPk) rfl rfl rfl ⟨_, rfl, .inl ⟨rfl, rfl, rfl⟩⟩
  have g1 : decide ((6060 : Int) < l.length) = false := decide_eq_false (by omega)
  by_cases h2 : l.length < 3
  · have g2 : decide ((l.length : Int) - 2 < 1) = true := decide_eq_true (by omega)
    have hd : dec l = (zeroPk, 28) := by rw [dec, if_neg h1, if_pos (.inl h2)]
    rw [hd]
    simp (maxSteps := 4000000) -implicitDefEqProofs (disch := omega) only [B_length, g1, g2, stepK_build', fillV_nil, kstore_ref, putAt_zero, ↓sxPre, sxPost, sxLib, if_true, if_false, Nat.reduceEqDiff, ↓reduceIte, Nat.reduceAdd, Nat.reduceSub, Nat.reduceMul, Nat.reduceLT, Nat.reduceLeDiff, reduceCtorEq, eq_self, K.isEff, List.reduceReplicate]
    refine step_eff (step_guard rfl (fun h => absurd h (by decide)) (fun _ => ?_))
    simp (maxSteps := 4000000) -implicitDefEqProofs (disch := omega) only [B_length, g1, g2, stepK_build', fillV_nil, kstore_ref, putAt_zero, ↓sxPre, sxPost, sxLib, if_true, if_false, Nat.reduceEqDiff, ↓reduceIte, Nat.reduceAdd, Nat.reduceSub, Nat.reduceMul, Nat.reduceLT, Nat.reduceLeDiff, reduceCtorEq, eq_self, K.isEff, List.reduceReplicate]
    exact fin_nil (q := zeroPk) rfl rfl rfl ⟨_, rfl, .inl ⟨rfl, rfl, rfl⟩⟩
  have g2 : decide ((l.length : Int) - 2 < 1) = false := decide_eq_false (by omega)
  have hn : ((l.length : Int) - 2).toNat = l.length - 2 := by omega
  have hn1 : ((l.length : Int) - 2 + 1).toNat = l.length - 1 := by omega
  have a1 := at_B' (l := l) (i := l.length - 2) (by omega)
  have a2 := at_B' (l := l) (i := l.length - 1) (by omega)
  have b1 := hb _ (List.getElem_mem (show l.length - 2 < l.length by omega))
  have b2 := hb _ (List.getElem_mem (show l.length - 1 < l.length by omega))
  have htl : tail2 l = l[l.length - 2] * 256 + l[l.length - 1] := by
    rw [tail2, List.getD_eq_getElem?_getD, List.getD_eq_getElem?_getD, List.getElem?_eq_getElem (by omega), List.getElem?_eq_getElem (by omega)]; rfl
  have hbt : Bytes (l.take (l.length - 2)) := hb.take _
  have hlt : (l.take (l.length - 2)).length = l.length - 2 := by simp
  have cS := rSum_sc (l.take (l.length - 2)) hbt (by omega) false
  have e1 : (B l).take (l.length - 2) = B (l.take (l.length - 2)) := B_take _ _
  have hd1 : ∀ h : (crc (l.take (l.length - 2)) : Int) ≠ tail2 l, dec l = (zeroPk, 28) := fun h => by rw [dec, if_neg h1, if_pos (.inr h)]
  have hd2 : ∀ h : (crc (l.take (l.length - 2)) : Int) = tail2 l, dec l = match readP (l.take (l.length - 2)) with | none => (zeroPk, 4) | some p => (p, 0) := fun h => by
    rw [dec, if_neg h1, if_neg (by rintro (h' | h'); exact h2 h'; exact h' h)]
    rfl
  generalize dec l = D at *
  simp (maxSteps := 4000000) -implicitDefEqProofs (disch := omega) only [B_length, g1, g2, hn, hn1, a1, a2, at_zero, e1, ↓sxPre, sxPost, sxLib, if_true, if_false, Nat.reduceEqDiff, ↓reduceIte, Nat.reduceAdd, Nat.reduceSub, Nat.reduceMul, Nat.reduceLT, Nat.reduceLeDiff, reduceCtorEq, eq_self, K.isEff, List.reduceReplicate]
  refine ⟨by omega, by omega, by omega, ?_⟩
  refine step_eff (step_guard rfl (fun _ => step_tree cS rfl ?_) (fun h => absurd rfl h))
  rw [← htl]
  by_cases hc : (crc (l.take (l.length - 2)) : Int) = tail2 l
  case neg =>
    have gc : decide (tail2 l = (crc (l.take (l.length - 2)) : Int)) = false := decide_eq_false (fun h => hc h.symm)
    rw [hd1 hc]
    simp (maxSteps := 4000000) -implicitDefEqProofs (disch := omega) only [B_length, g1, g2, hn, hn1, a1, a2, at_zero, e1, gc, stepK_build', fillV_nil, kstore_ref, putAt_zero, ↓sxPre, sxPost, sxLib, if_true, if_false, Nat.reduceEqDiff, ↓reduceIte, Nat.reduceAdd, Nat.reduceSub, Nat.reduceMul, Nat.reduceLT, Nat.reduceLeDiff, reduceCtorEq, eq_self, K.isEff, List.reduceReplicate]
    refine ⟨by omega, by omega, ?_⟩
    exact fin_nil (q := zeroPk) rfl rfl rfl ⟨_, rfl, .inl ⟨rfl, rfl, rfl⟩⟩
  have gc : decide (tail2 l = (crc (l.take (l.length - 2)) : Int)) = true := decide_eq_true hc.symm
  have hd2 := hd2 hc
  have a0 := at_B' (l := l) (i := 0) (by omega)
  have b0' := hb _ (List.getElem_mem (show 0 < l.length by omega))
  have hl0 : (l.take (l.length - 2)).headD 0 = l[0] := by
    clear hd2 hd1 cS a0 a1 a2 b0' b1 b2 htl e1 hc gc
    cases l with
    | nil => simp at h2
    | cons x l' =>
      obtain ⟨m, hm⟩ : ∃ m, (x :: l').length - 2 = m + 1 := ⟨(x :: l').length - 3, by omega⟩
      rw [hm]
      rfl
  simp (maxSteps := 4000000) -implicitDefEqProofs (disch := omega) only [B_length, g1, g2, hn, hn1, a0, a1, a2, at_zero, e1, gc, stepK_build', fillV, putAt_zero, putAt_succ, kstore_ref, ↓sxPre, sxPost, sxLib, if_true, if_false, Nat.reduceEqDiff, ↓reduceIte, Nat.reduceAdd, Nat.reduceSub, Nat.reduceMul, Nat.reduceLT, Nat.reduceLeDiff, reduceCtorEq, eq_self, K.isEff, List.reduceReplicate]
  generalize hbb : l.take (l.length - 2) = b at *
  have hbl : b.length = l.length - 2 := hlt
  generalize l[0] = k0 at *
  refine ⟨⟨by omega, by omega⟩, ⟨by omega, by omega⟩, ⟨by omega, by omega⟩, ?_⟩
  obtain ⟨R, hR⟩ : ∃ R, rdNums b 5 1 = R := ⟨_, rfl⟩
  unfold readP at hd2
  rw [hR] at hd2
  refine wpC_loop_gc [0, 2, 3, 4, 5, 6, 7, 8] [0, 1, 2] (fun m s => ∃ (i : Nat) (ns : List Int) (at_ : Int), m + i = 5 ∧ ns.length = i ∧ 1 ≤ at_ ∧ at_ ≤ b.length ∧ (∀ x ∈ ns, 0 ≤ x ∧ x < 2 ^ 63) ∧ R = (rdNums b m at_).map (fun x => (ns ++ x.1, x.2)) ∧
      s = ⟨[(0, .t (.lst 1 tight (B l))), (2, .ref 0 0), (3, .t (.int .i64 0)), (4, .t (.int .i64 ((l.length : Int) - 2))), (5, .ref 1 0), (6, .ref 2 0), (7, .t (.int .i64 at_)), (8, .t (.int .i64 i))],
        [.box [V.t (.int .i64 0), V.t (.int .i64 0), V.t (.int .i64 0), V.t (.int .i64 0), V.t (.int .i64 0), V.t (.lst 0 true [])], .box [V.t (.int .i64 k0), V.t (.int .i64 0), V.t (.int .i64 0), V.t (.int .i64 0), V.t (.int .i64 0), V.t (.lst 0 true [])], .box (ns.map (fun v => V.t (.int .i64 v)) ++ List.replicate (5 - i) (V.t (.int .i64 0)))]⟩) 5
    ⟨by simp [gcSt, keepOk, finG, resV, resOne, resAll, idx, V.ren, V.renL, Obj.ren, get_cons, get_nil, RTree, RTup, RRow], 0, [], 1, by omega, rfl, by omega, by omega, (fun x h => by cases h), by simp [← hR], by simp [gcSt, keepOk, finG, resV, resOne, resAll, idx, V.ren, V.renL, Obj.ren, get_cons, get_nil, RTree, RTup, RRow]⟩ ?_
  rintro m s ⟨i, ns, at_, hm, hns, ha1, ha2, hn0, hrd, rfl⟩
  by_cases hi : i < 5
  · have hi' : (i : Int) < 5 := by omega
    obtain ⟨m, rfl⟩ : ∃ m', m = m' + 1 := ⟨m - 1, by omega⟩
    obtain ⟨hv, hn', hp⟩ := readAt_bounds (last := 8) (mx := 127) (by decide) hbt (at_ := at_)
    change (readAt 8 127 b at_).1 < (127 + 1) * 128 ^ 8 at hv
    change (readAt 8 127 b at_).2.2 = 0 → 0 ≤ at_ ∧ at_ < (readAt 8 127 b at_).2.1 ∧ (readAt 8 127 b at_).2.1 ≤ b.length at hn'
    change 0 ≤ (readAt 8 127 b at_).2.1 at hp
    have c := rUint_sc b hbt (by omega) false at_ (by omega)
    rw [uintAt] at c
    have h8 : (127 + 1) * 128 ^ 8 = 2 ^ 63 := by decide
    simp only [rdNums] at hrd
    generalize readAt 8 127 b at_ = q at *
    obtain ⟨v, n, e⟩ := q
    simp only at hv hn' hp hrd c
    have hput := put_nums (x := v) hns hi
    simp (maxSteps := 4000000) -implicitDefEqProofs (disch := omega) only [hi', hn, e1, B_length, ↓sxPre, sxPost, sxLib, if_true, if_false, Nat.reduceEqDiff, ↓reduceIte, Nat.reduceAdd, Nat.reduceSub, Nat.reduceMul, Nat.reduceLT, Nat.reduceLeDiff, reduceCtorEq, eq_self, K.isEff, List.reduceReplicate]
    refine ⟨⟨by omega, by omega⟩, step_tup c rfl ?_⟩
    simp (maxSteps := 4000000) -implicitDefEqProofs (disch := omega) only [List.getD_cons_zero, List.getD_cons_succ, ↓sxPre, sxPost, sxLib, if_true, if_false, Nat.reduceEqDiff, ↓reduceIte, Nat.reduceAdd, Nat.reduceSub, Nat.reduceMul, Nat.reduceLT, Nat.reduceLeDiff, reduceCtorEq, eq_self, K.isEff, List.reduceReplicate]
    refine condV_ndec (fun he => ?_) fun he => ?_
    · rw [if_pos he] at hrd
      rw [hrd] at hd2
      simp only [Option.map_none] at hd2
      rw [hd2]
      simp (maxSteps := 4000000) -implicitDefEqProofs (disch := omega) only [stepK_build', fillV_nil, kstore_ref, putAt_zero, ↓sxPre, sxPost, sxLib, if_true, if_false, Nat.reduceEqDiff, ↓reduceIte, Nat.reduceAdd, Nat.reduceSub, Nat.reduceMul, Nat.reduceLT, Nat.reduceLeDiff, reduceCtorEq, eq_self, K.isEff, List.reduceReplicate]
      exact fin_nil (q := zeroPk) rfl rfl rfl ⟨_, rfl, .inl ⟨rfl, rfl, rfl⟩⟩
    · rw [if_neg (by simpa using he)] at hrd
      have hne := hn' he
      simp (maxSteps := 4000000) -implicitDefEqProofs (disch := omega) only [kstore_ref, hput, Int.toNat_natCast, ↓sxPre, sxPost, sxLib, if_true, if_false, Nat.reduceEqDiff, ↓reduceIte, Nat.reduceAdd, Nat.reduceSub, Nat.reduceMul, Nat.reduceLT, Nat.reduceLeDiff, reduceCtorEq, eq_self, K.isEff, List.reduceReplicate]
      refine ⟨⟨by omega, by omega⟩, by omega, m, by omega, by simp [gcSt, keepOk, finG, resV, resOne, resAll, idx, V.ren, V.renL, Obj.ren, get_cons, get_nil, RTree, RTup, RRow], i + 1, ns ++ [(v : Int)], n, by omega, by simp [hns], by omega, by omega, ?_, ?_, ?_⟩
      · intro x hx
        rcases List.mem_append.1 hx with h | h
        · exact hn0 x h
        · simp at h; omega
      · rw [hrd]
        cases rdNums b m n with
        | none => rfl
        | some z => simp
      · simp [renL_nums, gcSt, keepOk, finG, resV, resOne, resAll, idx, V.ren, V.renL, Obj.ren, get_cons, get_nil, RTree, RTup, RRow]
  · have hi' : ¬ (i : Int) < 5 := by omega
    obtain rfl : m = 0 := by omega
    obtain rfl : i = 5 := by omega
    simp only [rdNums, Option.map_some, List.append_nil] at hrd
    match ns, hns with
    | [n0, n1, n2, n3, n4], _ =>
      have e5 : ((B l).take (l.length - 2)).drop at_.toNat = B (b.drop at_.toNat) := by rw [e1]; simp [B]
      have hdl : (b.drop at_.toNat).length ≤ 2 ^ 40 := by simp; omega
      have hmk : mkPk b [n0, n1, n2, n3, n4] at_ = ⟨k0, n0, n1, n2, n3, b.drop at_.toNat⟩ := by rw [mkPk, hl0]; rfl
      rw [hrd] at hd2
      simp only [hmk] at hd2
      have h4 : [n0, n1, n2, n3, n4].getD 4 0 = n4 := rfl
      rw [h4] at hd2
      have bd : Bytes (b.drop at_.toNat) := fun x hx => hbt x (List.mem_of_mem_drop hx)
      generalize b.drop at_.toNat = X at *
      by_cases hn4 : n4 = (X.length : Int)
      · have g4 : decide (n4 = (X.length : Int)) = true := decide_eq_true hn4
        have cR := rRight_sc ⟨k0, n0, n1, n2, n3, X⟩ (by simp only; omega) 1 false
        simp only [Pk.cells] at cR
        by_cases hr : Pk.right ⟨k0, n0, n1, n2, n3, X⟩ = true
        · rw [if_pos ⟨hn4, hr⟩] at hd2
          simp only at hd2
          rw [hd2]
          rw [hr] at cR
          simp (maxSteps := 4000000) -implicitDefEqProofs (disch := omega) only [hi', g4, hn, B_length, Int.toNat_natCast, Int.reduceToNat, e5, elems_lst', kappend_nil, keff_buildSlice, toElems_nil, setElems_nil, stepK_build', fillV, putAt_zero, putAt_succ, kstore_ref, ↓sxPre, sxPost, sxLib, if_true, if_false, Nat.reduceEqDiff, ↓reduceIte, Nat.reduceAdd, Nat.reduceSub, Nat.reduceMul, Nat.reduceLT, Nat.reduceLeDiff, reduceCtorEq, eq_self, K.isEff, List.reduceReplicate]
          refine ⟨by omega, by omega, by omega, by omega, ⟨by omega, by omega, by omega⟩, by omega, by omega, ?_⟩
          refine step_guard rfl (fun _ => step_tree (x := .bool true) ?_ rfl ?_) (fun h => absurd rfl h)
          · simpa [Abs.view, viewL, rowOf, Abs.get, ev, B_take] using cR
          simp (maxSteps := 4000000) -implicitDefEqProofs (disch := omega) only [kstore_ref, putAt_zero, ↓sxPre, sxPost, sxLib, if_true, if_false, Nat.reduceEqDiff, ↓reduceIte, Nat.reduceAdd, Nat.reduceSub, Nat.reduceMul, Nat.reduceLT, Nat.reduceLeDiff, reduceCtorEq, eq_self, K.isEff, List.reduceReplicate]
          exact fin_new (rid := 3) (q := ⟨k0, n0, n1, n2, n3, X⟩) rfl rfl rfl rfl ⟨_, rfl, .inr ⟨_, rfl, rfl⟩⟩
        · rw [if_neg (by rintro ⟨_, h⟩; exact hr h)] at hd2
          simp only at hd2
          rw [hd2]
          rw [Bool.eq_false_iff.2 hr] at cR
          simp (maxSteps := 4000000) -implicitDefEqProofs (disch := omega) only [hi', g4, hn, B_length, Int.toNat_natCast, Int.reduceToNat, e5, elems_lst', kappend_nil, keff_buildSlice, toElems_nil, setElems_nil, stepK_build', fillV, putAt_zero, putAt_succ, kstore_ref, ↓sxPre, sxPost, sxLib, if_true, if_false, Nat.reduceEqDiff, ↓reduceIte, Nat.reduceAdd, Nat.reduceSub, Nat.reduceMul, Nat.reduceLT, Nat.reduceLeDiff, reduceCtorEq, eq_self, K.isEff, List.reduceReplicate]
          refine ⟨by omega, by omega, by omega, by omega, ⟨by omega, by omega, by omega⟩, by omega, by omega, ?_⟩
          refine step_guard rfl (fun _ => step_tree (x := .bool false) ?_ rfl ?_) (fun h => absurd rfl h)
          · simpa [Abs.view, viewL, rowOf, Abs.get, ev, B_take] using cR
          simp (maxSteps := 4000000) -implicitDefEqProofs (disch := omega) only [stepK_build', fillV_nil, kstore_ref, putAt_zero, ↓sxPre, sxPost, sxLib, if_true, if_false, Nat.reduceEqDiff, ↓reduceIte, Nat.reduceAdd, Nat.reduceSub, Nat.reduceMul, Nat.reduceLT, Nat.reduceLeDiff, reduceCtorEq, eq_self, K.isEff, List.reduceReplicate]
          exact fin_nil (q := zeroPk) rfl rfl rfl ⟨_, rfl, .inl ⟨rfl, rfl, rfl⟩⟩
      · have g4 : decide (n4 = (X.length : Int)) = false := decide_eq_false hn4
        rw [if_neg (by rintro ⟨h, _⟩; exact hn4 h)] at hd2
        simp only at hd2
        rw [hd2]
        simp (maxSteps := 4000000) -implicitDefEqProofs (disch := omega) only [hi', g4, hn, B_length, Int.toNat_natCast, Int.reduceToNat, e5, elems_lst', kappend_nil, keff_buildSlice, toElems_nil, setElems_nil, stepK_build', fillV, putAt_zero, putAt_succ, kstore_ref, ↓sxPre, sxPost, sxLib, if_true, if_false, Nat.reduceEqDiff, ↓reduceIte, Nat.reduceAdd, Nat.reduceSub, Nat.reduceMul, Nat.reduceLT, Nat.reduceLeDiff, reduceCtorEq, eq_self, K.isEff, List.reduceReplicate]
        refine ⟨by omega, by omega, by omega, by omega, ⟨by omega, by omega, by omega⟩, by omega, by omega, ?_⟩
        refine step_guard rfl (fun h => absurd h (by decide)) (fun _ => ?_)
        simp (maxSteps := 4000000) -implicitDefEqProofs (disch := omega) only [stepK_build', fillV_nil, kstore_ref, putAt_zero, ↓sxPre, sxPost, sxLib, if_true, if_false, Nat.reduceEqDiff, ↓reduceIte, Nat.reduceAdd, Nat.reduceSub, Nat.reduceMul, Nat.reduceLT, Nat.reduceLeDiff, reduceCtorEq, eq_self, K.isEff, List.reduceReplicate]
        exact fin_nil (q := zeroPk) rfl rfl rfl ⟨_, rfl, .inl ⟨rfl, rfl, rfl⟩⟩
end Go.Proofs.Ytbpclinijbgchaa
