/- The reference of package wire: what its functions return. By the session itself. -/
import Derived.Test.YtbpclinijbgchaaWireT
namespace Go.Proofs.Ytbpclinijbgchaa
open Go Go.Abs
set_option maxRecDepth 100000
set_option linter.unusedSimpArgs false
set_option linter.unusedVariables false

theorem rem128 (m : Nat) : (m : Int).tmod 128 = ((m % 128 : Nat) : Int) := by rw [Int.tmod_eq_emod_of_nonneg (by omega)]; omega
theorem quo128 (m : Nat) : (m : Int).tdiv 128 = ((m / 128 : Nat) : Int) := by rw [Int.tdiv_eq_ediv_of_nonneg (by omega)]; omega

theorem group_sc (l : List Int) (tight : Bool) (v : Nat) (hv : v < 2 ^ 64) (hl : l.length ≤ 2 ^ 40) :
    SCall PP N.debuggerref01_group [.t (.lst 1 tight (B l)), .t (.int .u64 v)] [] (RRow 1 (B (l ++ groups v))) := by
  refine debuggerref01_group.intro (by simp) ?_
  simp (maxSteps := 4000000) -implicitDefEqProofs (disch := omega) only [B_length, ↓sxPre, sxPost, sxLib, if_true, if_false, Nat.reduceEqDiff, ↓reduceIte, Nat.reduceAdd, Nat.reduceSub, Nat.reduceMul, Nat.reduceLT, Nat.reduceLeDiff, reduceCtorEq, eq_self, K.isEff, List.reduceReplicate]
  refine ⟨by omega, ?_⟩
  refine wpC_loop_gc [5, 1] [0] (fun m s => ∃ (d : List Int) (w g : Nat), m = w ∧ groups v = d ++ groups w ∧ w ≤ v ∧ s = ⟨[(5, .sl 0 0 (l.length + d.length) g 1), (1, .t (.int .u64 w))], [.row 1 g (B (l ++ d))]⟩) v
    ⟨by simp [B_length, gcSt, keepOk, finG, resV, resOne, resAll, idx, V.ren, V.renL, Obj.ren, get_cons, get_nil, RTree, RTup, RRow], [], v, 0, rfl, rfl, Nat.le_refl _, by simp [B_length, gcSt, keepOk, finG, resV, resOne, resAll, idx, V.ren, V.renL, Obj.ren, get_cons, get_nil, RTree, RTup, RRow]⟩ ?_
  rintro m s ⟨d, w, g, rfl, hd, hw, rfl⟩
  have h10 := groups_le10 hv
  have hpos := groups_pos m
  rw [hd, List.length_append] at h10
  simp (maxSteps := 4000000) -implicitDefEqProofs (disch := omega) only [↓sxPre, sxPost, sxLib, if_true, if_false, Nat.reduceEqDiff, ↓reduceIte, Nat.reduceAdd, Nat.reduceSub, Nat.reduceMul, Nat.reduceLT, Nat.reduceLeDiff, reduceCtorEq, eq_self, K.isEff, List.reduceReplicate]
  refine condV_dec (fun h => ?_) fun h => ?_
  · have hm : ¬ m < 128 := by omega
    rw [groups_ge hm] at hd
    simp (maxSteps := 4000000) -implicitDefEqProofs (disch := omega) only [rem128, quo128, B_length, ↓sxPre, sxPost, sxLib, if_true, if_false, Nat.reduceEqDiff, ↓reduceIte, Nat.reduceAdd, Nat.reduceSub, Nat.reduceMul, Nat.reduceLT, Nat.reduceLeDiff, reduceCtorEq, eq_self, K.isEff, List.reduceReplicate]
    refine ⟨by decide, by omega, by decide, m / 128, by omega, by simp [B_length, gcSt, keepOk, finG, resV, resOne, resAll, idx, V.ren, V.renL, Obj.ren, get_cons, get_nil, RTree, RTup, RRow], d ++ [((m % 128 + 128 : Nat) : Int)], m / 128, g + 1, rfl, by rw [hd]; simp, by omega, ?_⟩
    simp [B, Nat.add_assoc, gcSt, keepOk, finG, resV, resOne, resAll, idx, V.ren, V.renL, Obj.ren, get_cons, get_nil, RTree, RTup, RRow]
  · have hm : m < 128 := by omega
    rw [groups_lt hm] at hd
    simp (maxSteps := 4000000) -implicitDefEqProofs (disch := omega) only [↓sxPre, sxPost, sxLib, if_true, if_false, Nat.reduceEqDiff, ↓reduceIte, Nat.reduceAdd, Nat.reduceSub, Nat.reduceMul, Nat.reduceLT, Nat.reduceLeDiff, reduceCtorEq, eq_self, K.isEff, List.reduceReplicate]
    refine ⟨⟨by simp [B], by simp [B]; omega⟩, finK_gc [0] ?_⟩
    have : (m : Int) = ((m % 256 : Nat) : Int) := by omega
    simp [B, wu8_nat, hd, Nat.add_assoc, gcSt, keepOk, finG, resV, resOne, resAll, idx, V.ren, V.renL, Obj.ren, get_cons, get_nil, RTree, RTup, RRow]

theorem rAppendUint_sc (l : List Int) (tight : Bool) (v : Int) (hv : -2 ^ 63 ≤ v ∧ v < 2 ^ 63) (hl : l.length ≤ 2 ^ 40) :
    SCall PP N.debuggerref01_AppendUint [.t (.lst 1 tight (B l)), .t (.int .i64 v)] [] (RRow 1 (B (if v < 0 then l else l ++ groups v.toNat))) := by
  refine debuggerref01_AppendUint.intro (by simp) ?_
  simp (maxSteps := 4000000) -implicitDefEqProofs (disch := omega) only [B_length, ↓sxPre, sxPost, sxLib, if_true, if_false, Nat.reduceEqDiff, ↓reduceIte, Nat.reduceAdd, Nat.reduceSub, Nat.reduceMul, Nat.reduceLT, Nat.reduceLeDiff, reduceCtorEq, eq_self, K.isEff, List.reduceReplicate]
  refine condV_dec (fun h => ?_) fun h => ?_
  · rw [if_pos h]
    refine ⟨by omega, finK_gc [0] ?_⟩
    simp [B, gcSt, keepOk, finG, resV, resOne, resAll, idx, V.ren, V.renL, Obj.ren, get_cons, get_nil, RTree, RTup, RRow]
  · rw [if_neg h, wu64_i64 (by omega) hv.2]
    refine step_row (group_sc l tight v.toNat (by omega) hl) (B_flat _) fun g => ?_
    simp (maxSteps := 4000000) -implicitDefEqProofs (disch := omega) only [B_length, ↓sxPre, sxPost, sxLib, if_true, if_false, Nat.reduceEqDiff, ↓reduceIte, Nat.reduceAdd, Nat.reduceSub, Nat.reduceMul, Nat.reduceLT, Nat.reduceLeDiff, reduceCtorEq, eq_self, K.isEff, List.reduceReplicate]
    refine finK_gc [0] ?_
    simp [B_length, gcSt, keepOk, finG, resV, resOne, resAll, idx, V.ren, V.renL, Obj.ren, get_cons, get_nil, RTree, RTup, RRow]

theorem number_sc (last : Nat) (mx : Int) (hlim : Lim last mx) (most : Int) (hmost : most = last + 1)
    (l : List Int) (hb : Bytes l) (hl : l.length ≤ 2 ^ 40) (tight : Bool) (at_ : Int) (ha : -2 ^ 63 ≤ at_ ∧ at_ < 2 ^ 63) :
    SCall PP N.debuggerref01_number [.t (.lst 1 tight (B l)), .t (.int .i64 at_), .t (.int .i64 most), .t (.int .u8 mx)] [] (RTup (trip (readAt last mx l at_))) := by
  refine debuggerref01_number.intro (by simp) ?_
  by_cases h1 : at_ < 0
  · simp (maxSteps := 4000000) -implicitDefEqProofs (disch := omega) only [h1, ↓sxPre, sxPost, sxLib, if_true, if_false, Nat.reduceEqDiff, ↓reduceIte, Nat.reduceAdd, Nat.reduceSub, Nat.reduceMul, Nat.reduceLT, Nat.reduceLeDiff, reduceCtorEq, eq_self, K.isEff, List.reduceReplicate]
    refine finK_gc [] ?_
    simp [readAt, trip, h1, gcSt, keepOk, finG, resV, resOne, resAll, idx, V.ren, V.renL, Obj.ren, get_cons, get_nil, RTree, RTup, RRow]
  by_cases h2 : (l.length : Int) < at_
  · simp (maxSteps := 4000000) -implicitDefEqProofs (disch := omega) only [h1, h2, B_length, ↓sxPre, sxPost, sxLib, if_true, if_false, Nat.reduceEqDiff, ↓reduceIte, Nat.reduceAdd, Nat.reduceSub, Nat.reduceMul, Nat.reduceLT, Nat.reduceLeDiff, reduceCtorEq, eq_self, K.isEff, List.reduceReplicate]
    refine finK_gc [] ?_
    simp [readAt, trip, h1, h2, gcSt, keepOk, finG, resV, resOne, resAll, idx, V.ren, V.renL, Obj.ren, get_cons, get_nil, RTree, RTup, RRow]
  simp (maxSteps := 4000000) -implicitDefEqProofs (disch := omega) only [h1, h2, B_length, ↓sxPre, sxPost, sxLib, if_true, if_false, Nat.reduceEqDiff, ↓reduceIte, Nat.reduceAdd, Nat.reduceSub, Nat.reduceMul, Nat.reduceLT, Nat.reduceLeDiff, reduceCtorEq, eq_self, K.isEff, List.reduceReplicate]
  have hmo : 1 ≤ most ∧ most ≤ 10 := by rcases hlim with h | h <;> omega
  generalize hr : l.drop at_.toNat = r
  have hrl : r.length = l.length - at_.toNat := by rw [← hr]; simp
  have hrb : ∀ x ∈ r, 0 ≤ x ∧ x < 256 := fun x hx => hb x (List.mem_of_mem_drop (hr ▸ hx))
  refine wpC_loop_gc [0, 1, 2, 3, 11, 12] [] (fun m s => ∃ (i v : Nat), m + i = r.length ∧ i ≤ last ∧ v < 128 ^ i ∧ readG last mx (r.drop i) i v = readG last mx r 0 0 ∧
      s = ⟨[(0, .t (.lst 1 tight (B l))), (1, .t (.int .i64 at_)), (2, .t (.int .i64 most)), (3, .t (.int .u8 mx)), (11, .t (.int .u64 v)), (12, .t (.int .i64 i))], []⟩) r.length
    ⟨by simp [gcSt, keepOk, finG, resV, resOne, resAll, idx, V.ren, V.renL, Obj.ren, get_cons, get_nil, RTree, RTup, RRow], 0, 0, by omega, by omega, by decide, by simp, by simp [B, gcSt, keepOk, finG, resV, resOne, resAll, idx, V.ren, V.renL, Obj.ren, get_cons, get_nil, RTree, RTup, RRow]⟩ ?_
  rintro m s ⟨i, v, hm, hi, hv, hread, rfl⟩
  have hi9 : i ≤ 9 := by rcases hlim with h | h <;> omega
  by_cases hir : i < r.length
  · have hbi := hrb r[i] (List.getElem_mem _)
    rw [List.drop_eq_getElem_cons hir] at hread
    simp only [readG] at hread
    have hir' : ¬ ((l.length : Int) ≤ at_ + i) := by omega
    have hidx : (at_ + i).toNat < l.length := by omega
    have hc' : l[(at_ + i).toNat] = r[i] := by
      subst hr
      rw [List.getElem_drop]
      congr 1
      omega
    generalize hc : r[i] = c at *
    have hlt : (at_ + (i : Int)) < l.length := by omega
    by_cases ht : i = last ∧ mx < c
    · rw [if_pos ht] at hread
      have e1 : decide ((i : Int) = most - 1) = true := decide_eq_true (by omega)
      have e2 : decide (mx < c) = true := decide_eq_true ht.2
      simp (maxSteps := 4000000) -implicitDefEqProofs (disch := omega) only [hir', B_length, at_B hidx, hc', at_zero, e1, e2, ↓sxPre, sxPost, sxLib, if_true, if_false, Nat.reduceEqDiff, ↓reduceIte, Nat.reduceAdd, Nat.reduceSub, Nat.reduceMul, Nat.reduceLT, Nat.reduceLeDiff, reduceCtorEq, eq_self, K.isEff, List.reduceReplicate]
      refine ⟨by omega, finK_gc [] ?_⟩
      simp [readAt, trip, h1, h2, hr, ← hread, gcSt, keepOk, finG, resV, resOne, resAll, idx, V.ren, V.renL, Obj.ren, get_cons, get_nil, RTree, RTup, RRow]
    rw [if_neg ht] at hread
    have e : (decide ((i : Int) = most - 1) = true ∧ decide (mx < c) = false) ∨ (decide ((i : Int) = most - 1) = false ∧ True) := by
      by_cases h : i = last
      · exact .inl ⟨decide_eq_true (by omega), decide_eq_false fun h' => ht ⟨h, h'⟩⟩
      · exact .inr ⟨decide_eq_false (by omega), trivial⟩
    by_cases hz : c = 0 ∧ 0 < i
    · rw [if_pos hz] at hread
      have hzb : decide (c = 0) = true := decide_eq_true hz.1
      have hpb : decide ((0 : Int) < i) = true := decide_eq_true (by omega)
      rcases e with ⟨e1, e2⟩ | ⟨e1, e2⟩
      all_goals
        simp (maxSteps := 4000000) -implicitDefEqProofs (disch := omega) only [hir', B_length, at_B hidx, hc', at_zero, e1, e2, hzb, hpb, ↓sxPre, sxPost, sxLib, if_true, if_false, Nat.reduceEqDiff, ↓reduceIte, Nat.reduceAdd, Nat.reduceSub, Nat.reduceMul, Nat.reduceLT, Nat.reduceLeDiff, reduceCtorEq, eq_self, K.isEff, List.reduceReplicate]
        refine ⟨by omega, finK_gc [] ?_⟩
        simp [readAt, trip, h1, h2, hr, ← hread, gcSt, keepOk, finG, resV, resOne, resAll, idx, V.ren, V.renL, Obj.ren, get_cons, get_nil, RTree, RTup, RRow]
    rw [if_neg hz] at hread
    have hx : (c % 128).toNat < 128 := by omega
    have h9 : i = 9 → (c % 128).toNat ≤ 1 := by
      intro h
      rcases hlim with h' | h'
      · omega
      · have : ¬ mx < c := fun h'' => ht ⟨by omega, h''⟩
        omega
    have hor : Abs.bits BinOp.or IntKind.u64 (v : Int) (IntKind.u64.wrap (((c % 128).toNat : Int) * 2 ^ min (7 * (i : Int)).toNat IntKind.u64.bits)) = ((v + (c % 128).toNat * 128 ^ i : Nat) : Int) := or_add hi9 hv hx h9
    have hand : IntKind.u64.wrap (c.tmod 128) = ((c % 128).toNat : Int) := by rw [Int.tmod_eq_emod_of_nonneg hbi.1, wu64 (by omega)]; omega
    have hps := pow_step hv hx
    have hcase : (decide (c = 0) = true ∧ decide ((0 : Int) < i) = false) ∨ (decide (c = 0) = false ∧ True) := by
      by_cases h : c = 0
      · exact .inl ⟨decide_eq_true h, decide_eq_false fun h' => hz ⟨h, by omega⟩⟩
      · exact .inr ⟨decide_eq_false h, trivial⟩
    rcases hcase with ⟨hzb, hpb⟩ | ⟨hzb, hpb⟩ <;> rcases e with ⟨e1, e2⟩ | ⟨e1, e2⟩
    all_goals
      simp (maxSteps := 4000000) -implicitDefEqProofs (disch := omega) only [hir', B_length, at_B hidx, hc', at_zero, e1, e2, hzb, hpb, hand, hor, ↓sxPre, sxPost, sxLib, if_true, if_false, Nat.reduceEqDiff, ↓reduceIte, Nat.reduceAdd, Nat.reduceSub, Nat.reduceMul, Nat.reduceLT, Nat.reduceLeDiff, reduceCtorEq, eq_self, K.isEff, List.reduceReplicate]
      refine ⟨by omega, by decide, by omega, condV_dec (fun hlast => ?_) fun hlast => ?_⟩
      · rw [if_pos hlast] at hread
        refine finK_gc [] ?_
        simp [readAt, trip, h1, h2, hr, ← hread, gcSt, keepOk, finG, resV, resOne, resAll, idx, V.ren, V.renL, Obj.ren, get_cons, get_nil, RTree, RTup, RRow]
        omega
      · rw [if_neg hlast] at hread
        refine ⟨m - 1, by omega, by simp [gcSt, keepOk, finG, resV, resOne, resAll, idx, V.ren, V.renL, Obj.ren, get_cons, get_nil, RTree, RTup, RRow], i + 1, _, by omega, ?_, hps, hread, ?_⟩
        · rcases hlim with h' | h' <;> (have : ¬ (i = last) := fun h => ht ⟨h, by omega⟩) <;> omega
        · simp [gcSt, keepOk, finG, resV, resOne, resAll, idx, V.ren, V.renL, Obj.ren, get_cons, get_nil, RTree, RTup, RRow]
  · have hir' : (l.length : Int) ≤ at_ + i := by omega
    rw [List.drop_eq_nil_of_le (by omega)] at hread
    simp only [readG] at hread
    simp (maxSteps := 4000000) -implicitDefEqProofs (disch := omega) only [hir', B_length, ↓sxPre, sxPost, sxLib, if_true, if_false, Nat.reduceEqDiff, ↓reduceIte, Nat.reduceAdd, Nat.reduceSub, Nat.reduceMul, Nat.reduceLT, Nat.reduceLeDiff, reduceCtorEq, eq_self, K.isEff, List.reduceReplicate]
    refine finK_gc [] ?_
    simp [readAt, trip, h1, h2, hr, ← hread, gcSt, keepOk, finG, resV, resOne, resAll, idx, V.ren, V.renL, Obj.ren, get_cons, get_nil, RTree, RTup, RRow]

theorem rUint_sc (l : List Int) (hb : Bytes l) (hl : l.length ≤ 2 ^ 40) (tight : Bool) (at_ : Int) (ha : -2 ^ 63 ≤ at_ ∧ at_ < 2 ^ 63) :
    SCall PP N.debuggerref01_Uint [.t (.lst 1 tight (B l)), .t (.int .i64 at_)] [] (RTup (uintAt l at_)) := by
  refine debuggerref01_Uint.intro (by simp) ?_
  simp (maxSteps := 4000000) -implicitDefEqProofs (disch := omega) only [↓sxPre, sxPost, sxLib, if_true, if_false, Nat.reduceEqDiff, ↓reduceIte, Nat.reduceAdd, Nat.reduceSub, Nat.reduceMul, Nat.reduceLT, Nat.reduceLeDiff, reduceCtorEq, eq_self, K.isEff, List.reduceReplicate]
  refine step_tup (number_sc 8 127 (.inl ⟨rfl, rfl⟩) 9 rfl l hb hl tight at_ ha) rfl ?_
  have hv : (readAt 8 127 l at_).1 < (127 + 1) * 128 ^ 8 := (readAt_bounds (last := 8) (mx := 127) (by decide) hb (at_ := at_)).1
  have hw := wi64_nat (Nat.lt_of_lt_of_le hv (by decide))
  simp (maxSteps := 4000000) -implicitDefEqProofs (disch := omega) only [trip, hw, List.getD_cons_zero, List.getD_cons_succ, ↓sxPre, sxPost, sxLib, if_true, if_false, Nat.reduceEqDiff, ↓reduceIte, Nat.reduceAdd, Nat.reduceSub, Nat.reduceMul, Nat.reduceLT, Nat.reduceLeDiff, reduceCtorEq, eq_self, K.isEff, List.reduceReplicate]
  refine finK_gc [] ?_
  simp [uintAt, gcSt, keepOk, finG, resV, resOne, resAll, idx, V.ren, V.renL, Obj.ren, get_cons, get_nil, RTree, RTup, RRow]

end Go.Proofs.Ytbpclinijbgchaa
