/- MessageReplies: what the law returns. By the session itself. -/
import Derived.Test.YtljjabccgbakgaaMsg18
namespace Go.Proofs.Ytljjabccgbakgaa
open Go Go.Abs
set_option maxRecDepth 100000
set_option maxHeartbeats 4000000
set_option linter.unusedSimpArgs false
set_option linter.unusedVariables false

theorem encs_bytes : ∀ l : List Th, Bytes (encs l)
  | [] => fun x hx => by cases hx
  | q :: l => by
    have h1 : Bytes q.enc := (enI_bytes _).append (enI_bytes _)
    have := h1.append (encs_bytes l)
    simpa [encs] using this
theorem Rp.enc_bytes (R : Rp) : Bytes R.enc := ((((Bytes.groups _).append (enI_bytes _)).append (Bytes.groups _)).append (encs_bytes _)).append (enI_bytes _) |>.append (enI_bytes _)

theorem MessageReplies_main (R : Rp) (cs : List T) (hR : R.Ok) (hA : R.At cs) (which : Int) (hw : I64 which) : SCall PP N.debuggerlaw36_MessageReplies [.t (.agg cs), .t (.int .i64 which)] [] (RTree (.bool true)) := by
  refine debuggerlaw36_MessageReplies.intro (by simp) ?_
  have cSm := small_sc R cs hR hA
  obtain ⟨f1, f2, f3, f4, f5, f6⟩ := hA.facts hR.slen
  have hvw : ∀ (H : Heap) (l : List T), viewL H (l.map V.t) = l.map V.t := by
    intro H l
    rw [viewL_eq, List.map_map]
    rfl
  by_cases hsm : R.Small
  case neg =>
    rw [decide_eq_false hsm] at cSm
    simp (maxSteps := 4000000) -implicitDefEqProofs (disch := omega) only [f1, f2, f3, f4, ↓sxPre, sxPost, sxLib, if_true, if_false, Nat.reduceEqDiff, ↓reduceIte, Nat.reduceAdd, Nat.reduceSub, Nat.reduceMul, Nat.reduceLT, Nat.reduceLeDiff, reduceCtorEq, eq_self, K.isEff, List.reduceReplicate]
    refine step_tree (x := .bool false) ?_ rfl ?_
    · simpa [Abs.view, Abs.get, ev, hvw] using cSm
    simp (maxSteps := 4000000) -implicitDefEqProofs (disch := omega) only [↓sxPre, sxPost, sxLib, if_true, if_false, Nat.reduceEqDiff, ↓reduceIte, Nat.reduceAdd, Nat.reduceSub, Nat.reduceMul, Nat.reduceLT, Nat.reduceLeDiff, reduceCtorEq, eq_self, K.isEff, List.reduceReplicate]
    refine step_tree awake36_sc rfl ?_
    simp (maxSteps := 4000000) -implicitDefEqProofs (disch := omega) only [↓sxPre, sxPost, sxLib, if_true, if_false, Nat.reduceEqDiff, ↓reduceIte, Nat.reduceAdd, Nat.reduceSub, Nat.reduceMul, Nat.reduceLT, Nat.reduceLeDiff, reduceCtorEq, eq_self, K.isEff, List.reduceReplicate]
    refine finK_gc [] ?_
    simp [gcSt, keepOk, finG, resV, resOne, resAll, idx, V.ren, V.renL, Obj.ren, get_cons, get_nil, RTree, RTup, RRow]
  rw [decide_eq_true hsm] at cSm
  have cN := nearT_sc R cs hR hA hsm which hw
  simp (maxSteps := 4000000) -implicitDefEqProofs (disch := omega) only [f1, f2, f3, f4, ↓sxPre, sxPost, sxLib, if_true, if_false, Nat.reduceEqDiff, ↓reduceIte, Nat.reduceAdd, Nat.reduceSub, Nat.reduceMul, Nat.reduceLT, Nat.reduceLeDiff, reduceCtorEq, eq_self, K.isEff, List.reduceReplicate]
  refine step_tree (x := .bool true) ?_ rfl ?_
  · simpa [Abs.view, Abs.get, ev, hvw] using cSm
  simp (maxSteps := 4000000) -implicitDefEqProofs (disch := omega) only [f1, f2, f3, f4, ↓sxPre, sxPost, sxLib, if_true, if_false, Nat.reduceEqDiff, ↓reduceIte, Nat.reduceAdd, Nat.reduceSub, Nat.reduceMul, Nat.reduceLT, Nat.reduceLeDiff, reduceCtorEq, eq_self, K.isEff, List.reduceReplicate]
  refine step_eff (step_nearT (R := R) (which := which) ?_ fun cs2 hA2 => ?_)
  · simpa [V.ren, renL_t, Abs.get, ev] using cN
  have hok2 := Rp.near_ok hR which
  obtain ⟨e1, e2, e3, e4, e5, e6⟩ := hA2.facts hok2.slen
  obtain ⟨L, hL⟩ : ∃ L, L = [T.agg cs, T.agg cs2] := ⟨_, rfl⟩
  have hLs : setElems (List.replicate 2 (T.agg [.int .i64 0, .lst 0 true [], .lst 0 true [], .lst 0 true [], .int .i64 0, .int .i64 0, .int .i64 0, .int .i64 0, .int .i64 0, .int .i64 0, .int .i64 0])) [0, 1] [.agg cs, .agg cs2] = L := by rw [hL]; rfl
  have hLat : ∀ i, i < 2 → ∃ (q : Rp) (c : List T), q.Ok ∧ q.At c ∧ T.at L i = .agg c ∧ q.words.length < 2 ^ 62 ∧ q.ths.length < 2 ^ 62 ∧ (∀ h ∈ q.ths, h.args.length < 2 ^ 62) ∧ q.out.length < 2 ^ 62 := by
    intro i hi
    obtain ⟨b1, b2, b3, b4⟩ := hsm
    subst hL
    match i, hi with
    | 0, _ => exact ⟨R, cs, hR, hA, rfl, by omega, by omega, fun h hh => by have := b4 h hh; omega, by omega⟩
    | 1, _ =>
      refine ⟨R.near which, cs2, hok2, hA2, rfl, ?_, ?_, fun h hh => ?_, ?_⟩
      · simp only [Rp.near]; split
        · rw [List.length_replicate]; omega
        · omega
      · simp only [Rp.near, List.length_take]; omega
      · obtain ⟨h', hh', rfl⟩ := List.mem_map.1 (List.mem_of_mem_take hh)
        simp only [Th.cut, List.length_take]; omega
      · simp only [Rp.near]; split
        · rw [List.length_replicate]; omega
        · omega
  have hLl : L.length = 2 := by rw [hL]; rfl
  have htt : ∀ (H : Heap) (l : List T), toTs H (l.map V.t) = some (l, H) := by
    intro H l
    have := toTs_ts (H := H) (toTs_nil (H := H)) l
    simpa using this
  simp (maxSteps := 4000000) -implicitDefEqProofs (disch := omega) only [f1, f2, f3, f4, f5, e1, e2, e3, e4, e5, keff_buildSlice, toElems_cons, toElems_nil, toElem_t, toElem_agg, htt, ↓hLs, ↓sxPre, sxPost, sxLib, if_true, if_false, Nat.reduceEqDiff, ↓reduceIte, Nat.reduceAdd, Nat.reduceSub, Nat.reduceMul, Nat.reduceLT, Nat.reduceLeDiff, reduceCtorEq, eq_self, K.isEff, List.reduceReplicate]
  clear hLs hL e1 e2 e3 e4 e5 e6 f1 f2 f3 f4 f5 f6 cN cSm
  refine wpC_loop_gc [21, 22, 23] [] (fun m s => ∃ i : Nat, m + i = 2 ∧ s = ⟨[(21, .t (.lst 11 true L)), (22, .t (.int .i64 2)), (23, .t (.int .i64 i))], []⟩) 2
    ⟨by simp [gcSt, keepOk, finG, resV, resOne, resAll, idx, V.ren, V.renL, Obj.ren, get_cons, get_nil, RTree, RTup, RRow], 0, by omega, by simp [hLl, gcSt, keepOk, finG, resV, resOne, resAll, idx, V.ren, V.renL, Obj.ren, get_cons, get_nil, RTree, RTup, RRow]⟩ ?_
  rintro m s ⟨i, hm, rfl⟩
  by_cases hi : i < 2
  case neg =>
    have hi' : ¬ (i : Int) < 2 := by omega
    simp (maxSteps := 4000000) -implicitDefEqProofs (disch := omega) only [hi', ↓sxPre, sxPost, sxLib, if_true, if_false, Nat.reduceEqDiff, ↓reduceIte, Nat.reduceAdd, Nat.reduceSub, Nat.reduceMul, Nat.reduceLT, Nat.reduceLeDiff, reduceCtorEq, eq_self, K.isEff, List.reduceReplicate]
    refine step_tree awake36_sc rfl ?_
    simp (maxSteps := 4000000) -implicitDefEqProofs (disch := omega) only [↓sxPre, sxPost, sxLib, if_true, if_false, Nat.reduceEqDiff, ↓reduceIte, Nat.reduceAdd, Nat.reduceSub, Nat.reduceMul, Nat.reduceLT, Nat.reduceLeDiff, reduceCtorEq, eq_self, K.isEff, List.reduceReplicate]
    refine finK_gc [] ?_
    simp [gcSt, keepOk, finG, resV, resOne, resAll, idx, V.ren, V.renL, Obj.ren, get_cons, get_nil, RTree, RTup, RRow]
  have hi' : (i : Int) < 2 := by omega
  obtain ⟨q, c, hq, hqA, hat, hl1, hl2, hl3, hl4⟩ := hLat i hi
  have hiL : (i : Int) < L.length := by omega
  obtain ⟨f1, f2, f3, f4, f5, f6⟩ := hqA.facts hq.slen
  have cE := EncodeReply_sc q c hq hqA
  have cE2 := rEncodeReply_sc q c hq hqA
  by_cases hfit : q.Fit
  · have cE' : SCall PP N.message_EncodeReply _ [] (REnc q.enc) := cE.mono fun r H h => by simpa [REncR, hfit] using h
    have cE2' : SCall PP N.debuggerref36_EncodeReply _ [] (REnc q.enc) := cE2.mono fun r H h => by simpa [REncR, hfit] using h
    have hb := B_isByte q.enc_bytes
    have hlen := (Rp.enc_len hq hfit).2
    have cD := DecodeReply_sc q.enc q.enc_bytes (by omega)
    rw [decR_enc hq hfit] at cD
    generalize q.enc = E at *
    simp (maxSteps := 4000000) -implicitDefEqProofs (disch := omega) only [hi', hiL, hat, Int.toNat_natCast, f1, f2, f3, f4, f6, ↓sxPre, sxPost, sxLib, if_true, if_false, Nat.reduceEqDiff, ↓reduceIte, Nat.reduceAdd, Nat.reduceSub, Nat.reduceMul, Nat.reduceLT, Nat.reduceLeDiff, reduceCtorEq, eq_self, K.isEff, List.reduceReplicate]
    refine ⟨by omega, step_enc (ys := E) ?_ fun g => ?_⟩
    · simpa [Abs.view, Abs.get, ev, hvw] using cE'
    simp (maxSteps := 4000000) -implicitDefEqProofs (disch := omega) only [f1, f2, f3, f4, B_length, ↓sxPre, sxPost, sxLib, if_true, if_false, Nat.reduceEqDiff, ↓reduceIte, Nat.reduceAdd, Nat.reduceSub, Nat.reduceMul, Nat.reduceLT, Nat.reduceLeDiff, reduceCtorEq, eq_self, K.isEff, List.reduceReplicate]
    refine step_enc (ys := E) ?_ fun g2 => ?_
    · simpa [Abs.view, Abs.get, ev, hvw] using cE2'
    simp (maxSteps := 4000000) -implicitDefEqProofs (disch := omega) only [B_length, ktoStr, elems_sl, B_all, hb, ↓sxPre, sxPost, sxLib, if_true, if_false, Nat.reduceEqDiff, ↓reduceIte, Nat.reduceAdd, Nat.reduceSub, Nat.reduceMul, Nat.reduceLT, Nat.reduceLeDiff, reduceCtorEq, eq_self, K.isEff, List.reduceReplicate]
    refine step_decR (D := (q, 0)) (E := E) (id := 2) (g := g2) rfl rfl cD fun cs3 hA3 => ?_
    obtain ⟨k1, k2, k3, k4, k5, k6⟩ := hA3.facts hq.slen
    have cS := SameReply_sc q q c cs3 hqA hA3 hq hq hl1 hl2 hl3 hl4
    rw [decide_eq_true rfl] at cS
    simp (maxSteps := 4000000) -implicitDefEqProofs (disch := omega) only [f1, f2, f3, f4, k1, k2, k3, k4, k6, ↓sxPre, sxPost, sxLib, if_true, if_false, Nat.reduceEqDiff, ↓reduceIte, Nat.reduceAdd, Nat.reduceSub, Nat.reduceMul, Nat.reduceLT, Nat.reduceLeDiff, reduceCtorEq, eq_self, K.isEff, List.reduceReplicate]
    refine step_guard rfl (fun _ => step_tree (x := .bool true) ?_ rfl ?_) (fun h => absurd rfl h)
    · simpa [Abs.view, Abs.get, ev, hvw] using cS
    simp (maxSteps := 4000000) -implicitDefEqProofs (disch := omega) only [↓sxPre, sxPost, sxLib, if_true, if_false, Nat.reduceEqDiff, ↓reduceIte, Nat.reduceAdd, Nat.reduceSub, Nat.reduceMul, Nat.reduceLT, Nat.reduceLeDiff, reduceCtorEq, eq_self, K.isEff, List.reduceReplicate]
    refine ⟨m - 1, by omega, by simp [gcSt, keepOk, finG, resV, resOne, resAll, idx, V.ren, V.renL, Obj.ren, get_cons, get_nil, RTree, RTup, RRow], i + 1, by omega, by simp [gcSt, keepOk, finG, resV, resOne, resAll, idx, V.ren, V.renL, Obj.ren, get_cons, get_nil, RTree, RTup, RRow]⟩
  · have cE' : SCall PP N.message_EncodeReply _ [] (RTup [.lst 0 true [], .int .i64 5]) := cE.mono fun r H h => by simpa only [REncR, if_neg hfit] using h
    have cE2' : SCall PP N.debuggerref36_EncodeReply _ [] (RTup [.lst 0 true [], .int .i64 5]) := cE2.mono fun r H h => by simpa only [REncR, if_neg hfit] using h
    have d5 : decide ((5 : Int) = 0) = false := by decide
    simp (maxSteps := 4000000) -implicitDefEqProofs (disch := omega) only [hi', hiL, hat, Int.toNat_natCast, f1, f2, f3, f4, f6, ↓sxPre, sxPost, sxLib, if_true, if_false, Nat.reduceEqDiff, ↓reduceIte, Nat.reduceAdd, Nat.reduceSub, Nat.reduceMul, Nat.reduceLT, Nat.reduceLeDiff, reduceCtorEq, eq_self, K.isEff, List.reduceReplicate]
    refine ⟨by omega, step_tup (ys := [.lst 0 true [], .int .i64 5]) ?_ rfl ?_⟩
    · simpa [Abs.view, Abs.get, ev, hvw] using cE'
    simp (maxSteps := 4000000) -implicitDefEqProofs (disch := omega) only [f1, f2, f3, f4, B_length, ↓sxPre, sxPost, sxLib, if_true, if_false, Nat.reduceEqDiff, ↓reduceIte, Nat.reduceAdd, Nat.reduceSub, Nat.reduceMul, Nat.reduceLT, Nat.reduceLeDiff, reduceCtorEq, eq_self, K.isEff, List.reduceReplicate]
    refine step_tup (ys := [.lst 0 true [], .int .i64 5]) ?_ rfl ?_
    · simpa [Abs.view, Abs.get, ev, hvw] using cE2'
    simp (maxSteps := 4000000) -implicitDefEqProofs (disch := omega) only [B_length, ktoStr, elems_nil, d5, ↓sxPre, sxPost, sxLib, if_true, if_false, Nat.reduceEqDiff, ↓reduceIte, Nat.reduceAdd, Nat.reduceSub, Nat.reduceMul, Nat.reduceLT, Nat.reduceLeDiff, reduceCtorEq, eq_self, K.isEff, List.reduceReplicate]
    refine ⟨m - 1, by omega, by simp [gcSt, keepOk, finG, resV, resOne, resAll, idx, V.ren, V.renL, Obj.ren, get_cons, get_nil, RTree, RTup, RRow], i + 1, by omega, by simp [gcSt, keepOk, finG, resV, resOne, resAll, idx, V.ren, V.renL, Obj.ren, get_cons, get_nil, RTree, RTup, RRow]⟩

theorem MessageReplies_sc {W : World} {ts2 : List T} {cs2 : List Value} (h2 : Cells W rpSh ts2 cs2) (n : Int) (hn : -2 ^ 63 ≤ n ∧ n < 2 ^ 63) :
    SCall PP N.debuggerlaw36_MessageReplies [.t (.agg ts2), .t (.int .i64 n)] [] (RTree (.bool true)) := by
  obtain ⟨R, hR, rfl⟩ := Cells.rp h2
  exact MessageReplies_main R _ hR R.plain n hn
end Go.Proofs.Ytljjabccgbakgaa
