/- PacketCodes: what the law returns. By the session itself. -/
import Derived.Test.YtljjabccgbakgaaPack6
import Derived.Test.YtljjabccgbakgaaL2
namespace Go.Proofs.Ytljjabccgbakgaa
open Go Go.Abs
set_option maxRecDepth 100000
set_option maxHeartbeats 4000000
set_option linter.unusedSimpArgs false
set_option linter.unusedVariables false

theorem PacketCodes_main (p : Pk) (hp : p.Ok) (w : Int) : SCall PP N.debuggerlaw33_PacketCodes [.t (.agg (p.cells 1 false)), .t (.int .i64 w)] [] (RTree (.bool true)) := by
  refine debuggerlaw33_PacketCodes.intro (by simp) ?_
  have hbl : p.body.length < 2 ^ 63 := hp.2.2.2.2.2.2
  by_cases h1 : (7000 : Int) < p.body.length
  · obtain ⟨kind, src, dst, seq, ack, body⟩ := p
    have g1 : decide ((7000 : Int) < body.length) = true := decide_eq_true h1
    simp only [Pk.cells]
    simp (maxSteps := 4000000) -implicitDefEqProofs (disch := omega) only [B_length, g1, ↓sxPre, sxPost, sxLib, if_true, if_false, Nat.reduceEqDiff, ↓reduceIte, Nat.reduceAdd, Nat.reduceSub, Nat.reduceMul, Nat.reduceLT, Nat.reduceLeDiff, reduceCtorEq, eq_self, K.isEff, List.reduceReplicate]
    refine step_tree awake33_sc rfl ?_
    simp (maxSteps := 4000000) -implicitDefEqProofs (disch := omega) only [↓sxPre, sxPost, sxLib, if_true, if_false, Nat.reduceEqDiff, ↓reduceIte, Nat.reduceAdd, Nat.reduceSub, Nat.reduceMul, Nat.reduceLT, Nat.reduceLeDiff, reduceCtorEq, eq_self, K.isEff, List.reduceReplicate]
    refine finK_gc [] ?_
    simp [gcSt, keepOk, finG, resV, resOne, resAll, idx, V.ren, V.renL, Obj.ren, get_cons, get_nil, RTree, RTup, RRow]
  have n1 := near_sc p w 1 false (.inl rfl)
  have n2 := near_sc p 11 1 false (.inl rfl)
  have o1 := Pk.near_ok hp w
  have o2 := Pk.near_ok hp 11
  generalize p.near w = q1 at *
  generalize p.near 11 = q2 at *
  have hp' := hp
  obtain ⟨kind, src, dst, seq, ack, body⟩ := p
  have g1 : decide ((7000 : Int) < body.length) = false := decide_eq_false h1
  simp only [Pk.cells] at n1 n2 ⊢
  simp (maxSteps := 4000000) -implicitDefEqProofs (disch := omega) only [B_length, g1, ↓sxPre, sxPost, sxLib, if_true, if_false, Nat.reduceEqDiff, ↓reduceIte, Nat.reduceAdd, Nat.reduceSub, Nat.reduceMul, Nat.reduceLT, Nat.reduceLeDiff, reduceCtorEq, eq_self, K.isEff, List.reduceReplicate]
  refine step_eff (step_pk (q := q1) ?_ fun s1 t1 hs1 => ?_)
  · simpa [V.ren, V.renL, Abs.get, ev] using n1
  simp (maxSteps := 4000000) -implicitDefEqProofs (disch := omega) only [B_length, ↓sxPre, sxPost, sxLib, if_true, if_false, Nat.reduceEqDiff, ↓reduceIte, Nat.reduceAdd, Nat.reduceSub, Nat.reduceMul, Nat.reduceLT, Nat.reduceLeDiff, reduceCtorEq, eq_self, K.isEff, List.reduceReplicate]
  refine step_eff (step_pk (q := q2) ?_ fun s2 t2 hs2 => ?_)
  · simpa [V.ren, V.renL, Abs.get, ev] using n2
  simp only [Pk.cells]
  simp (maxSteps := 4000000) -implicitDefEqProofs (disch := omega) only [B_length, keff_buildSlice, toElems_cons, toElems_nil, toElem_t, toElem_agg, toTs_cons, toTs_nil, toT_t, setElems_cons, setElems_nil, ↓sxPre, sxPost, sxLib, if_true, if_false, Nat.reduceEqDiff, ↓reduceIte, Nat.reduceAdd, Nat.reduceSub, Nat.reduceMul, Nat.reduceLT, Nat.reduceLeDiff, reduceCtorEq, eq_self, K.isEff, List.reduceReplicate]
  obtain ⟨L, hL⟩ : ∃ L, L = [T.agg [T.int IntKind.i64 kind, T.int IntKind.i64 src, T.int IntKind.i64 dst, T.int IntKind.i64 seq, T.int IntKind.i64 ack, T.lst 1 false (B body)], T.agg (q1.cells s1 t1), T.agg (q2.cells s2 t2)] := ⟨_, rfl⟩
  have hLat : ∀ i, i < 3 → ∃ (q : Pk) (sz : Nat) (t : Bool), q.Ok ∧ (sz = 1 ∨ q.body = []) ∧ T.at L i = .agg (q.cells sz t) := by
    intro i hi
    subst hL
    match i, hi with
    | 0, _ => exact ⟨⟨kind, src, dst, seq, ack, body⟩, 1, false, hp', .inl rfl, rfl⟩
    | 1, _ => exact ⟨q1, s1, t1, o1, hs1, rfl⟩
    | 2, _ => exact ⟨q2, s2, t2, o2, hs2, rfl⟩
  have hLl : L.length = 3 := by rw [hL]; rfl
  simp only [Pk.cells] at hL
  rw [← hL]
  clear hL n1 n2
  refine wpC_loop_gc [24, 25, 26] [] (fun m s => ∃ i : Nat, m + i = 3 ∧ s = ⟨[(24, .t (.lst 6 true L)), (25, .t (.int .i64 3)), (26, .t (.int .i64 i))], []⟩) 3
    ⟨by simp [gcSt, keepOk, finG, resV, resOne, resAll, idx, V.ren, V.renL, Obj.ren, get_cons, get_nil, RTree, RTup, RRow], 0, by omega, by simp [gcSt, keepOk, finG, resV, resOne, resAll, idx, V.ren, V.renL, Obj.ren, get_cons, get_nil, RTree, RTup, RRow]⟩ ?_
  rintro m s ⟨i, hm, rfl⟩
  by_cases hi : i < 3
  · have hi' : (i : Int) < 3 := by omega
    obtain ⟨q, sz, t, hq, hsz, hat⟩ := hLat i hi
    have hqb : Bytes q.body := hq.2.2.2.2.2.1
    have cR := Right_sc q hq.2.2.2.2.2.2 sz t
    have cR2 := rRight_sc q hq.2.2.2.2.2.2 sz t
    have hiL : (i : Int) < L.length := by omega
    cases hr : q.right with
    | true =>
      have cE := Encode_sc q hq hr sz t hsz
      have cE2 := rEncode_sc q hq hr sz t hsz
      have hb := B_isByte (Pk.enc_bytes hqb)
      have hD := dec_enc hqb hr
      obtain ⟨l1, l2⟩ := Pk.head_len hr
      have hlen : q.enc.length = q.head.length + 2 := by simp [Pk.enc]
      have cD := Decode_sc q.enc (Pk.enc_bytes hqb) (by omega) false
      rw [hD] at cD
      rw [hr] at cR cR2
      generalize q.enc = E at *
      simp only [Pk.cells] at cE cE2 hat cR cR2
      have hE : ∀ x y : Bool, True := fun _ _ => trivial
      simp (maxSteps := 4000000) -implicitDefEqProofs (disch := omega) only [hi', hat, Int.toNat_natCast, kloadN_ip, kstore_ref, putAt_zero, ↓sxPre, sxPost, sxLib, if_true, if_false, Nat.reduceEqDiff, ↓reduceIte, Nat.reduceAdd, Nat.reduceSub, Nat.reduceMul, Nat.reduceLT, Nat.reduceLeDiff, reduceCtorEq, eq_self, K.isEff, List.reduceReplicate]
      refine ⟨by omega, step_enc (ys := E) ?_ fun g => ?_⟩
      · simpa [Abs.view, viewL, Abs.get, ev] using cE
      simp (maxSteps := 4000000) -implicitDefEqProofs (disch := omega) only [B_length, ↓sxPre, sxPost, sxLib, if_true, if_false, Nat.reduceEqDiff, ↓reduceIte, Nat.reduceAdd, Nat.reduceSub, Nat.reduceMul, Nat.reduceLT, Nat.reduceLeDiff, reduceCtorEq, eq_self, K.isEff, List.reduceReplicate]
      refine step_enc (ys := E) ?_ fun g2 => ?_
      · simpa [Abs.view, viewL, Abs.get, ev] using cE2
      simp (maxSteps := 4000000) -implicitDefEqProofs (disch := omega) only [B_length, ktoStr, elems_sl, B_all, hb, ↓sxPre, sxPost, sxLib, if_true, if_false, Nat.reduceEqDiff, ↓reduceIte, Nat.reduceAdd, Nat.reduceSub, Nat.reduceMul, Nat.reduceLT, Nat.reduceLeDiff, reduceCtorEq, eq_self, K.isEff, List.reduceReplicate]
      refine step_eff (step_guard rfl (fun _ => step_tree (x := .bool true) ?_ rfl ?_) (fun h => absurd rfl h))
      · simpa [Abs.view, viewL, Abs.get, ev] using cR
      simp (maxSteps := 4000000) -implicitDefEqProofs (disch := omega) only [B_length, ↓sxPre, sxPost, sxLib, if_true, if_false, Nat.reduceEqDiff, ↓reduceIte, Nat.reduceAdd, Nat.reduceSub, Nat.reduceMul, Nat.reduceLT, Nat.reduceLeDiff, reduceCtorEq, eq_self, K.isEff, List.reduceReplicate]
      refine step_eff (step_guard rfl (fun _ => step_tree (x := .bool true) ?_ rfl ?_) (fun h => absurd rfl h))
      · simpa [Abs.view, viewL, Abs.get, ev] using cR2
      simp (maxSteps := 4000000) -implicitDefEqProofs (disch := omega) only [B_length, ↓sxPre, sxPost, sxLib, if_true, if_false, Nat.reduceEqDiff, ↓reduceIte, Nat.reduceAdd, Nat.reduceSub, Nat.reduceMul, Nat.reduceLT, Nat.reduceLeDiff, reduceCtorEq, eq_self, K.isEff, List.reduceReplicate]
      refine step_dec (D := (q, 0)) ?_ (fun hq0 => ?_) (fun g3 => ?_)
      · simpa [Abs.view, viewL, rowOf, Abs.get, ev, B_all] using cD
      all_goals
        unfold Pk.vals
        simp (maxSteps := 4000000) -implicitDefEqProofs (disch := omega) only [B_length, kstore_ref, putAt_zero, ↓sxPre, sxPost, sxLib, if_true, if_false, Nat.reduceEqDiff, ↓reduceIte, Nat.reduceAdd, Nat.reduceSub, Nat.reduceMul, Nat.reduceLT, Nat.reduceLeDiff, reduceCtorEq, eq_self, K.isEff, List.reduceReplicate]
      · have hq0 : q.body = [] := hq0
        have cS := Same_sc q q hqb hqb sz 0 t true hsz (.inr hq0)
        rw [decide_eq_true rfl] at cS
        refine step_guard rfl (fun _ => step_tree (x := .bool true) ?_ rfl ?_) (fun h => absurd rfl h)
        · simpa [Abs.view, viewL, Abs.get, ev, Pk.cells, hq0, B] using cS
        simp (maxSteps := 4000000) -implicitDefEqProofs (disch := omega) only [B_length, ↓sxPre, sxPost, sxLib, if_true, if_false, Nat.reduceEqDiff, ↓reduceIte, Nat.reduceAdd, Nat.reduceSub, Nat.reduceMul, Nat.reduceLT, Nat.reduceLeDiff, reduceCtorEq, eq_self, K.isEff, List.reduceReplicate]
        refine ⟨m - 1, by omega, by simp [gcSt, keepOk, finG, resV, resOne, resAll, idx, V.ren, V.renL, Obj.ren, get_cons, get_nil, RTree, RTup, RRow], i + 1, by omega, by simp [gcSt, keepOk, finG, resV, resOne, resAll, idx, V.ren, V.renL, Obj.ren, get_cons, get_nil, RTree, RTup, RRow]⟩
      · have cS := Same_sc q q hqb hqb sz 1 t false hsz (.inl rfl)
        rw [decide_eq_true rfl] at cS
        refine step_guard rfl (fun _ => step_tree (x := .bool true) ?_ rfl ?_) (fun h => absurd rfl h)
        · simpa [Abs.view, viewL, rowOf, Abs.get, ev, Pk.cells, B_all] using cS
        simp (maxSteps := 4000000) -implicitDefEqProofs (disch := omega) only [B_length, ↓sxPre, sxPost, sxLib, if_true, if_false, Nat.reduceEqDiff, ↓reduceIte, Nat.reduceAdd, Nat.reduceSub, Nat.reduceMul, Nat.reduceLT, Nat.reduceLeDiff, reduceCtorEq, eq_self, K.isEff, List.reduceReplicate]
        refine ⟨m - 1, by omega, by simp [gcSt, keepOk, finG, resV, resOne, resAll, idx, V.ren, V.renL, Obj.ren, get_cons, get_nil, RTree, RTup, RRow], i + 1, by omega, by simp [gcSt, keepOk, finG, resV, resOne, resAll, idx, V.ren, V.renL, Obj.ren, get_cons, get_nil, RTree, RTup, RRow]⟩
    | false =>
      have cE := Encode_bad q hq hr sz t
      have cE2 := rEncode_bad q hq hr sz t
      rw [hr] at cR cR2
      simp only [Pk.cells] at cE cE2 hat cR cR2
      simp (maxSteps := 4000000) -implicitDefEqProofs (disch := omega) only [hi', hat, Int.toNat_natCast, kloadN_ip, kstore_ref, putAt_zero, ↓sxPre, sxPost, sxLib, if_true, if_false, Nat.reduceEqDiff, ↓reduceIte, Nat.reduceAdd, Nat.reduceSub, Nat.reduceMul, Nat.reduceLT, Nat.reduceLeDiff, reduceCtorEq, eq_self, K.isEff, List.reduceReplicate]
      refine ⟨by omega, step_tup (ys := [.lst 0 true [], .int .i64 1]) ?_ rfl ?_⟩
      · simpa [Abs.view, viewL, Abs.get, ev] using cE
      simp (maxSteps := 4000000) -implicitDefEqProofs (disch := omega) only [B_length, ↓sxPre, sxPost, sxLib, if_true, if_false, Nat.reduceEqDiff, ↓reduceIte, Nat.reduceAdd, Nat.reduceSub, Nat.reduceMul, Nat.reduceLT, Nat.reduceLeDiff, reduceCtorEq, eq_self, K.isEff, List.reduceReplicate]
      refine step_tup (ys := [.lst 0 true [], .int .i64 1]) ?_ rfl ?_
      · simpa [Abs.view, viewL, Abs.get, ev] using cE2
      simp (maxSteps := 4000000) -implicitDefEqProofs (disch := omega) only [B_length, ktoStr, elems_nil, ↓sxPre, sxPost, sxLib, if_true, if_false, Nat.reduceEqDiff, ↓reduceIte, Nat.reduceAdd, Nat.reduceSub, Nat.reduceMul, Nat.reduceLT, Nat.reduceLeDiff, reduceCtorEq, eq_self, K.isEff, List.reduceReplicate]
      refine step_eff (step_guard rfl (fun _ => step_tree (x := .bool false) ?_ rfl ?_) (fun h => absurd rfl h))
      · simpa [Abs.view, viewL, Abs.get, ev] using cR
      simp (maxSteps := 4000000) -implicitDefEqProofs (disch := omega) only [B_length, ↓sxPre, sxPost, sxLib, if_true, if_false, Nat.reduceEqDiff, ↓reduceIte, Nat.reduceAdd, Nat.reduceSub, Nat.reduceMul, Nat.reduceLT, Nat.reduceLeDiff, reduceCtorEq, eq_self, K.isEff, List.reduceReplicate]
      refine step_eff (step_guard rfl (fun _ => step_tree (x := .bool false) ?_ rfl ?_) (fun h => absurd rfl h))
      · simpa [Abs.view, viewL, Abs.get, ev] using cR2
      have d10 : decide ((1 : Int) = 0) = false := by decide
      simp (maxSteps := 4000000) -implicitDefEqProofs (disch := omega) only [B_length, d10, ↓sxPre, sxPost, sxLib, if_true, if_false, Nat.reduceEqDiff, ↓reduceIte, Nat.reduceAdd, Nat.reduceSub, Nat.reduceMul, Nat.reduceLT, Nat.reduceLeDiff, reduceCtorEq, eq_self, K.isEff, List.reduceReplicate]
      refine ⟨m - 1, by omega, by simp [gcSt, keepOk, finG, resV, resOne, resAll, idx, V.ren, V.renL, Obj.ren, get_cons, get_nil, RTree, RTup, RRow], i + 1, by omega, by simp [gcSt, keepOk, finG, resV, resOne, resAll, idx, V.ren, V.renL, Obj.ren, get_cons, get_nil, RTree, RTup, RRow]⟩
  · have hi' : ¬ (i : Int) < 3 := by omega
    simp (maxSteps := 4000000) -implicitDefEqProofs (disch := omega) only [hi', ↓sxPre, sxPost, sxLib, if_true, if_false, Nat.reduceEqDiff, ↓reduceIte, Nat.reduceAdd, Nat.reduceSub, Nat.reduceMul, Nat.reduceLT, Nat.reduceLeDiff, reduceCtorEq, eq_self, K.isEff, List.reduceReplicate]
    refine step_tree awake33_sc rfl ?_
    simp (maxSteps := 4000000) -implicitDefEqProofs (disch := omega) only [↓sxPre, sxPost, sxLib, if_true, if_false, Nat.reduceEqDiff, ↓reduceIte, Nat.reduceAdd, Nat.reduceSub, Nat.reduceMul, Nat.reduceLT, Nat.reduceLeDiff, reduceCtorEq, eq_self, K.isEff, List.reduceReplicate]
    refine finK_gc [] ?_
    simp [gcSt, keepOk, finG, resV, resOne, resAll, idx, V.ren, V.renL, Obj.ren, get_cons, get_nil, RTree, RTup, RRow]

/-- A packet that is handed to a law. -/
theorem Cells.pk {W : World} {ts : List T} {cs : List Value} (h : Cells W [.int .i64, .int .i64, .int .i64, .int .i64, .int .i64, .lst false [.int .u8]] ts cs) : ∃ p : Pk, p.Ok ∧ ts = p.cells 1 false := by
  obtain ⟨_, _, _, _, rfl, rfl, f1, _, h⟩ := h.head
  obtain ⟨_, _, _, _, rfl, rfl, f2, _, h⟩ := h.head
  obtain ⟨_, _, _, _, rfl, rfl, f3, _, h⟩ := h.head
  obtain ⟨_, _, _, _, rfl, rfl, f4, _, h⟩ := h.head
  obtain ⟨_, _, _, _, rfl, rfl, f5, _, h⟩ := h.head
  obtain ⟨_, _, _, _, rfl, rfl, f6, _, h⟩ := h.head
  obtain ⟨rfl, rfl⟩ := h.tail_nil
  obtain ⟨n1, rfl, w1⟩ := f1.int_inv
  obtain ⟨n2, rfl, w2⟩ := f2.int_inv
  obtain ⟨n3, rfl, w3⟩ := f3.int_inv
  obtain ⟨n4, rfl, w4⟩ := f4.int_inv
  obtain ⟨n5, rfl, w5⟩ := f5.int_inv
  obtain ⟨l, rfl, wl, hl⟩ := f6.ints_inv
  have hm : maxLen = 2 ^ 63 - 1 := rfl
  exact ⟨⟨n1, n2, n3, n4, n5, l⟩, ⟨i64_of w1, i64_of w2, i64_of w3, i64_of w4, i64_of w5, fun x hx => u8_of (wl x hx), by simp only; omega⟩, rfl⟩

theorem PacketCodes_sc {W : World} {ts : List T} {cs : List Value} (h : Cells W [.int .i64, .int .i64, .int .i64, .int .i64, .int .i64, .lst false [.int .u8]] ts cs) (w : Int) (hw : -2 ^ 63 ≤ w ∧ w < 2 ^ 63) :
    SCall PP N.debuggerlaw33_PacketCodes [.t (.agg ts), .t (.int .i64 w)] [] (RTree (.bool true)) := by
  obtain ⟨p, hp, rfl⟩ := Cells.pk h
  exact PacketCodes_main p hp w
end Go.Proofs.Ytljjabccgbakgaa
