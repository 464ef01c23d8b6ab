/- PacketOne: what the law returns. By the session itself. -/
import Derived.Test.YtljjabccgbakgaaPack7
import Derived.Test.YtljjabccgbakgaaCodes
namespace Go.Proofs.Ytljjabccgbakgaa
open Go Go.Abs
set_option maxRecDepth 100000
set_option maxHeartbeats 4000000
set_option linter.unusedSimpArgs false
set_option linter.unusedVariables false

theorem PacketOne_main (p q : Pk) (hp : p.Ok) (hq : q.Ok) (raw : List Int) (hraw : Bytes raw) (hl : raw.length ≤ 2 ^ 47) : SCall PP N.debuggerlaw33_PacketOne [.t (.agg (p.cells 1 false)), .t (.agg (q.cells 1 false)), .t (.lst 1 false (B raw))] [] (RTree (.bool true)) := by
  refine debuggerlaw33_PacketOne.intro (by simp) ?_
  have hb1 : p.body.length < 2 ^ 63 := hp.2.2.2.2.2.2
  have hb2 : q.body.length < 2 ^ 63 := hq.2.2.2.2.2.2
  by_cases h1 : (300 : Int) < p.body.length
  · have g1 : decide ((300 : Int) < p.body.length) = true := decide_eq_true h1
    simp only [Pk.cells]
    simp (maxSteps := 4000000) -implicitDefEqProofs (disch := omega) only [B_length, g1, ↓sxPre, sxPost, sxLib, if_true, if_false, Nat.reduceEqDiff, ↓reduceIte, Nat.reduceAdd, Nat.reduceSub, Nat.reduceMul, Nat.reduceLT, Nat.reduceLeDiff, reduceCtorEq, eq_self, K.isEff, List.reduceReplicate]
    refine step_tree awake33_sc rfl ?_
    simp (maxSteps := 4000000) -implicitDefEqProofs (disch := omega) only [↓sxPre, sxPost, sxLib, if_true, if_false, Nat.reduceEqDiff, ↓reduceIte, Nat.reduceAdd, Nat.reduceSub, Nat.reduceMul, Nat.reduceLT, Nat.reduceLeDiff, reduceCtorEq, eq_self, K.isEff, List.reduceReplicate]
    refine finK_gc [] ?_
    simp [gcSt, keepOk, finG, resV, resOne, resAll, idx, V.ren, V.renL, Obj.ren, get_cons, get_nil, RTree, RTup, RRow]
  have g1 : decide ((300 : Int) < p.body.length) = false := decide_eq_false h1
  by_cases h2 : (300 : Int) < q.body.length
  · have g2 : decide ((300 : Int) < q.body.length) = true := decide_eq_true h2
    simp only [Pk.cells]
    simp (maxSteps := 4000000) -implicitDefEqProofs (disch := omega) only [B_length, g1, g2, ↓sxPre, sxPost, sxLib, if_true, if_false, Nat.reduceEqDiff, ↓reduceIte, Nat.reduceAdd, Nat.reduceSub, Nat.reduceMul, Nat.reduceLT, Nat.reduceLeDiff, reduceCtorEq, eq_self, K.isEff, List.reduceReplicate]
    refine step_tree awake33_sc rfl ?_
    simp (maxSteps := 4000000) -implicitDefEqProofs (disch := omega) only [↓sxPre, sxPost, sxLib, if_true, if_false, Nat.reduceEqDiff, ↓reduceIte, Nat.reduceAdd, Nat.reduceSub, Nat.reduceMul, Nat.reduceLT, Nat.reduceLeDiff, reduceCtorEq, eq_self, K.isEff, List.reduceReplicate]
    refine finK_gc [] ?_
    simp [gcSt, keepOk, finG, resV, resOne, resAll, idx, V.ren, V.renL, Obj.ren, get_cons, get_nil, RTree, RTup, RRow]
  have g2 : decide ((300 : Int) < q.body.length) = false := decide_eq_false h2
  by_cases h3 : (500 : Int) < raw.length
  · have g3 : decide ((500 : Int) < raw.length) = true := decide_eq_true h3
    simp only [Pk.cells]
    simp (maxSteps := 4000000) -implicitDefEqProofs (disch := omega) only [B_length, g1, g2, g3, ↓sxPre, sxPost, sxLib, if_true, if_false, Nat.reduceEqDiff, ↓reduceIte, Nat.reduceAdd, Nat.reduceSub, Nat.reduceMul, Nat.reduceLT, Nat.reduceLeDiff, reduceCtorEq, eq_self, K.isEff, List.reduceReplicate]
    refine step_tree awake33_sc rfl ?_
    simp (maxSteps := 4000000) -implicitDefEqProofs (disch := omega) only [↓sxPre, sxPost, sxLib, if_true, if_false, Nat.reduceEqDiff, ↓reduceIte, Nat.reduceAdd, Nat.reduceSub, Nat.reduceMul, Nat.reduceLT, Nat.reduceLeDiff, reduceCtorEq, eq_self, K.isEff, List.reduceReplicate]
    refine finK_gc [] ?_
    simp [gcSt, keepOk, finG, resV, resOne, resAll, idx, V.ren, V.renL, Obj.ren, get_cons, get_nil, RTree, RTup, RRow]
  have g3 : decide ((500 : Int) < raw.length) = false := decide_eq_false h3
  have n1 := near_sc p 11 1 false (.inl rfl)
  have n2 := near_sc q 11 1 false (.inl rfl)
  have o1 := Pk.near_ok hp 11
  have o2 := Pk.near_ok hq 11
  have r1 := near11_right (p := p) (by omega)
  have r2 := near11_right (p := q) (by omega)
  generalize p.near 11 = p' at *
  generalize q.near 11 = q' at *
  simp only [Pk.cells] at n1 n2 ⊢
  have bp : Bytes p'.body := o1.2.2.2.2.2.1
  have bq : Bytes q'.body := o2.2.2.2.2.2.1
  simp (maxSteps := 4000000) -implicitDefEqProofs (disch := omega) only [B_length, g1, g2, g3, ↓sxPre, sxPost, sxLib, if_true, if_false, Nat.reduceEqDiff, ↓reduceIte, Nat.reduceAdd, Nat.reduceSub, Nat.reduceMul, Nat.reduceLT, Nat.reduceLeDiff, reduceCtorEq, eq_self, K.isEff, List.reduceReplicate]
  refine step_eff (step_pk (q := p') ?_ fun s1 t1 hs1 => ?_)
  · simpa [V.ren, V.renL, Abs.get, ev] using n1
  simp (maxSteps := 4000000) -implicitDefEqProofs (disch := omega) only [B_length, ↓sxPre, sxPost, sxLib, if_true, if_false, Nat.reduceEqDiff, ↓reduceIte, Nat.reduceAdd, Nat.reduceSub, Nat.reduceMul, Nat.reduceLT, Nat.reduceLeDiff, reduceCtorEq, eq_self, K.isEff, List.reduceReplicate]
  refine step_eff (step_pk (q := q') ?_ fun s2 t2 hs2 => ?_)
  · simpa [V.ren, V.renL, Abs.get, ev] using n2
  have cE := Encode_sc p' o1 r1 s1 t1 hs1
  have cE2 := Encode_sc q' o2 r2 s2 t2 hs2
  have cS := Same_sc p' q' bp bq s1 s2 t1 t2 hs1 hs2
  have be1 := B_isByte (Pk.enc_bytes bp)
  have be2 := B_isByte (Pk.enc_bytes bq)
  have hse : decide ((⟨(bytesOf (B p'.enc)).toArray⟩ : ByteArray) = ⟨(bytesOf (B q'.enc)).toArray⟩) = decide (p' = q') := by
    rw [str_eq (Pk.enc_bytes bp) (Pk.enc_bytes bq)]
    exact decide_eq_decide.2 ⟨enc_inj bp bq r1 r2, fun h => by rw [h]⟩
  generalize p'.enc = E1 at *
  generalize q'.enc = E2 at *
  simp only [Pk.cells] at cE cE2 cS ⊢
  simp (maxSteps := 4000000) -implicitDefEqProofs (disch := omega) only [B_length, kstore_ref, putAt_zero, ↓sxPre, sxPost, sxLib, if_true, if_false, Nat.reduceEqDiff, ↓reduceIte, Nat.reduceAdd, Nat.reduceSub, Nat.reduceMul, Nat.reduceLT, Nat.reduceLeDiff, reduceCtorEq, eq_self, K.isEff, List.reduceReplicate]
  refine step_enc (ys := E1) ?_ fun g => ?_
  · simpa [Abs.view, viewL, Abs.get, ev] using cE
  simp (maxSteps := 4000000) -implicitDefEqProofs (disch := omega) only [B_length, ↓sxPre, sxPost, sxLib, if_true, if_false, Nat.reduceEqDiff, ↓reduceIte, Nat.reduceAdd, Nat.reduceSub, Nat.reduceMul, Nat.reduceLT, Nat.reduceLeDiff, reduceCtorEq, eq_self, K.isEff, List.reduceReplicate]
  refine step_enc (ys := E2) ?_ fun g' => ?_
  · simpa [Abs.view, viewL, Abs.get, ev] using cE2
  simp (maxSteps := 4000000) -implicitDefEqProofs (disch := omega) only [B_length, ktoStr, elems_sl, B_all, be1, be2, hse, ↓sxPre, sxPost, sxLib, if_true, if_false, Nat.reduceEqDiff, ↓reduceIte, Nat.reduceAdd, Nat.reduceSub, Nat.reduceMul, Nat.reduceLT, Nat.reduceLeDiff, reduceCtorEq, eq_self, K.isEff, List.reduceReplicate]
  refine step_eff (step_guard rfl (fun _ => step_tree (x := .bool (decide (p' = q'))) ?_ rfl ?_) (fun h => absurd rfl h))
  · simpa [Abs.view, viewL, Abs.get, ev] using cS
  simp (maxSteps := 4000000) -implicitDefEqProofs (disch := omega) only [B_length, ktoStr, elems_sl, B_all, be1, be2, hse, ↓sxPre, sxPost, sxLib, if_true, if_false, Nat.reduceEqDiff, ↓reduceIte, Nat.reduceAdd, Nat.reduceSub, Nat.reduceMul, Nat.reduceLT, Nat.reduceLeDiff, reduceCtorEq, eq_self, K.isEff, List.reduceReplicate]
  have hc := crc_lt hraw
  have cSum := Sum_sc raw hraw hl false
  refine step_tree (x := .int .i64 (crc raw)) ?_ rfl ?_
  · simpa [Abs.view, viewL, Abs.get, ev] using cSum
  generalize crc raw = c at *
  have hc1 : IntKind.u8.wrap ((c / 256 : Nat) : Int) = ((c / 256 : Nat) : Int) := wu8 (by omega)
  have hc2 : IntKind.u8.wrap ((c % 256 : Nat) : Int) = ((c % 256 : Nat) : Int) := wu8 (by omega)
  obtain ⟨l, hl'⟩ : ∃ l, l = raw ++ [((c / 256 : Nat) : Int), ((c % 256 : Nat) : Int)] := ⟨_, rfl⟩
  have hlB : B raw ++ [T.int .u8 ((c / 256 : Nat) : Int), T.int .u8 ((c % 256 : Nat) : Int)] = B l := by rw [hl']; simp [B]
  have hlb : Bytes l := by rw [hl']; exact hraw.append (by intro x hx; simp at hx; omega)
  have hll : l.length = raw.length + 2 := by rw [hl']; simp
  simp (maxSteps := 4000000) -implicitDefEqProofs (disch := omega) only [quo256, rem256, hc1, hc2, B_length, keff_buildSlice, toElems_cons, toElems_nil, toElem_t, setElems_cons, setElems_nil, elems_lst', kappend_nil, hlB, ← hll, ↓sxPre, sxPost, sxLib, if_true, if_false, Nat.reduceEqDiff, ↓reduceIte, Nat.reduceAdd, Nat.reduceSub, Nat.reduceMul, Nat.reduceLT, Nat.reduceLeDiff, reduceCtorEq, eq_self, K.isEff, List.reduceReplicate]
  refine ⟨by omega, by decide, by decide, by omega, ?_⟩
  have cD := Decode_sc l hlb (by omega) false
  have bel := B_isByte hlb
  generalize hD : dec l = D at *
  obtain ⟨x, e⟩ := D
  refine step_dec (D := (x, e)) ?_ (fun hx0 => ?_) (fun g3 => ?_)
  · simpa [Abs.view, viewL, rowOf, Abs.get, ev, B_all] using cD
  all_goals unfold Pk.vals
  · have hx0 : x.body = [] := hx0
    simp (maxSteps := 4000000) -implicitDefEqProofs (disch := omega) only [B_length, kstore_ref, putAt_zero, ↓sxPre, sxPost, sxLib, if_true, if_false, Nat.reduceEqDiff, ↓reduceIte, Nat.reduceAdd, Nat.reduceSub, Nat.reduceMul, Nat.reduceLT, Nat.reduceLeDiff, reduceCtorEq, eq_self, K.isEff, List.reduceReplicate]
    refine condV_ndec (fun he => ?_) fun he => ?_
    · refine step_tree awake33_sc rfl ?_
      simp (maxSteps := 4000000) -implicitDefEqProofs (disch := omega) only [↓sxPre, sxPost, sxLib, if_true, if_false, Nat.reduceEqDiff, ↓reduceIte, Nat.reduceAdd, Nat.reduceSub, Nat.reduceMul, Nat.reduceLT, Nat.reduceLeDiff, reduceCtorEq, eq_self, K.isEff, List.reduceReplicate]
      refine finK_gc [] ?_
      simp [gcSt, keepOk, finG, resV, resOne, resAll, idx, V.ren, V.renL, Obj.ren, get_cons, get_nil, RTree, RTup, RRow]
    · subst he
      obtain ⟨x1, x2, x3⟩ := dec_canon hlb hD
      have cX := Encode_sc x x3 x2 0 true (.inr hx0)
      rw [x1] at cX
      simp only [Pk.cells] at cX
      simp (maxSteps := 4000000) -implicitDefEqProofs (disch := omega) only [B_length, kstore_ref, putAt_zero, ↓sxPre, sxPost, sxLib, if_true, if_false, Nat.reduceEqDiff, ↓reduceIte, Nat.reduceAdd, Nat.reduceSub, Nat.reduceMul, Nat.reduceLT, Nat.reduceLeDiff, reduceCtorEq, eq_self, K.isEff, List.reduceReplicate]
      refine step_enc (ys := l) ?_ fun g5 => ?_
      · rw [hx0] at cX
        simpa [Abs.view, viewL, rowOf, Abs.get, ev, B] using cX
      simp (maxSteps := 4000000) -implicitDefEqProofs (disch := omega) only [B_length, ktoStr, elems_sl, B_all, bel, ↓sxPre, sxPost, sxLib, if_true, if_false, Nat.reduceEqDiff, ↓reduceIte, Nat.reduceAdd, Nat.reduceSub, Nat.reduceMul, Nat.reduceLT, Nat.reduceLeDiff, reduceCtorEq, eq_self, K.isEff, List.reduceReplicate]
      refine step_guard rfl (fun _ => step_tree awake33_sc rfl ?_) (fun h => absurd rfl h)
      simp (maxSteps := 4000000) -implicitDefEqProofs (disch := omega) only [↓sxPre, sxPost, sxLib, if_true, if_false, Nat.reduceEqDiff, ↓reduceIte, Nat.reduceAdd, Nat.reduceSub, Nat.reduceMul, Nat.reduceLT, Nat.reduceLeDiff, reduceCtorEq, eq_self, K.isEff, List.reduceReplicate]
      refine finK_gc [] ?_
      simp [gcSt, keepOk, finG, resV, resOne, resAll, idx, V.ren, V.renL, Obj.ren, get_cons, get_nil, RTree, RTup, RRow]
  · skip
    simp (maxSteps := 4000000) -implicitDefEqProofs (disch := omega) only [B_length, kstore_ref, putAt_zero, ↓sxPre, sxPost, sxLib, if_true, if_false, Nat.reduceEqDiff, ↓reduceIte, Nat.reduceAdd, Nat.reduceSub, Nat.reduceMul, Nat.reduceLT, Nat.reduceLeDiff, reduceCtorEq, eq_self, K.isEff, List.reduceReplicate]
    refine condV_ndec (fun he => ?_) fun he => ?_
    · refine step_tree awake33_sc rfl ?_
      simp (maxSteps := 4000000) -implicitDefEqProofs (disch := omega) only [↓sxPre, sxPost, sxLib, if_true, if_false, Nat.reduceEqDiff, ↓reduceIte, Nat.reduceAdd, Nat.reduceSub, Nat.reduceMul, Nat.reduceLT, Nat.reduceLeDiff, reduceCtorEq, eq_self, K.isEff, List.reduceReplicate]
      refine finK_gc [] ?_
      simp [gcSt, keepOk, finG, resV, resOne, resAll, idx, V.ren, V.renL, Obj.ren, get_cons, get_nil, RTree, RTup, RRow]
    · subst he
      obtain ⟨x1, x2, x3⟩ := dec_canon hlb hD
      have cX := Encode_sc x x3 x2 1 false (.inl rfl)
      rw [x1] at cX
      simp only [Pk.cells] at cX
      simp (maxSteps := 4000000) -implicitDefEqProofs (disch := omega) only [B_length, kstore_ref, putAt_zero, ↓sxPre, sxPost, sxLib, if_true, if_false, Nat.reduceEqDiff, ↓reduceIte, Nat.reduceAdd, Nat.reduceSub, Nat.reduceMul, Nat.reduceLT, Nat.reduceLeDiff, reduceCtorEq, eq_self, K.isEff, List.reduceReplicate]
      refine step_enc (ys := l) ?_ fun g5 => ?_
      · simpa [Abs.view, viewL, rowOf, Abs.get, ev, B_all] using cX
      simp (maxSteps := 4000000) -implicitDefEqProofs (disch := omega) only [B_length, ktoStr, elems_sl, B_all, bel, ↓sxPre, sxPost, sxLib, if_true, if_false, Nat.reduceEqDiff, ↓reduceIte, Nat.reduceAdd, Nat.reduceSub, Nat.reduceMul, Nat.reduceLT, Nat.reduceLeDiff, reduceCtorEq, eq_self, K.isEff, List.reduceReplicate]
      refine step_guard rfl (fun _ => step_tree awake33_sc rfl ?_) (fun h => absurd rfl h)
      simp (maxSteps := 4000000) -implicitDefEqProofs (disch := omega) only [↓sxPre, sxPost, sxLib, if_true, if_false, Nat.reduceEqDiff, ↓reduceIte, Nat.reduceAdd, Nat.reduceSub, Nat.reduceMul, Nat.reduceLT, Nat.reduceLeDiff, reduceCtorEq, eq_self, K.isEff, List.reduceReplicate]
      refine finK_gc [] ?_
      simp [gcSt, keepOk, finG, resV, resOne, resAll, idx, V.ren, V.renL, Obj.ren, get_cons, get_nil, RTree, RTup, RRow]

theorem PacketOne_sc {W : World} {ts ts2 : List T} {cs cs2 : List Value} (h : Cells W [.int .i64, .int .i64, .int .i64, .int .i64, .int .i64, .lst false [.int .u8]] ts cs) (h2 : Cells W [.int .i64, .int .i64, .int .i64, .int .i64, .int .i64, .lst false [.int .u8]] ts2 cs2)
    {a : Option Addr} {len cap : Nat} {z : List Int} (w : IsRow .u8 W a len cap z) (y : len * 1 ≤ 140737488351232) :
    SCall PP N.debuggerlaw33_PacketOne [.t (.agg ts), .t (.agg ts2), .t (.lst 1 false ((z.take len).map (T.int .u8)))] [] (RTree (.bool true)) := by
  obtain ⟨p, hp, rfl⟩ := Cells.pk h
  obtain ⟨q, hq, rfl⟩ := Cells.pk h2
  exact PacketOne_main p q hp hq (z.take len) (IsRow.bytes w) (by rw [w.length]; omega)
end Go.Proofs.Ytljjabccgbakgaa
