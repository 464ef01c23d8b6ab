/- MessageOne: what the law returns. By the session itself. -/
import Derived.Test.YtljjabccgbakgaaMsg21
namespace Go.Proofs.Ytljjabccgbakgaa
open Go Go.Abs
set_option maxRecDepth 100000
set_option maxHeartbeats 8000000
set_option linter.unusedSimpArgs false
set_option linter.unusedVariables false

/-- A reply with short lists. -/
def Rp.short (R : Rp) : Rp := { R with words := R.words.take 50, out := R.out.take 50 }
theorem Rp.short_ok {R : Rp} (h : R.Ok) : R.short.Ok := by
  obtain ⟨kerr, kwords, kwlen, kths, ktlen, kout, kolen, kstop, kslen⟩ := h
  refine ⟨kerr, fun x hx => kwords x (List.mem_of_mem_take hx), by simp only [Rp.short, List.length_take]; omega, kths, ktlen, fun x hx => ?_, by simp only [Rp.short, List.length_take]; omega, kstop, kslen⟩
  obtain ⟨o, ho, hx⟩ := List.mem_flatMap.1 hx
  exact kout x (List.mem_flatMap.2 ⟨o, List.mem_of_mem_take ho, hx⟩)
theorem Rp.short_fit {R : Rp} (which : Int) : (R.near which).short.Fit := by
  refine ⟨by simp only [Rp.short, List.length_take]; omega, by simp only [Rp.short, List.length_take]; omega, by simp only [Rp.short, Rp.near, List.length_take]; omega, fun q hq => ?_⟩
  obtain ⟨q', _, rfl⟩ := List.mem_map.1 (List.mem_of_mem_take hq)
  simp only [Th.cut, List.length_take]; omega

theorem decEnd_zero (b : List Int) (err : Int) (words : List Int) (ths : List Th) (o : List Int) (s : RS) (h : (decEnd b err words ths o s).2 ≠ 0) : decEnd b err words ths o s = (zeroRp, 4) := by
  unfold decEnd at h ⊢
  split
  · rename_i hc
    rw [if_pos hc] at h
    exact absurd rfl h
  · rfl
theorem decR_zero (b : List Int) (h : (decR b).2 ≠ 0) : decR b = (zeroRp, 4) := decEnd_zero _ _ _ _ _ _ h

theorem min50 (n : Nat) : (if (50 : Int) < n then (50 : Int) else n) = ((min 50 n : Nat) : Int) := by split <;> omega
theorem take50 (l : List Int) : (Ns l).take (min 50 l.length) = Ns (l.take 50) := by
  rw [Ns_take]
  congr 1
  rcases Nat.le_total 50 l.length with h | h
  · rw [Nat.min_eq_left h]
  · rw [Nat.min_eq_right h, List.take_of_length_le h, List.take_of_length_le (Nat.le_refl _)]
theorem takeP50 (l : List (Int × Int)) : (Ps l).take (min 50 l.length) = Ps (l.take 50) := by
  have e : ∀ k, (Ps l).take k = Ps (l.take k) := fun k => by simp [Ps, List.map_take]
  rw [e]
  congr 1
  rcases Nat.le_total 50 l.length with h | h
  · rw [Nat.min_eq_left h]
  · rw [Nat.min_eq_right h, List.take_of_length_le h, List.take_of_length_le (Nat.le_refl _)]
theorem min50_le (n : Nat) : min 50 n ≤ n := by omega

theorem MessageOne_main (p q : Cm) (hp : p.Ok) (hq : q.Ok) (R R' : Rp) (cs cs' : List T) (hR : R.Ok) (hR' : R'.Ok) (hA : R.At cs) (hA' : R'.At cs') (raw : List Int) (hraw : Bytes raw) (hrl : raw.length ≤ 2 ^ 47) :
    SCall PP N.debuggerlaw36_MessageOne [.t (.agg (p.cells 1 false)), .t (.agg (q.cells 1 false)), .t (.agg cs), .t (.agg cs'), .t (.lst 1 false (B raw))] [] (RTree (.bool true)) := by
  refine debuggerlaw36_MessageOne.intro (by simp) ?_
  have cSm := small_sc R cs hR hA
  have cSm' := small_sc R' cs' hR' hA'
  obtain ⟨f1, f2, f3, f4, f5, f6⟩ := hA.facts hR.slen
  obtain ⟨e1, e2, e3, e4, e5, e6⟩ := hA'.facts hR'.slen
  have hvw : ∀ (H : Heap) (l : List T), viewL H (l.map V.t) = l.map V.t := by
    intro H l
    rw [viewL_eq, List.map_map]
    rfl
  simp only [Cm.cells]
  cases b1 : decide ((20 : Int) < p.words.length) with
  | true =>
    simp (maxSteps := 4000000) -implicitDefEqProofs (disch := omega) only [Ns_length, b1, f4, e4, ↓sxPre, sxPost, sxLib, if_true, if_false, Nat.reduceEqDiff, ↓reduceIte, Nat.reduceAdd, Nat.reduceSub, Nat.reduceMul, Nat.reduceLT, Nat.reduceLeDiff, reduceCtorEq, eq_self, K.isEff, List.reduceReplicate]
    refine step_guard rfl (fun h => absurd h (by decide)) (fun _ => ?_)
    simp (maxSteps := 4000000) -implicitDefEqProofs (disch := omega) only [↓sxPre, sxPost, sxLib, if_true, if_false, Nat.reduceEqDiff, ↓reduceIte, Nat.reduceAdd, Nat.reduceSub, Nat.reduceMul, Nat.reduceLT, Nat.reduceLeDiff, reduceCtorEq, eq_self, K.isEff, List.reduceReplicate]
    refine step_guard rfl (fun h => absurd h (by decide)) (fun _ => ?_)
    simp (maxSteps := 4000000) -implicitDefEqProofs (disch := omega) only [↓sxPre, sxPost, sxLib, if_true, if_false, Nat.reduceEqDiff, ↓reduceIte, Nat.reduceAdd, Nat.reduceSub, Nat.reduceMul, Nat.reduceLT, Nat.reduceLeDiff, reduceCtorEq, eq_self, K.isEff, List.reduceReplicate]
    refine step_tree awake36_sc rfl ?_
    simp (maxSteps := 4000000) -implicitDefEqProofs (disch := omega) only [↓sxPre, sxPost, sxLib, if_true, if_false, Nat.reduceEqDiff, ↓reduceIte, Nat.reduceAdd, Nat.reduceSub, Nat.reduceMul, Nat.reduceLT, Nat.reduceLeDiff, reduceCtorEq, eq_self, K.isEff, List.reduceReplicate]
    refine finK_gc [] ?_
    simp [gcSt, keepOk, finG, resV, resOne, resAll, idx, V.ren, V.renL, Obj.ren, get_cons, get_nil, RTree, RTup, RRow]
  | false =>
  cases b2 : decide ((20 : Int) < q.words.length) with
  | true =>
    simp (maxSteps := 4000000) -implicitDefEqProofs (disch := omega) only [Ns_length, b1, b2, f4, e4, ↓sxPre, sxPost, sxLib, if_true, if_false, Nat.reduceEqDiff, ↓reduceIte, Nat.reduceAdd, Nat.reduceSub, Nat.reduceMul, Nat.reduceLT, Nat.reduceLeDiff, reduceCtorEq, eq_self, K.isEff, List.reduceReplicate]
    refine step_guard rfl (fun h => absurd h (by decide)) (fun _ => ?_)
    simp (maxSteps := 4000000) -implicitDefEqProofs (disch := omega) only [↓sxPre, sxPost, sxLib, if_true, if_false, Nat.reduceEqDiff, ↓reduceIte, Nat.reduceAdd, Nat.reduceSub, Nat.reduceMul, Nat.reduceLT, Nat.reduceLeDiff, reduceCtorEq, eq_self, K.isEff, List.reduceReplicate]
    refine step_guard rfl (fun h => absurd h (by decide)) (fun _ => ?_)
    simp (maxSteps := 4000000) -implicitDefEqProofs (disch := omega) only [↓sxPre, sxPost, sxLib, if_true, if_false, Nat.reduceEqDiff, ↓reduceIte, Nat.reduceAdd, Nat.reduceSub, Nat.reduceMul, Nat.reduceLT, Nat.reduceLeDiff, reduceCtorEq, eq_self, K.isEff, List.reduceReplicate]
    refine step_tree awake36_sc rfl ?_
    simp (maxSteps := 4000000) -implicitDefEqProofs (disch := omega) only [↓sxPre, sxPost, sxLib, if_true, if_false, Nat.reduceEqDiff, ↓reduceIte, Nat.reduceAdd, Nat.reduceSub, Nat.reduceMul, Nat.reduceLT, Nat.reduceLeDiff, reduceCtorEq, eq_self, K.isEff, List.reduceReplicate]
    refine finK_gc [] ?_
    simp [gcSt, keepOk, finG, resV, resOne, resAll, idx, V.ren, V.renL, Obj.ren, get_cons, get_nil, RTree, RTup, RRow]
  | false =>
  by_cases hsm : R.Small
  case neg =>
    rw [decide_eq_false hsm] at cSm
    simp (maxSteps := 4000000) -implicitDefEqProofs (disch := omega) only [Ns_length, b1, b2, f1, f2, f3, f4, e4, ↓sxPre, sxPost, sxLib, if_true, if_false, Nat.reduceEqDiff, ↓reduceIte, Nat.reduceAdd, Nat.reduceSub, Nat.reduceMul, Nat.reduceLT, Nat.reduceLeDiff, reduceCtorEq, eq_self, K.isEff, List.reduceReplicate]
    refine step_guard rfl (fun _ => step_tree (x := .bool false) ?_ rfl ?_) (fun h => absurd rfl h)
    · simpa [Abs.view, Abs.get, ev, hvw] using cSm
    simp (maxSteps := 4000000) -implicitDefEqProofs (disch := omega) only [↓sxPre, sxPost, sxLib, if_true, if_false, Nat.reduceEqDiff, ↓reduceIte, Nat.reduceAdd, Nat.reduceSub, Nat.reduceMul, Nat.reduceLT, Nat.reduceLeDiff, reduceCtorEq, eq_self, K.isEff, List.reduceReplicate]
    refine step_guard rfl (fun h => absurd h (by decide)) (fun _ => ?_)
    simp (maxSteps := 4000000) -implicitDefEqProofs (disch := omega) only [↓sxPre, sxPost, sxLib, if_true, if_false, Nat.reduceEqDiff, ↓reduceIte, Nat.reduceAdd, Nat.reduceSub, Nat.reduceMul, Nat.reduceLT, Nat.reduceLeDiff, reduceCtorEq, eq_self, K.isEff, List.reduceReplicate]
    refine step_tree awake36_sc rfl ?_
    simp (maxSteps := 4000000) -implicitDefEqProofs (disch := omega) only [↓sxPre, sxPost, sxLib, if_true, if_false, Nat.reduceEqDiff, ↓reduceIte, Nat.reduceAdd, Nat.reduceSub, Nat.reduceMul, Nat.reduceLT, Nat.reduceLeDiff, reduceCtorEq, eq_self, K.isEff, List.reduceReplicate]
    refine finK_gc [] ?_
    simp [gcSt, keepOk, finG, resV, resOne, resAll, idx, V.ren, V.renL, Obj.ren, get_cons, get_nil, RTree, RTup, RRow]
  rw [decide_eq_true hsm] at cSm
  by_cases hsm' : R'.Small
  case neg =>
    rw [decide_eq_false hsm'] at cSm'
    simp (maxSteps := 4000000) -implicitDefEqProofs (disch := omega) only [Ns_length, b1, b2, f1, f2, f3, f4, e4, ↓sxPre, sxPost, sxLib, if_true, if_false, Nat.reduceEqDiff, ↓reduceIte, Nat.reduceAdd, Nat.reduceSub, Nat.reduceMul, Nat.reduceLT, Nat.reduceLeDiff, reduceCtorEq, eq_self, K.isEff, List.reduceReplicate]
    refine step_guard rfl (fun _ => step_tree (x := .bool true) ?_ rfl ?_) (fun h => absurd rfl h)
    · simpa [Abs.view, Abs.get, ev, hvw] using cSm
    simp (maxSteps := 4000000) -implicitDefEqProofs (disch := omega) only [e1, e2, e3, e4, ↓sxPre, sxPost, sxLib, if_true, if_false, Nat.reduceEqDiff, ↓reduceIte, Nat.reduceAdd, Nat.reduceSub, Nat.reduceMul, Nat.reduceLT, Nat.reduceLeDiff, reduceCtorEq, eq_self, K.isEff, List.reduceReplicate]
    refine step_guard rfl (fun _ => step_tree (x := .bool false) ?_ rfl ?_) (fun h => absurd rfl h)
    · simpa [Abs.view, Abs.get, ev, hvw] using cSm'
    simp (maxSteps := 4000000) -implicitDefEqProofs (disch := omega) only [↓sxPre, sxPost, sxLib, if_true, if_false, Nat.reduceEqDiff, ↓reduceIte, Nat.reduceAdd, Nat.reduceSub, Nat.reduceMul, Nat.reduceLT, Nat.reduceLeDiff, reduceCtorEq, eq_self, K.isEff, List.reduceReplicate]
    refine step_tree awake36_sc rfl ?_
    simp (maxSteps := 4000000) -implicitDefEqProofs (disch := omega) only [↓sxPre, sxPost, sxLib, if_true, if_false, Nat.reduceEqDiff, ↓reduceIte, Nat.reduceAdd, Nat.reduceSub, Nat.reduceMul, Nat.reduceLT, Nat.reduceLeDiff, reduceCtorEq, eq_self, K.isEff, List.reduceReplicate]
    refine finK_gc [] ?_
    simp [gcSt, keepOk, finG, resV, resOne, resAll, idx, V.ren, V.renL, Obj.ren, get_cons, get_nil, RTree, RTup, RRow]
  rw [decide_eq_true hsm'] at cSm'
  simp (maxSteps := 4000000) -implicitDefEqProofs (disch := omega) only [Ns_length, b1, b2, f1, f2, f3, f4, e4, ↓sxPre, sxPost, sxLib, if_true, if_false, Nat.reduceEqDiff, ↓reduceIte, Nat.reduceAdd, Nat.reduceSub, Nat.reduceMul, Nat.reduceLT, Nat.reduceLeDiff, reduceCtorEq, eq_self, K.isEff, List.reduceReplicate]
  refine step_guard rfl (fun _ => step_tree (x := .bool true) ?_ rfl ?_) (fun h => absurd rfl h)
  · simpa [Abs.view, Abs.get, ev, hvw] using cSm
  simp (maxSteps := 4000000) -implicitDefEqProofs (disch := omega) only [e1, e2, e3, e4, ↓sxPre, sxPost, sxLib, if_true, if_false, Nat.reduceEqDiff, ↓reduceIte, Nat.reduceAdd, Nat.reduceSub, Nat.reduceMul, Nat.reduceLT, Nat.reduceLeDiff, reduceCtorEq, eq_self, K.isEff, List.reduceReplicate]
  refine step_guard rfl (fun _ => step_tree (x := .bool true) ?_ rfl ?_) (fun h => absurd rfl h)
  · simpa [Abs.view, Abs.get, ev, hvw] using cSm'
  cases b3 : decide ((500 : Int) < raw.length) with
  | true =>
    simp (maxSteps := 4000000) -implicitDefEqProofs (disch := omega) only [B_length, b3, ↓sxPre, sxPost, sxLib, if_true, if_false, Nat.reduceEqDiff, ↓reduceIte, Nat.reduceAdd, Nat.reduceSub, Nat.reduceMul, Nat.reduceLT, Nat.reduceLeDiff, reduceCtorEq, eq_self, K.isEff, List.reduceReplicate]
    refine step_tree awake36_sc rfl ?_
    simp (maxSteps := 4000000) -implicitDefEqProofs (disch := omega) only [↓sxPre, sxPost, sxLib, if_true, if_false, Nat.reduceEqDiff, ↓reduceIte, Nat.reduceAdd, Nat.reduceSub, Nat.reduceMul, Nat.reduceLT, Nat.reduceLeDiff, reduceCtorEq, eq_self, K.isEff, List.reduceReplicate]
    refine finK_gc [] ?_
    simp [gcSt, keepOk, finG, resV, resOne, resAll, idx, V.ren, V.renL, Obj.ren, get_cons, get_nil, RTree, RTup, RRow]
  | false =>
  have b1' := of_decide_eq_false b1
  have b2' := of_decide_eq_false b2
  have b3' := of_decide_eq_false b3
  have cE := EncodeCommand_sc p (by omega) hp 1 false (.inl rfl)
  have cE' := EncodeCommand_sc q (by omega) hq 1 false (.inl rfl)
  have hEE := Cm.enc_inj hp hq (by omega) (by omega)
  have cN := nearT_sc R cs hR hA hsm 7 ⟨by decide, by decide⟩
  have cN' := nearT_sc R' cs' hR' hA' hsm' 7 ⟨by decide, by decide⟩
  have hbE := B_isByte p.enc_bytes
  have hbE' := B_isByte q.enc_bytes
  have hse : decide ((⟨(bytesOf (B p.enc)).toArray⟩ : ByteArray) = ⟨(bytesOf (B q.enc)).toArray⟩) = decide (p = q) := by
    rw [str_eq p.enc_bytes q.enc_bytes]
    exact decide_eq_decide.2 hEE
  generalize p.enc = E1 at *
  generalize q.enc = E2 at *
  simp only [Cm.cells] at cE cE'
  simp (maxSteps := 4000000) -implicitDefEqProofs (disch := omega) only [B_length, b3, ↓sxPre, sxPost, sxLib, if_true, if_false, Nat.reduceEqDiff, ↓reduceIte, Nat.reduceAdd, Nat.reduceSub, Nat.reduceMul, Nat.reduceLT, Nat.reduceLeDiff, reduceCtorEq, eq_self, K.isEff, List.reduceReplicate]
  refine step_enc (ys := E1) ?_ fun ga => ?_
  · simpa [Abs.view, viewL, Abs.get, ev] using cE
  simp (maxSteps := 4000000) -implicitDefEqProofs (disch := omega) only [↓sxPre, sxPost, sxLib, if_true, if_false, Nat.reduceEqDiff, ↓reduceIte, Nat.reduceAdd, Nat.reduceSub, Nat.reduceMul, Nat.reduceLT, Nat.reduceLeDiff, reduceCtorEq, eq_self, K.isEff, List.reduceReplicate]
  refine step_enc (ys := E2) ?_ fun gb => ?_
  · simpa [Abs.view, viewL, Abs.get, ev] using cE'
  simp (maxSteps := 4000000) -implicitDefEqProofs (disch := omega) only [f1, f2, f3, f4, e1, e2, e3, e4, ↓sxPre, sxPost, sxLib, if_true, if_false, Nat.reduceEqDiff, ↓reduceIte, Nat.reduceAdd, Nat.reduceSub, Nat.reduceMul, Nat.reduceLT, Nat.reduceLeDiff, reduceCtorEq, eq_self, K.isEff, List.reduceReplicate]
  refine step_eff (step_nearT (R := R) (which := 7) ?_ fun c1 hA1 => ?_)
  · simpa [V.ren, renL_t, Abs.get, ev] using cN
  simp (maxSteps := 4000000) -implicitDefEqProofs (disch := omega) only [f1, f2, f3, f4, e1, e2, e3, e4, ↓sxPre, sxPost, sxLib, if_true, if_false, Nat.reduceEqDiff, ↓reduceIte, Nat.reduceAdd, Nat.reduceSub, Nat.reduceMul, Nat.reduceLT, Nat.reduceLeDiff, reduceCtorEq, eq_self, K.isEff, List.reduceReplicate]
  refine step_eff (step_nearT (R := R') (which := 7) ?_ fun c2 hA2 => ?_)
  · simpa [V.ren, renL_t, Abs.get, ev] using cN'
  have hok1 := Rp.near_ok hR 7
  have hok2 := Rp.near_ok hR' 7
  have hfit1 := Rp.short_fit (R := R) 7
  have hfit2 := Rp.short_fit (R := R') 7
  generalize R.near 7 = R1 at *
  generalize R'.near 7 = R2 at *
  obtain ⟨s1, t1, s2, t2, s3, t3, xs, h1, h2, h3, hx, ha, rfl⟩ := hA1
  obtain ⟨s1', t1', s2', t2', s3', t3', xs', h1', h2', h3', hx', ha', rfl⟩ := hA2
  obtain ⟨q0, q1, q2, q3, q4, q5, q6, hs7⟩ := seven hok1.slen
  obtain ⟨p0, p1, p2, p3, p4, p5, p6, hs7'⟩ := seven hok2.slen
  have hNs : Ns R1.stop = [.int .i64 q0, .int .i64 q1, .int .i64 q2, .int .i64 q3, .int .i64 q4, .int .i64 q5, .int .i64 q6] := by rw [hs7]; rfl
  have hNs' : Ns R2.stop = [.int .i64 p0, .int .i64 p1, .int .i64 p2, .int .i64 p3, .int .i64 p4, .int .i64 p5, .int .i64 p6] := by rw [hs7']; rfl
  rw [hNs, hNs']
  have hnl : ∀ {n : Nat} {l : List Int}, n = 1 ∨ l = [] → n = 1 ∨ Ns l = [] := by
    rintro n l (h | h)
    · exact .inl h
    · right; rw [h]; rfl
  have hpl : ∀ {n : Nat} {l : List (Int × Int)}, n = 2 ∨ l = [] → n = 2 ∨ Ps l = [] := by
    rintro n l (h | h)
    · exact .inl h
    · right; rw [h]; rfl
  have hA1 : R1.short.At [.int .i64 R1.err, .lst s1 false (Ns (R1.words.take 50)), .lst s2 t2 xs, .lst s3 false (Ps (R1.out.take 50)), .int .i64 q0, .int .i64 q1, .int .i64 q2, .int .i64 q3, .int .i64 q4, .int .i64 q5, .int .i64 q6] := by
    refine ⟨s1, false, s2, t2, s3, false, xs, ?_, h2, ?_, hx, ha, by simp only [Rp.short, hNs]⟩
    · rcases h1 with h | h
      · exact .inl h
      · right; simp only [Rp.short, h, List.take_nil]
    · rcases h3 with h | h
      · exact .inl h
      · right; simp only [Rp.short, h, List.take_nil]
  have hA2 : R2.short.At [.int .i64 R2.err, .lst s1' false (Ns (R2.words.take 50)), .lst s2' t2' xs', .lst s3' false (Ps (R2.out.take 50)), .int .i64 p0, .int .i64 p1, .int .i64 p2, .int .i64 p3, .int .i64 p4, .int .i64 p5, .int .i64 p6] := by
    refine ⟨s1', false, s2', t2', s3', false, xs', ?_, h2', ?_, hx', ha', by simp only [Rp.short, hNs']⟩
    · rcases h1' with h | h
      · exact .inl h
      · right; simp only [Rp.short, h, List.take_nil]
    · rcases h3' with h | h
      · exact .inl h
      · right; simp only [Rp.short, h, List.take_nil]
  have hS1 := Rp.short_ok hok1
  have hS2 := Rp.short_ok hok2
  have cR1 := EncodeReply_sc _ _ hS1 hA1
  have cR2 := EncodeReply_sc _ _ hS2 hA2
  have cR1' : SCall PP N.message_EncodeReply _ [] (REnc R1.short.enc) := cR1.mono fun r H h => by simpa [REncR, hfit1] using h
  have cR2' : SCall PP N.message_EncodeReply _ [] (REnc R2.short.enc) := cR2.mono fun r H h => by simpa [REncR, hfit2] using h
  have hRR := Rp.enc_inj hS1 hS2 hfit1 hfit2
  have cSC := SameCommand_sc p q (by omega) 1 1 false false (.inl rfl) (.inl rfl)
  have hbR1 := B_isByte R1.short.enc_bytes
  have hbR2 := B_isByte R2.short.enc_bytes
  have cSR := SameReply_sc _ _ _ _ hA1 hA2 hS1 hS2 (by have := hfit1.1; omega) (by have := hfit1.2.2.1; omega) (fun q hq => by have := hfit1.2.2.2 q hq; omega) (by have := hfit1.2.1; omega)
  have hse2 : decide ((⟨(bytesOf (B R1.short.enc)).toArray⟩ : ByteArray) = ⟨(bytesOf (B R2.short.enc)).toArray⟩) = decide (R1.short = R2.short) := by
    rw [str_eq (Rp.enc_bytes _) (Rp.enc_bytes _)]
    exact decide_eq_decide.2 hRR
  generalize R1.short = S1 at *
  generalize R2.short = S2 at *
  generalize S1.enc = F1 at *
  generalize S2.enc = F2 at *
  simp only [Cm.cells] at cSC
  have g11 : (cs.map V.t).drop 11 = [] := List.drop_of_length_le (by rw [List.length_map]; omega)
  have g11' : (cs'.map V.t).drop 11 = [] := List.drop_of_length_le (by rw [List.length_map]; omega)
  have w1 := min50_le R1.words.length
  have w2 := min50_le R2.words.length
  have w3 := min50_le R1.out.length
  have w4 := min50_le R2.out.length
  simp (maxSteps := 4000000) -implicitDefEqProofs (disch := omega) only [f1, e1, f4, e4, g11, g11', putAt_zero, putAt_succ, f6, e6, Ns_length, Ps_length, min50, take50, takeP50, Int.toNat_natCast, ↓sxPre, sxPost, sxLib, if_true, if_false, Nat.reduceEqDiff, ↓reduceIte, Nat.reduceAdd, Nat.reduceSub, Nat.reduceMul, Nat.reduceLT, Nat.reduceLeDiff, reduceCtorEq, eq_self, K.isEff, List.reduceReplicate]
  refine ⟨⟨hnl h1, by omega, by omega⟩, ⟨hnl h1', by omega, by omega⟩, ⟨hpl h3, by omega, by omega⟩, ⟨hpl h3', by omega, by omega⟩, ?_⟩
  refine step_enc (ys := F1) ?_ fun gc => ?_
  · simpa [Abs.view, viewL, Abs.get, ev] using cR1'
  simp (maxSteps := 4000000) -implicitDefEqProofs (disch := omega) only [↓sxPre, sxPost, sxLib, if_true, if_false, Nat.reduceEqDiff, ↓reduceIte, Nat.reduceAdd, Nat.reduceSub, Nat.reduceMul, Nat.reduceLT, Nat.reduceLeDiff, reduceCtorEq, eq_self, K.isEff, List.reduceReplicate]
  refine step_enc (ys := F2) ?_ fun gd => ?_
  · simpa [Abs.view, viewL, Abs.get, ev] using cR2'
  simp (maxSteps := 4000000) -implicitDefEqProofs (disch := omega) only [ktoStr, elems_sl, B_all, hbE, hbE', hbR1, hbR2, hse, hse2, ↓sxPre, sxPost, sxLib, if_true, if_false, Nat.reduceEqDiff, ↓reduceIte, Nat.reduceAdd, Nat.reduceSub, Nat.reduceMul, Nat.reduceLT, Nat.reduceLeDiff, reduceCtorEq, eq_self, K.isEff, List.reduceReplicate]
  refine step_eff (step_guard rfl (fun _ => step_tree (x := .bool (decide (p = q))) ?_ rfl ?_) (fun h => absurd rfl h))
  · simpa [Abs.view, viewL, Abs.get, ev] using cSC
  simp (maxSteps := 4000000) -implicitDefEqProofs (disch := omega) only [ktoStr, elems_sl, B_all, hbE, hbE', hbR1, hbR2, hse, hse2, ↓sxPre, sxPost, sxLib, if_true, if_false, Nat.reduceEqDiff, ↓reduceIte, Nat.reduceAdd, Nat.reduceSub, Nat.reduceMul, Nat.reduceLT, Nat.reduceLeDiff, reduceCtorEq, eq_self, K.isEff, List.reduceReplicate]
  refine step_eff (step_guard rfl (fun _ => step_tree (x := .bool (decide (S1 = S2))) ?_ rfl ?_) (fun h => absurd rfl h))
  · simpa [Abs.view, viewL, Abs.get, ev] using cSR
  simp (maxSteps := 4000000) -implicitDefEqProofs (disch := omega) only [ktoStr, elems_sl, B_all, hbE, hbE', hbR1, hbR2, hse, hse2, ↓sxPre, sxPost, sxLib, if_true, if_false, Nat.reduceEqDiff, ↓reduceIte, Nat.reduceAdd, Nat.reduceSub, Nat.reduceMul, Nat.reduceLT, Nat.reduceLeDiff, reduceCtorEq, eq_self, K.isEff, List.reduceReplicate]
  have hbraw := B_isByte hraw
  have cDC := DecodeCommand_scT raw hraw (by omega)
  have cDR := DecodeReply_sc raw hraw (by omega)
  generalize hD : decC raw = D at *
  obtain ⟨x, e⟩ := D
  generalize hD2 : decR raw = D2' at *
  obtain ⟨D2, e2⟩ := D2'
  have hD2ok : e2 ≠ 0 → D2.stop.length = 7 := by
    intro h
    have := decR_zero raw (by rw [hD2]; exact h)
    rw [hD2] at this
    simp only [Prod.mk.injEq] at this
    rw [this.1]; rfl
  refine step_decCT (D := (x, e)) ?_ fun sz t hsz => ?_
  · simpa [V.ren, V.renL, Abs.get, ev] using cDC
  simp only [Cm.cells]
  by_cases hx : e = 0
  · subst hx
    obtain ⟨n1, n2, n3⟩ := decC_canon hraw hD
    have cE3 := EncodeCommand_sc x n3 n2 sz t hsz
    rw [n1] at cE3
    simp only [Cm.cells] at cE3
    simp (maxSteps := 4000000) -implicitDefEqProofs (disch := omega) only [putAt_zero, putAt_succ, ↓sxPre, sxPost, sxLib, if_true, if_false, Nat.reduceEqDiff, ↓reduceIte, Nat.reduceAdd, Nat.reduceSub, Nat.reduceMul, Nat.reduceLT, Nat.reduceLeDiff, reduceCtorEq, eq_self, K.isEff, List.reduceReplicate]
    refine step_enc (ys := raw) ?_ fun ge => ?_
    · simpa [Abs.view, viewL, Abs.get, ev] using cE3
    simp (maxSteps := 4000000) -implicitDefEqProofs (disch := omega) only [ktoStr, elems_sl, elems_lst', B_all, hbraw, ↓sxPre, sxPost, sxLib, if_true, if_false, Nat.reduceEqDiff, ↓reduceIte, Nat.reduceAdd, Nat.reduceSub, Nat.reduceMul, Nat.reduceLT, Nat.reduceLeDiff, reduceCtorEq, eq_self, K.isEff, List.reduceReplicate]
    refine step_decRT (D := (D2, e2)) ?_ fun c3 hA3 => ?_
    · simpa [V.ren, V.renL, Abs.get, ev] using cDR
    by_cases h3 : e2 = 0
    · subst h3
      obtain ⟨n1, n2, n3⟩ := decR_canon hraw hD2
      obtain ⟨j1, j2, j3, j4, j5, j6⟩ := hA3.facts n2.slen
      have cE4 := EncodeReply_sc D2 c3 n2 hA3
      have cE4' : SCall PP N.message_EncodeReply _ [] (REnc D2.enc) := cE4.mono fun r H h => by simpa [REncR, n3] using h
      rw [n1] at cE4'
      simp (maxSteps := 4000000) -implicitDefEqProofs (disch := omega) only [j1, j2, j3, j4, j6, ↓sxPre, sxPost, sxLib, if_true, if_false, Nat.reduceEqDiff, ↓reduceIte, Nat.reduceAdd, Nat.reduceSub, Nat.reduceMul, Nat.reduceLT, Nat.reduceLeDiff, reduceCtorEq, eq_self, K.isEff, List.reduceReplicate]
      refine step_enc (ys := raw) ?_ fun gf => ?_
      · simpa [Abs.view, Abs.get, ev, hvw] using cE4'
      simp (maxSteps := 4000000) -implicitDefEqProofs (disch := omega) only [ktoStr, elems_sl, elems_lst', B_all, hbraw, ↓sxPre, sxPost, sxLib, if_true, if_false, Nat.reduceEqDiff, ↓reduceIte, Nat.reduceAdd, Nat.reduceSub, Nat.reduceMul, Nat.reduceLT, Nat.reduceLeDiff, reduceCtorEq, eq_self, K.isEff, List.reduceReplicate]
      refine step_tree awake36_sc rfl ?_
      simp (maxSteps := 4000000) -implicitDefEqProofs (disch := omega) only [↓sxPre, sxPost, sxLib, if_true, if_false, Nat.reduceEqDiff, ↓reduceIte, Nat.reduceAdd, Nat.reduceSub, Nat.reduceMul, Nat.reduceLT, Nat.reduceLeDiff, reduceCtorEq, eq_self, K.isEff, List.reduceReplicate]
      refine finK_gc [] ?_
      simp [gcSt, keepOk, finG, resV, resOne, resAll, idx, V.ren, V.renL, Obj.ren, get_cons, get_nil, RTree, RTup, RRow]
    · have d3 : decide (e2 = 0) = false := decide_eq_false h3
      have n2 := hD2ok h3
      obtain ⟨j1, j2, j3, j4, j5, j6⟩ := hA3.facts n2
      simp (maxSteps := 4000000) -implicitDefEqProofs (disch := omega) only [j1, j2, j3, j4, j6, d3, ↓sxPre, sxPost, sxLib, if_true, if_false, Nat.reduceEqDiff, ↓reduceIte, Nat.reduceAdd, Nat.reduceSub, Nat.reduceMul, Nat.reduceLT, Nat.reduceLeDiff, reduceCtorEq, eq_self, K.isEff, List.reduceReplicate]
      refine step_tree awake36_sc rfl ?_
      simp (maxSteps := 4000000) -implicitDefEqProofs (disch := omega) only [↓sxPre, sxPost, sxLib, if_true, if_false, Nat.reduceEqDiff, ↓reduceIte, Nat.reduceAdd, Nat.reduceSub, Nat.reduceMul, Nat.reduceLT, Nat.reduceLeDiff, reduceCtorEq, eq_self, K.isEff, List.reduceReplicate]
      refine finK_gc [] ?_
      simp [gcSt, keepOk, finG, resV, resOne, resAll, idx, V.ren, V.renL, Obj.ren, get_cons, get_nil, RTree, RTup, RRow]
  · have d1 : decide (e = 0) = false := decide_eq_false hx
    simp (maxSteps := 4000000) -implicitDefEqProofs (disch := omega) only [putAt_zero, putAt_succ, d1, ↓sxPre, sxPost, sxLib, if_true, if_false, Nat.reduceEqDiff, ↓reduceIte, Nat.reduceAdd, Nat.reduceSub, Nat.reduceMul, Nat.reduceLT, Nat.reduceLeDiff, reduceCtorEq, eq_self, K.isEff, List.reduceReplicate]
    refine step_decRT (D := (D2, e2)) ?_ fun c3 hA3 => ?_
    · simpa [V.ren, V.renL, Abs.get, ev] using cDR
    by_cases h3 : e2 = 0
    · subst h3
      obtain ⟨n1, n2, n3⟩ := decR_canon hraw hD2
      obtain ⟨j1, j2, j3, j4, j5, j6⟩ := hA3.facts n2.slen
      have cE4 := EncodeReply_sc D2 c3 n2 hA3
      have cE4' : SCall PP N.message_EncodeReply _ [] (REnc D2.enc) := cE4.mono fun r H h => by simpa [REncR, n3] using h
      rw [n1] at cE4'
      simp (maxSteps := 4000000) -implicitDefEqProofs (disch := omega) only [j1, j2, j3, j4, j6, ↓sxPre, sxPost, sxLib, if_true, if_false, Nat.reduceEqDiff, ↓reduceIte, Nat.reduceAdd, Nat.reduceSub, Nat.reduceMul, Nat.reduceLT, Nat.reduceLeDiff, reduceCtorEq, eq_self, K.isEff, List.reduceReplicate]
      refine step_enc (ys := raw) ?_ fun gf => ?_
      · simpa [Abs.view, Abs.get, ev, hvw] using cE4'
      simp (maxSteps := 4000000) -implicitDefEqProofs (disch := omega) only [ktoStr, elems_sl, elems_lst', B_all, hbraw, ↓sxPre, sxPost, sxLib, if_true, if_false, Nat.reduceEqDiff, ↓reduceIte, Nat.reduceAdd, Nat.reduceSub, Nat.reduceMul, Nat.reduceLT, Nat.reduceLeDiff, reduceCtorEq, eq_self, K.isEff, List.reduceReplicate]
      refine step_tree awake36_sc rfl ?_
      simp (maxSteps := 4000000) -implicitDefEqProofs (disch := omega) only [↓sxPre, sxPost, sxLib, if_true, if_false, Nat.reduceEqDiff, ↓reduceIte, Nat.reduceAdd, Nat.reduceSub, Nat.reduceMul, Nat.reduceLT, Nat.reduceLeDiff, reduceCtorEq, eq_self, K.isEff, List.reduceReplicate]
      refine finK_gc [] ?_
      simp [gcSt, keepOk, finG, resV, resOne, resAll, idx, V.ren, V.renL, Obj.ren, get_cons, get_nil, RTree, RTup, RRow]
    · have d3 : decide (e2 = 0) = false := decide_eq_false h3
      have n2 := hD2ok h3
      obtain ⟨j1, j2, j3, j4, j5, j6⟩ := hA3.facts n2
      simp (maxSteps := 4000000) -implicitDefEqProofs (disch := omega) only [j1, j2, j3, j4, j6, d3, ↓sxPre, sxPost, sxLib, if_true, if_false, Nat.reduceEqDiff, ↓reduceIte, Nat.reduceAdd, Nat.reduceSub, Nat.reduceMul, Nat.reduceLT, Nat.reduceLeDiff, reduceCtorEq, eq_self, K.isEff, List.reduceReplicate]
      refine step_tree awake36_sc rfl ?_
      simp (maxSteps := 4000000) -implicitDefEqProofs (disch := omega) only [↓sxPre, sxPost, sxLib, if_true, if_false, Nat.reduceEqDiff, ↓reduceIte, Nat.reduceAdd, Nat.reduceSub, Nat.reduceMul, Nat.reduceLT, Nat.reduceLeDiff, reduceCtorEq, eq_self, K.isEff, List.reduceReplicate]
      refine finK_gc [] ?_
      simp [gcSt, keepOk, finG, resV, resOne, resAll, idx, V.ren, V.renL, Obj.ren, get_cons, get_nil, RTree, RTup, RRow]

theorem MessageOne_sc {W : World} {ta tb : List T} {ca cb : List Value} (h1 : Cells W [.int .i64, .int .i64, .int .i64, .int .i64, .lst false [.int .i64]] ta ca) (h2 : Cells W [.int .i64, .int .i64, .int .i64, .int .i64, .lst false [.int .i64]] tb cb)
    {tc td : List T} {cc cd : List Value} (h3 : Cells W rpSh tc cc) (h4 : Cells W rpSh td cd) {a : Option Addr} {len cap : Nat} {z : List Int} (w : IsRow .u8 W a len cap z) (y : len * 1 ≤ 140737488351232) :
    SCall PP N.debuggerlaw36_MessageOne [.t (.agg ta), .t (.agg tb), .t (.agg tc), .t (.agg td), .t (.lst 1 false ((z.take len).map (T.int .u8)))] [] (RTree (.bool true)) := by
  obtain ⟨p, hp, rfl⟩ := Cells.cm h1
  obtain ⟨q, hq, rfl⟩ := Cells.cm h2
  obtain ⟨R, hR, rfl⟩ := Cells.rp h3
  obtain ⟨R', hR', rfl⟩ := Cells.rp h4
  exact MessageOne_main p q hp hq R R' _ _ hR hR' R.plain R'.plain (z.take len) (IsRow.bytes w) (by rw [w.length]; omega)
end Go.Proofs.Ytljjabccgbakgaa
