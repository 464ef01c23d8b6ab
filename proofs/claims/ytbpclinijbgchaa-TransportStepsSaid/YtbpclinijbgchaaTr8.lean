/- Transport: the specification's Poll. By the session itself. -/
import Derived.Test.YtbpclinijbgchaaTr7
namespace Go.Proofs.Ytbpclinijbgchaa
open Go Go.Abs
set_option maxRecDepth 100000
set_option maxHeartbeats 8000000
set_option linter.unusedSimpArgs false
set_option linter.unusedVariables false

def RRs (zs : List T) (r : V) (F : Heap) : Prop := ∃ g, r = .sl 0 0 zs.length g 1 ∧ F = [.row 1 g zs]

theorem rsend_sc (p : Pk) (hp : p.Ok) (hr : p.right = true) (sz : Nat) (tt : Bool) (hsz : sz = 1 ∨ p.body = []) (zs : List T) (hzl : zs.length ≤ 2 ^ 40) (x : V) (R : Heap) (h : OutAt 0 zs x R) :
    SCall PP N.debuggerref35_send [x, .agg ((p.cells sz tt).map V.t)] R (RRs (zs ++ [.lst 1 false (B p.enc)])) := by
  refine debuggerref35_send.intro (by simp) ?_
  have cE := rEncode_sc _ hp hr sz tt hsz
  have lE : p.enc.length ≤ 2 ^ 40 := by
    obtain ⟨l1, l2⟩ := Pk.head_len hr
    simp only [Pk.enc, List.length_append, List.length_cons, List.length_nil]; omega
  generalize p.enc = E at *
  simp only [Pk.cells, List.map_cons, List.map_nil] at *
  rcases h with ⟨rfl, rfl, rfl⟩ | ⟨g, rfl, rfl⟩
  · simp (maxSteps := 4000000) -implicitDefEqProofs (disch := omega) only [kstore_ref, putAt_zero, putAt_succ, ↓sxPre, sxPost, sxLib, if_true, if_false, Nat.reduceEqDiff, ↓reduceIte, Nat.reduceAdd, Nat.reduceSub, Nat.reduceMul, Nat.reduceLT, Nat.reduceLeDiff, reduceCtorEq, eq_self, K.isEff, List.reduceReplicate]
    refine step_enc (ys := E) ?_ fun ga => ?_
    · simpa [Abs.view, viewL, Abs.get, ev] using cE
    simp (maxSteps := 4000000) -implicitDefEqProofs (disch := omega) only [kstore_ref, putAt_zero, putAt_succ, keff_buildSlice, toElems_cons, toElems_nil, toElem_rw, setElems_cons, setElems_nil, B_length, B_all, elems_lst', kappend_nil, ↓sxPre, sxPost, sxLib, if_true, if_false, Nat.reduceEqDiff, ↓reduceIte, Nat.reduceAdd, Nat.reduceSub, Nat.reduceMul, Nat.reduceLT, Nat.reduceLeDiff, reduceCtorEq, eq_self, K.isEff, List.reduceReplicate]
    refine ⟨by decide, ?_⟩
    refine finK_gc [2] ?_
    simp [finG, keepOk, resV, resAll, resOne, get_cons, RRs, V.ren, V.renL, Obj.ren, idx]
  · simp (maxSteps := 4000000) -implicitDefEqProofs (disch := omega) only [kstore_ref, putAt_zero, putAt_succ, ↓sxPre, sxPost, sxLib, if_true, if_false, Nat.reduceEqDiff, ↓reduceIte, Nat.reduceAdd, Nat.reduceSub, Nat.reduceMul, Nat.reduceLT, Nat.reduceLeDiff, reduceCtorEq, eq_self, K.isEff, List.reduceReplicate]
    refine step_enc (ys := E) ?_ fun ga => ?_
    · simpa [Abs.view, viewL, Abs.get, ev] using cE
    simp (maxSteps := 4000000) -implicitDefEqProofs (disch := omega) only [kstore_ref, putAt_zero, putAt_succ, keff_buildSlice, toElems_cons, toElems_nil, toElem_rw, setElems_cons, setElems_nil, B_length, B_all, elems_lst', kappend_nil, ↓sxPre, sxPost, sxLib, if_true, if_false, Nat.reduceEqDiff, ↓reduceIte, Nat.reduceAdd, Nat.reduceSub, Nat.reduceMul, Nat.reduceLT, Nat.reduceLeDiff, reduceCtorEq, eq_self, K.isEff, List.reduceReplicate]
    refine ⟨by omega, ?_⟩
    refine finK_gc [0] ?_
    simp [finG, keepOk, resV, resAll, resOne, get_cons, RRs, V.ren, V.renL, Obj.ren, idx]

theorem step_rsend {K : St → Prop} {vs : List (Nat × V)} {r : List Ins} {d : Nat} {xs : List Opnd} (p : Pk) (hp : p.Ok) (hr : p.right = true) (sz : Nat) (tt : Bool) (hsz : sz = 1 ∨ p.body = [])
    (zs : List T) (hzl : zs.length ≤ 2 ^ 40) (x : V) (R : Heap) (h : OutAt 2 zs x R) (c1 c2 : List V)
    (hx : xs.map (ev vs) = [x, .agg ((p.cells sz tt).map V.t)])
    (hk : ∀ g, wpR (SCall PP) r K ⟨(d, .sl 2 0 (zs.length + 1) g 1) :: vs, [.box c1, .box c2, .row 1 g (zs ++ [.lst 1 false (B p.enc)])]⟩) :
    wpR (SCall PP) (⟨some d, none, .call N.debuggerref35_send xs⟩ :: r) K ⟨vs, .box c1 :: .box c2 :: R⟩ := by
  have hren : ∀ ρ : Nat → Option Nat, V.ren ρ (.agg ((p.cells sz tt).map V.t)) = .agg ((p.cells sz tt).map V.t) := by
    intro ρ; simp [V.ren, renL_t]
  refine step_call ?_
  rw [hx]
  rcases h with ⟨rfl, rfl, rfl⟩ | ⟨g, rfl, rfl⟩
  · refine call_fr [] (by simp) (by simp) (Q := RRs ([] ++ [.lst 1 false (B p.enc)])) ?_ ?_
    · have := rsend_sc p hp hr sz tt hsz [] (by simp) (.t (.lst 0 true [])) [] (.inl ⟨rfl, rfl, rfl⟩)
      simpa [hren, renL_t, V.ren, idx, sub, Obj.ren] using this
    · rintro r0 F ⟨g, rfl, rfl⟩
      have := hk g
      simpa [merge, setAll, V.ren, V.renL, Obj.ren, tau] using this
  · refine call_fr [2] (by simp) (by simp) (Q := RRs (zs ++ [.lst 1 false (B p.enc)])) ?_ ?_
    · have := rsend_sc p hp hr sz tt hsz zs hzl (.sl 0 0 zs.length g 1) [.row 1 g zs] (.inr ⟨g, rfl, rfl⟩)
      simpa [hren, renL_t, V.ren, idx, sub, Obj.ren] using this
    · rintro r0 F ⟨g, rfl, rfl⟩
      have := hk g
      simpa [merge, setAll, V.ren, V.renL, Obj.ren, tau] using this

theorem rpoll_l0 (Q : Ex → St → Prop) (e : Ep) (hF : e.Fine) (now : Int) (hn : -2 ^ 60 ≤ now ∧ now ≤ 2 ^ 60) (S : Int) (hS : e.acked ≤ S ∧ S ≤ 2 ^ 29) (M : Nat) (hM : M = (min (e.acked + 4) (e.acked + e.queue.length) - S).toNat) (s : Nat) (t : Bool) (ys : List T) (hs : s = 1 ∨ e.queue = []) (hqa : QAt e.queue ys) (st : St)
    (hk : keepOk 0 [0, 1] st.h.length) (hst : gcSt [1, 2, 4, 6] [0, 1] st = ⟨[(1, .t (.int .i64 now)), (2, .ref 0 0), (4, .ref 1 0), (6, .t (.lst 0 true []))], [.box ({ e with sent := S }.vals (.t (.lst s t ys))), .box [.t (.int .i64 0), .t (.int .i64 0), .t (.int .i64 0), .t (.int .i64 0), .t (.int .i64 0), .t (.int .i64 0), .t (.lst 0 true []), .t (.bool false)]]⟩)
    (hQ : ∀ (zs : List T) (x : V) (R : Heap) (vs : List (Nat × V)), QAt (sendFrom e M S) zs → OutAt 2 zs x R → get vs 1 = .t (.int .i64 now) → get vs 2 = .ref 0 0 → get vs 4 = .ref 1 0 → get vs 6 = x →
      Q .norm ⟨vs, .box ({ e with sent := S + M, timer := if 0 < M then now + 8 else e.timer }.vals (.t (.lst s t ys))) :: .box [.t (.int .i64 0), .t (.int .i64 0), .t (.int .i64 0), .t (.int .i64 0), .t (.int .i64 0), .t (.int .i64 0), .t (.lst 0 true []), .t (.bool false)] :: R⟩) :
    wpC (SCall PP) 0 (.loop debuggerref35_Poll.l0) (blockK 0 Q) st := by
  have hF' := hF
  obtain ⟨⟨n1, n2⟩, ⟨n3, n4⟩, ⟨n5, n6⟩, ⟨n7, n8⟩, ⟨n9, n10⟩, ⟨n11, n12⟩, hql, hqb⟩ := hF'
  obtain ⟨hyl, hya⟩ := hqa
  refine wpC_loop_any [1, 2, 4, 6] (fun m st => ∃ (k : Nat) (zs : List T) (x : V) (R : Heap), m + k = M ∧ QAt (sendFrom e k S) zs ∧ OutAt 2 zs x R ∧
      st = ⟨[(1, .t (.int .i64 now)), (2, .ref 0 0), (4, .ref 1 0), (6, x)], .box ({ e with sent := S + k, timer := if 0 < k then now + 8 else e.timer }.vals (.t (.lst s t ys))) :: .box [.t (.int .i64 0), .t (.int .i64 0), .t (.int .i64 0), .t (.int .i64 0), .t (.int .i64 0), .t (.int .i64 0), .t (.lst 0 true []), .t (.bool false)] :: R⟩) M
    ⟨[0, 1], hk, 0, [], _, [], by omega, QAt.nil, .inl ⟨rfl, rfl, rfl⟩, by rw [hst]; simp⟩ ?_
  clear hst hk st
  rintro m st ⟨k, zs, x, R, hm, hz, hx, rfl⟩
  have hzl : zs.length = k := by rw [hz.1, sendFrom_length]
  unfold Ep.vals
  by_cases hc : k < M
  · clear hQ
    have c1 : decide (S + k < e.acked + 4) = true := decide_eq_true (by omega)
    have c2 : decide (S + k < e.acked + e.queue.length) = true := decide_eq_true (by omega)
    have hi : (S + k - e.acked).toNat < e.queue.length := by omega
    obtain ⟨s1, t1, hs1, hat⟩ := hya _ hi
    have hs' : s = 1 := hs.resolve_right (by intro h; rw [h] at hi; simp at hi)
    subst hs'
    obtain ⟨w1, w2⟩ := dataP_ok hF (S + k) (by omega) (by omega)
    have hg : e.queue.getD (S + k - e.acked).toNat [] = e.queue[(S + k - e.acked).toNat] := by simp [List.getD_eq_getElem?_getD, hi]
    have hd : dataP e (S + k) = ⟨2, e.epoch, e.peer, S + k + 1, e.got, e.queue[(S + k - e.acked).toNat]⟩ := by unfold dataP; rw [hg]
    rw [hd] at w1 w2
    have hsn := sendFrom_snoc e k S
    rw [hd] at hsn
    generalize e.queue[(S + k - e.acked).toNat] = b at *
    have w3 : (⟨2, e.epoch, e.peer, S + k + 1, e.got, b⟩ : Pk).Ok := ⟨w1.1, ⟨by simp only; omega, by simp only; omega⟩, w1.2.2⟩
    have hbd : 0 ≤ S + k - e.acked ∧ S + k - e.acked < e.queue.length := by omega
    have he1 : S + k + 1 - e.acked - 1 = S + k - e.acked := by omega
    simp (maxSteps := 4000000) -implicitDefEqProofs (disch := omega) only [kstore_ref, putAt_zero, putAt_succ, c1, c2, hyl, he1, hat, at_zero, stepK_build', fillV, ↓sxPre, sxPost, sxLib, if_true, if_false, Nat.reduceEqDiff, ↓reduceIte, Nat.reduceAdd, Nat.reduceSub, Nat.reduceMul, Nat.reduceLT, Nat.reduceLeDiff, reduceCtorEq, eq_self, K.isEff, List.reduceReplicate]
    refine ⟨⟨by omega, by omega⟩, step_eff (step_rsend ⟨2, e.epoch, e.peer, S + k + 1, e.got, b⟩ w3 w2 s1 t1 hs1 zs (by omega) x R hx _ _ rfl (fun g => ?_))⟩
    simp (maxSteps := 4000000) -implicitDefEqProofs (disch := omega) only [kstore_ref, putAt_zero, putAt_succ, ↓sxPre, sxPost, sxLib, if_true, if_false, Nat.reduceEqDiff, ↓reduceIte, Nat.reduceAdd, Nat.reduceSub, Nat.reduceMul, Nat.reduceLT, Nat.reduceLeDiff, reduceCtorEq, eq_self, K.isEff, List.reduceReplicate]
    refine ⟨m - 1, by omega, [0, 1, 2], by simp [gcSt, keepOk, finG, resV, resOne, resAll, idx, V.ren, V.renL, Obj.ren, get_cons, get_nil, RTree, RTup, RRow], k + 1, _, .sl 2 0 (zs.length + 1) g 1, [.row 1 g (zs ++ [.lst 1 false (B (⟨2, e.epoch, e.peer, S + k + 1, e.got, b⟩ : Pk).enc)])], by omega, ?_, .inr ⟨g, by simp, rfl⟩, ?_⟩
    · rw [hsn]; exact hz.snoc _ (.inl rfl)
    · simp [Ep.vals, gcSt, keepOk, finG, resV, resOne, resAll, idx, V.ren, V.renL, Obj.ren, get_cons, get_nil, RTree, RTup, RRow]
      omega
  · obtain rfl : k = M := by omega
    have hcc : decide (S + k < e.acked + 4) = false ∨ (decide (S + k < e.acked + 4) = true ∧ decide (S + k < e.acked + e.queue.length) = false) := by
      by_cases h : S + k < e.acked + 4
      · exact .inr ⟨decide_eq_true h, decide_eq_false (by omega)⟩
      · exact .inl (decide_eq_false h)
    rcases hcc with c1 | ⟨c1, c2⟩
    · simp (maxSteps := 4000000) -implicitDefEqProofs (disch := omega) only [c1, ↓sxPre, sxPost, sxLib, if_true, if_false, Nat.reduceEqDiff, ↓reduceIte, Nat.reduceAdd, Nat.reduceSub, Nat.reduceMul, Nat.reduceLT, Nat.reduceLeDiff, reduceCtorEq, eq_self, K.isEff, List.reduceReplicate]
      exact hQ zs x R _ hz hx rfl rfl rfl rfl
    · simp (maxSteps := 4000000) -implicitDefEqProofs (disch := omega) only [c1, c2, hyl, ↓sxPre, sxPost, sxLib, if_true, if_false, Nat.reduceEqDiff, ↓reduceIte, Nat.reduceAdd, Nat.reduceSub, Nat.reduceMul, Nat.reduceLT, Nat.reduceLeDiff, reduceCtorEq, eq_self, K.isEff, List.reduceReplicate]
      exact hQ zs x R _ hz hx rfl rfl rfl rfl

theorem rtPoll_sc (e : Ep) (cs : List T) (hA : e.At cs) (hF : e.Fine) (now : Int) (hn : -2 ^ 60 ≤ now ∧ now ≤ 2 ^ 60) : SCall PP N.debuggerref35_Poll [.agg (cs.map V.t), .t (.int .i64 now)] [] (RPoll (poll e now)) := by
  refine debuggerref35_Poll.intro (by simp) ?_
  obtain ⟨s, t, ys, hs, ⟨hyl, hya⟩, rfl⟩ := hA
  obtain ⟨⟨n1, n2⟩, ⟨n3, n4⟩, ⟨n5, n6⟩, ⟨n7, n8⟩, ⟨n9, n10⟩, ⟨n11, n12⟩, hql, hqb⟩ := id hF
  simp only [Ep.cells, List.map_cons, List.map_nil] at *
  unfold poll
  by_cases hp : e.peer = 0
  · have d1 : decide (e.peer = 0) = true := decide_eq_true hp
    rw [if_pos hp]
    by_cases ht : e.timer ≤ now
    · have d2 : decide (e.timer ≤ now) = true := decide_eq_true ht
      rw [if_pos ht]
      simp (maxSteps := 4000000) -implicitDefEqProofs (disch := omega) only [kstore_ref, putAt_zero, putAt_succ, d1, d2, stepK_build', fillV, ↓sxPre, sxPost, sxLib, if_true, if_false, Nat.reduceEqDiff, ↓reduceIte, Nat.reduceAdd, Nat.reduceSub, Nat.reduceMul, Nat.reduceLT, Nat.reduceLeDiff, reduceCtorEq, eq_self, K.isEff, List.reduceReplicate]
      obtain ⟨w1, w2⟩ := helloP_ok hF
      have w3 : (helloP e).Ok := ⟨w1.1, ⟨by simp only [helloP]; omega, by simp only [helloP]; omega⟩, w1.2.2⟩
      refine step_rsend (helloP e) w3 w2 0 true (.inr rfl) [] (by simp) _ [] (.inl ⟨rfl, rfl, rfl⟩) _ _ rfl (fun g => ?_)
      have dl : decide ((0 : Int) < ((1 : Nat) : Int)) = true := by decide
      simp (maxSteps := 4000000) -implicitDefEqProofs (disch := omega) only [kstore_ref, putAt_zero, putAt_succ, dl, ↓sxPre, sxPost, sxLib, if_true, if_false, Nat.reduceEqDiff, ↓reduceIte, Nat.reduceAdd, Nat.reduceSub, Nat.reduceMul, Nat.reduceLT, Nat.reduceLeDiff, reduceCtorEq, eq_self, K.isEff, List.reduceReplicate]
      exact finPoll (e := { e with timer := now + 8, owe := false }) (l := [(helloP e).enc]) (tq := t) hs ⟨hyl, hya⟩ rfl rfl rfl (.inr ⟨2, g, _, rfl, QAt.nil.snoc _ (.inl rfl), rfl⟩)
    · have d2 : decide (e.timer ≤ now) = false := decide_eq_false ht
      rw [if_neg ht]
      have dl : decide ((0 : Int) < ((0 : Nat) : Int)) = false := by decide
      simp (maxSteps := 4000000) -implicitDefEqProofs (disch := omega) only [kstore_ref, putAt_zero, putAt_succ, d1, d2, stepK_build', fillV, dl, ↓sxPre, sxPost, sxLib, if_true, if_false, Nat.reduceEqDiff, ↓reduceIte, Nat.reduceAdd, Nat.reduceSub, Nat.reduceMul, Nat.reduceLT, Nat.reduceLeDiff, reduceCtorEq, eq_self, K.isEff, List.reduceReplicate]
      exact finPoll (e := e) (l := []) (tq := t) hs ⟨hyl, hya⟩ rfl rfl rfl (.inl ⟨rfl, rfl⟩)
  · have d1 : decide (e.peer = 0) = false := decide_eq_false hp
    rw [if_neg hp]
    have hS : e.acked ≤ pollS e now ∧ pollS e now ≤ 2 ^ 29 := by unfold pollS; split <;> omega
    have hgo : (decide (e.acked < e.sent) = true ∧ decide (e.timer ≤ now) = true ∧ pollS e now = e.acked) ∨ (decide (e.acked < e.sent) = true ∧ decide (e.timer ≤ now) = false ∧ pollS e now = e.sent) ∨ (decide (e.acked < e.sent) = false ∧ pollS e now = e.sent) := by
      unfold pollS
      by_cases h1 : e.acked < e.sent
      · by_cases h2 : e.timer ≤ now
        · exact .inl ⟨decide_eq_true h1, decide_eq_true h2, if_pos ⟨h1, h2⟩⟩
        · exact .inr (.inl ⟨decide_eq_true h1, decide_eq_false h2, if_neg (fun h => h2 h.2)⟩)
      · exact .inr (.inr ⟨decide_eq_false h1, if_neg (fun h => h1 h.1)⟩)
    have tail : ∀ (zs : List T) (x : V) (R : Heap) (vs : List (Nat × V)), QAt (sendFrom e (pollN e now) (pollS e now)) zs → OutAt 2 zs x R → get vs 1 = .t (.int .i64 now) → get vs 2 = .ref 0 0 → get vs 4 = .ref 1 0 → get vs 6 = x →
        wpC (SCall PP) 0 (.seq (.rgn debuggerref35_Poll.r11) (.cond (.tmp 87) (.rgn debuggerref35_Poll.r12) .skip)) (thenK (wpC (SCall PP) 0 (.seq (.seq (.rgn debuggerref35_Poll.r13) (.cond (.tmp 99) (.rgn debuggerref35_Poll.r14) .skip)) (.seq (.rgn debuggerref35_Poll.r15) .ret)) (exitK 0 [.cell 4 8 false, .tmp 5] (RPoll (poll e now)))) (exitK 0 [.cell 4 8 false, .tmp 5] (RPoll (poll e now))))
          ⟨vs, .box ({ e with sent := pollS e now + pollN e now, timer := if 0 < pollN e now then now + 8 else e.timer }.vals (.t (.lst s t ys))) :: .box [.t (.int .i64 0), .t (.int .i64 0), .t (.int .i64 0), .t (.int .i64 0), .t (.int .i64 0), .t (.int .i64 0), .t (.lst 0 true []), .t (.bool false)] :: R⟩ := by
      intro zs x R vs hz hx v1 v2 v4 v6
      unfold poll
      rw [if_neg hp]
      have hzl : zs.length = pollN e now := by rw [hz.1, sendFrom_length]
      have hlen : klen x = some (True, .int .i64 ((pollN e now : Nat) : Int)) := by
        rcases hx with ⟨rfl, rfl, rfl⟩ | ⟨g, rfl, rfl⟩
        · simp at hzl; rw [← hzl]; rfl
        · rw [← hzl]; rfl
      have hrow : ∀ (l : List (List Int)), QAt l zs → ∀ (A B : Abs.Obj), (l = [] ∧ x = .t (.lst 0 true [])) ∨ ∃ rid g zs', x = .sl rid 0 l.length g 1 ∧ QAt l zs' ∧ rowOf (A :: B :: R)[rid]? = some (1, g, zs') := by
        intro l hl A B
        rcases hx with ⟨rfl, rfl, rfl⟩ | ⟨g, rfl, rfl⟩
        · exact .inl ⟨List.length_eq_zero_iff.1 hl.1.symm, rfl⟩
        · exact .inr ⟨2, g, zs, by rw [hl.1], hl, rfl⟩
      unfold Ep.vals
      by_cases hN : 0 < pollN e now
      · have dN : decide (((pollN e now : Nat) : Int) = 0) = false := decide_eq_false (by omega)
        have dN2 : decide ((0 : Int) < ((pollN e now : Nat) : Int)) = true := decide_eq_true (by omega)
        rw [if_pos hN, if_pos hN]
        simp (maxSteps := 4000000) -implicitDefEqProofs (disch := omega) only [v1, v2, v4, v6, hlen, dN, dN2, kstore_ref, putAt_zero, putAt_succ, ↓sxPre, sxPost, sxLib, if_true, if_false, Nat.reduceEqDiff, ↓reduceIte, Nat.reduceAdd, Nat.reduceSub, Nat.reduceMul, Nat.reduceLT, Nat.reduceLeDiff, reduceCtorEq, eq_self, K.isEff, List.reduceReplicate]
        exact finPoll (e := { e with sent := pollS e now + pollN e now, timer := now + 8, owe := false }) (tq := t) hs ⟨hyl, hya⟩ v4 rfl rfl (hrow _ hz _ _)
      · have dN : decide (((pollN e now : Nat) : Int) = 0) = true := decide_eq_true (by omega)
        have dN2 : decide ((0 : Int) < ((pollN e now : Nat) : Int)) = false := decide_eq_false (by omega)
        have hN0 : pollN e now = 0 := by omega
        have hN1 : pollS e now + ((pollN e now : Nat) : Int) = pollS e now := by omega
        rw [if_neg hN, if_neg hN, hN1]
        rw [hN0] at hz
        cases ho : e.owe with
        | true =>
          rw [if_pos rfl]
          obtain ⟨w1, w2⟩ := ackP_ok hF hp
          have w3 : (ackP e).Ok := ⟨w1.1, ⟨by simp only [ackP]; omega, by simp only [ackP]; omega⟩, w1.2.2⟩
          have hz0 : zs = [] := List.length_eq_zero_iff.1 hz.1
          have dl : decide ((0 : Int) < ((zs.length + 1 : Nat) : Int)) = true := decide_eq_true (by omega)
          simp (maxSteps := 4000000) -implicitDefEqProofs (disch := omega) only [v1, v2, v4, v6, hlen, dN, kstore_ref, putAt_zero, putAt_succ, stepK_build', fillV, ↓sxPre, sxPost, sxLib, if_true, if_false, Nat.reduceEqDiff, ↓reduceIte, Nat.reduceAdd, Nat.reduceSub, Nat.reduceMul, Nat.reduceLT, Nat.reduceLeDiff, reduceCtorEq, eq_self, K.isEff, List.reduceReplicate]
          refine step_rsend (ackP e) w3 w2 0 true (.inr rfl) zs (by rw [hz0]; simp) x R hx _ _ (by simp [ev, v6, get_cons, ackP, Pk.cells, B]) (fun g => ?_)
          simp (maxSteps := 4000000) -implicitDefEqProofs (disch := omega) only [v1, v2, v4, v6, dl, kstore_ref, putAt_zero, putAt_succ, ↓sxPre, sxPost, sxLib, if_true, if_false, Nat.reduceEqDiff, ↓reduceIte, Nat.reduceAdd, Nat.reduceSub, Nat.reduceMul, Nat.reduceLT, Nat.reduceLeDiff, reduceCtorEq, eq_self, K.isEff, List.reduceReplicate]
          refine finPoll (e := { e with sent := pollS e now, owe := false }) (l := [(ackP e).enc]) (tq := t) hs ⟨hyl, hya⟩ v4 rfl rfl (.inr ⟨2, g, _, by rw [hz0]; rfl, ?_, rfl⟩)
          rw [hz0]
          exact QAt.nil.snoc _ (.inl rfl)
        | false =>
          rw [if_neg (by simp)]
          simp (maxSteps := 4000000) -implicitDefEqProofs (disch := omega) only [v1, v2, v4, v6, hlen, dN, dN2, kstore_ref, putAt_zero, putAt_succ, ↓sxPre, sxPost, sxLib, if_true, if_false, Nat.reduceEqDiff, ↓reduceIte, Nat.reduceAdd, Nat.reduceSub, Nat.reduceMul, Nat.reduceLT, Nat.reduceLeDiff, reduceCtorEq, eq_self, K.isEff, List.reduceReplicate]
          refine finPoll (e := { e with sent := pollS e now, owe := false }) (tq := t) hs ⟨hyl, hya⟩ v4 rfl rfl (hrow _ hz _ _)
    have hpoll : (if 0 < pollN e now then ({ e with sent := pollS e now + pollN e now, timer := now + 8, owe := false }, sendFrom e (pollN e now) (pollS e now)) else if e.owe then ({ e with sent := pollS e now, owe := false }, [(ackP e).enc]) else (({ e with sent := pollS e now }, []) : Ep × List (List Int))) = poll e now := by
      unfold poll; rw [if_neg hp]
    rw [hpoll]
    rcases hgo with ⟨g1, g2, g3⟩ | ⟨g1, g2, g3⟩ | ⟨g1, g3⟩
    · simp (maxSteps := 4000000) -implicitDefEqProofs (disch := omega) only [kstore_ref, putAt_zero, putAt_succ, d1, g1, g2, ↓sxPre, sxPost, sxLib, if_true, if_false, Nat.reduceEqDiff, ↓reduceIte, Nat.reduceAdd, Nat.reduceSub, Nat.reduceMul, Nat.reduceLT, Nat.reduceLeDiff, reduceCtorEq, eq_self, K.isEff, List.reduceReplicate]
      refine rpoll_l0 _ e hF now hn (pollS e now) hS (pollN e now) rfl s t ys hs ⟨hyl, hya⟩ _ (by simp [keepOk]) (by simp [Ep.vals, g3, gcSt, keepOk, finG, resV, resOne, resAll, idx, V.ren, V.renL, Obj.ren, get_cons, get_nil, RTree, RTup, RRow]) tail
    · simp (maxSteps := 4000000) -implicitDefEqProofs (disch := omega) only [kstore_ref, putAt_zero, putAt_succ, d1, g1, g2, ↓sxPre, sxPost, sxLib, if_true, if_false, Nat.reduceEqDiff, ↓reduceIte, Nat.reduceAdd, Nat.reduceSub, Nat.reduceMul, Nat.reduceLT, Nat.reduceLeDiff, reduceCtorEq, eq_self, K.isEff, List.reduceReplicate]
      refine rpoll_l0 _ e hF now hn (pollS e now) hS (pollN e now) rfl s t ys hs ⟨hyl, hya⟩ _ (by simp [keepOk]) (by simp [Ep.vals, g3, gcSt, keepOk, finG, resV, resOne, resAll, idx, V.ren, V.renL, Obj.ren, get_cons, get_nil, RTree, RTup, RRow]) tail
    · simp (maxSteps := 4000000) -implicitDefEqProofs (disch := omega) only [kstore_ref, putAt_zero, putAt_succ, d1, g1, ↓sxPre, sxPost, sxLib, if_true, if_false, Nat.reduceEqDiff, ↓reduceIte, Nat.reduceAdd, Nat.reduceSub, Nat.reduceMul, Nat.reduceLT, Nat.reduceLeDiff, reduceCtorEq, eq_self, K.isEff, List.reduceReplicate]
      refine rpoll_l0 _ e hF now hn (pollS e now) hS (pollN e now) rfl s t ys hs ⟨hyl, hya⟩ _ (by simp [keepOk]) (by simp [Ep.vals, g3, gcSt, keepOk, finG, resV, resOne, resAll, idx, V.ren, V.renL, Obj.ren, get_cons, get_nil, RTree, RTup, RRow]) tail
end Go.Proofs.Ytbpclinijbgchaa
