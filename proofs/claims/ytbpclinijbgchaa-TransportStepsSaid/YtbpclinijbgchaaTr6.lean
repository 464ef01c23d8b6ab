/- TransportPushes: what the law returns. By the session itself. -/
import Derived.Test.YtbpclinijbgchaaTr5
import Derived.Test.YtbpclinijbgchaaL2
namespace Go.Proofs.Ytbpclinijbgchaa
open Go Go.Abs
set_option maxRecDepth 100000
set_option maxHeartbeats 8000000
set_option linter.unusedSimpArgs false
set_option linter.unusedVariables false

theorem rv_tagg {μ : Nat → Abs.Loc} {S : Nat → Prop} {H : Heap} {W : World} {cs : List T} {u : Value} (h : RV μ S H W (.t (.agg cs)) u) : RV μ S H W (.agg (cs.map V.t)) u := by
  have h' := h.t_inv
  cases h' with
  | agg us hl hh =>
    refine .agg us (by simpa using hl) fun i c w h1 h2 => ?_
    rw [List.getElem?_map] at h1
    cases hc : cs[i]? with
    | none => rw [hc] at h1; cases h1
    | some d =>
      rw [hc] at h1
      simp only [Option.map_some, Option.some.injEq] at h1
      subst h1
      exact .t (hh i d w hc h2)

theorem SCall.tagg {P : Program} {f : FuncId} {cs : List T} {r : List V} {H : Heap} {Q : V → Heap → Prop} (h : SCall P f (.agg (cs.map V.t) :: r) H Q) : SCall P f (.t (.agg cs) :: r) H Q :=
  SCall.argOf 0 rfl (fun _ _ _ _ h => rv_tagg h) h

theorem step_poll {P : Program} {f : FuncId} {H : Heap} {K : St → Prop} {vs : List (Nat × V)} {r : List Ins} {d : Nat} {xs : List Opnd} {D : Ep × List (List Int)}
    (h : SCall P f ((xs.map (ev vs)).map (V.ren (idx []))) [] (RPoll D)) (hk : ∀ cs s t zs, D.1.At cs → (s = 1 ∨ D.2 = []) → QAt D.2 zs → wpR (SCall P) r K ⟨(d, .tup [.t (.agg cs), .t (.lst s t zs)]) :: vs, H⟩) : wpR (SCall P) (⟨some d, none, .call f xs⟩ :: r) K ⟨vs, H⟩ := by
  refine step_call (call_own h ?_)
  rintro r N ⟨cs, s, t, zs, h1, h2, h3, rfl, rfl⟩
  simpa [V.ren, V.renL] using hk cs s t zs h1 h2 h3

theorem step_recv {P : Program} {f : FuncId} {H : Heap} {K : St → Prop} {vs : List (Nat × V)} {r : List Ins} {d : Nat} {xs : List Opnd} {D : Ep × List (List Int) × Bool}
    (h : SCall P f ((xs.map (ev vs)).map (V.ren (idx []))) [] (RRecv D)) (hk : ∀ cs s t zs, D.1.At cs → (s = 1 ∨ D.2.1 = []) → QAt D.2.1 zs → wpR (SCall P) r K ⟨(d, .tup [.t (.agg cs), .t (.lst s t zs), .t (.bool D.2.2)]) :: vs, H⟩) : wpR (SCall P) (⟨some d, none, .call f xs⟩ :: r) K ⟨vs, H⟩ := by
  refine step_call (call_own h ?_)
  rintro r N ⟨cs, s, t, zs, h1, h2, h3, rfl, rfl⟩
  simpa [V.ren, V.renL] using hk cs s t zs h1 h2 h3

theorem step_epEf {P : Program} {f : FuncId} {H H1 : Heap} {K : St → Prop} {vs : List (Nat × V)} {r : List Ins} {d : Nat} {xs : List Opnd} {D : Ep × Int} (i : Nat) {v : V} {x : T} (hget : (xs.map (ev vs))[i]? = some v) (hf : toT H v = some (x, H1))
    (h : SCall P f (((xs.map (ev vs)).set i (.t x)).map (V.ren (idx []))) [] (REpE D)) (hk : ∀ cs, D.1.At cs → wpR (SCall P) r K ⟨(d, .tup [.t (.agg cs), .t (.int .i64 D.2)]) :: vs, H1⟩) : wpR (SCall P) (⟨some d, none, .call f xs⟩ :: r) K ⟨vs, H⟩ := by
  refine step_call (SCall.frz i hget hf (call_own h ?_))
  rintro r N ⟨cs, h1, rfl, rfl⟩
  simpa [V.ren, V.renL] using hk cs h1

theorem keff_mark' {H : Heap} {id off len gen sz : Nat} : keff H .mark [.sl id off len gen sz] = (match H[id]? with
    | some (.row s2 g xs) => if gen = g ∧ s2 = sz then some (0 < len, .sl id off len gen sz, H) else none
    | _ => none) := (rfl)

theorem fine_new (n : Int) (h : 1 ≤ n ∧ n ≤ 100) : (⟨n, 0, 0, 0, 0, 0, [], false⟩ : Ep).Fine :=
  ⟨⟨h.1, by simp only; omega⟩, ⟨by simp, by simp⟩, ⟨by simp, by simp⟩, ⟨by simp, by simp⟩, ⟨by simp, by simp⟩, ⟨by simp, by simp⟩, by simp, fun b hb => by cases hb⟩

theorem awake35_sc : SCall PP N.debuggerlaw35_awake [] [] (RTree (.bool true)) := by
  refine debuggerlaw35_awake.intro (by simp) ?_
  simp (maxSteps := 4000000) -implicitDefEqProofs (disch := omega) only [↓sxPre, sxPost, sxLib, if_true, if_false, Nat.reduceEqDiff, ↓reduceIte, Nat.reduceAdd, Nat.reduceSub, Nat.reduceMul, Nat.reduceLT, Nat.reduceLeDiff, reduceCtorEq, eq_self, K.isEff, List.reduceReplicate]
  refine step_ep (e := ⟨1, 0, 0, 0, 0, 0, [], false⟩) ?_ fun c1 hA1 => ?_
  · simpa [V.ren, V.renL, Abs.get, ev] using tNew_sc 1
  have c := SCall.tagg (tPoll_sc _ c1 hA1 (fine_new 1 ⟨by decide, by decide⟩) 0 ⟨by decide, by decide⟩)
  have hp : poll ⟨1, 0, 0, 0, 0, 0, [], false⟩ 0 = (⟨1, 0, 0, 0, 0, 8, [], false⟩, [(helloP ⟨1, 0, 0, 0, 0, 0, [], false⟩).enc]) := rfl
  rw [hp] at c
  have hr : (helloP ⟨1, 0, 0, 0, 0, 0, [], false⟩).right = true := by decide
  have hd := dec_enc (p := helloP ⟨1, 0, 0, 0, 0, 0, [], false⟩) (fun x hx => by cases hx) hr
  have hbE := Pk.enc_bytes (p := helloP ⟨1, 0, 0, 0, 0, 0, [], false⟩) (fun x hx => by cases hx)
  have lE : (helloP ⟨1, 0, 0, 0, 0, 0, [], false⟩).enc.length ≤ 2 ^ 40 ∧ 0 < (helloP ⟨1, 0, 0, 0, 0, 0, [], false⟩).enc.length := by
    obtain ⟨l1, l2⟩ := Pk.head_len hr
    constructor <;> (simp only [Pk.enc, List.length_append, List.length_cons, List.length_nil]; omega)
  have hrecv : recv ⟨2, 0, 0, 0, 0, 0, [], false⟩ (helloP ⟨1, 0, 0, 0, 0, 0, [], false⟩).enc = (⟨2, 1, 0, 0, 0, 0, [], true⟩, [], false) := by
    unfold recv
    rw [hd]
    rfl
  clear hd hp
  generalize (helloP ⟨1, 0, 0, 0, 0, 0, [], false⟩).enc = E at *
  refine step_poll (D := (⟨1, 0, 0, 0, 0, 8, [], false⟩, [E])) ?_ fun c2 s2 t2 zs hA2 hs2 hq2 => ?_
  · simpa [V.ren, V.renL, Abs.get, ev] using c
  obtain rfl : s2 = 1 := hs2.resolve_right (by simp)
  obtain ⟨sq, tq, ys, hsq, hqq, rfl⟩ := hA2
  obtain ⟨hzl, hza⟩ := hq2
  obtain ⟨s3, t3, hs3, hat⟩ := hza 0 (by simp)
  simp only [List.getElem_cons_zero] at hs3 hat
  obtain rfl : s3 = 1 := hs3.resolve_right (by rintro rfl; simp at lE)
  have hzl' : zs.length = 1 := by simpa using hzl
  simp only [Ep.cells]
  have d1 : decide (((1 : Nat) : Int) = 1) = true := by decide
  have cR : ∀ c3, Ep.At ⟨2, 0, 0, 0, 0, 0, [], false⟩ c3 → SCall PP N.transport_Receive [.t (.agg c3), .t (.lst 1 t3 (B E))] [] (RRecv (⟨2, 1, 0, 0, 0, 0, [], true⟩, [], false)) := by
    intro c3 hA3
    rw [← hrecv]
    exact SCall.tagg (tRecv_sc _ c3 hA3 (fine_new 2 ⟨by decide, by decide⟩) E hbE lE.1 t3)
  have cN := tNew_sc 2
  clear hrecv hza hzl hbE c hA1
  simp (maxSteps := 4000000) -implicitDefEqProofs (disch := omega) only [kstore_ref, putAt_zero, putAt_succ, hzl', d1, Int.reduceToNat, hat, at_zero, ↓sxPre, sxPost, sxLib, if_true, if_false, Nat.reduceEqDiff, ↓reduceIte, Nat.reduceAdd, Nat.reduceSub, Nat.reduceMul, Nat.reduceLT, Nat.reduceLeDiff, reduceCtorEq, eq_self, K.isEff, List.reduceReplicate]
  have hfine : (⟨2, 1, 0, 0, 0, 0, [[120]], true⟩ : Ep).Fine := ⟨by decide, by decide, by decide, by decide, by decide, by decide, by decide, fun b hb => by
    obtain rfl : b = [120] := by simpa using hb
    exact ⟨fun x hx => by simp at hx; omega, by decide⟩⟩
  have hpl : (poll ⟨2, 1, 0, 0, 0, 0, [[120]], true⟩ 1).2.length = 1 := rfl
  have hpush : push ⟨2, 1, 0, 0, 0, 0, [], true⟩ [120] = (⟨2, 1, 0, 0, 0, 0, [[120]], true⟩, 0) := rfl
  refine ⟨⟨by decide, by decide⟩, ?_, ⟨by decide, by decide⟩, ?_⟩
  all_goals
    refine step_eff (step_ep (e := ⟨2, 0, 0, 0, 0, 0, [], false⟩) ?_ fun c3 hA3 => ?_)
    · simpa [V.ren, V.renL, Abs.get, ev] using cN
    have cR3 := cR c3 hA3
    simp (maxSteps := 4000000) -implicitDefEqProofs (disch := omega) only [kstore_ref, putAt_zero, putAt_succ, hzl', Int.reduceToNat, hat, at_zero, ↓sxPre, sxPost, sxLib, if_true, if_false, Nat.reduceEqDiff, ↓reduceIte, Nat.reduceAdd, Nat.reduceSub, Nat.reduceMul, Nat.reduceLT, Nat.reduceLeDiff, reduceCtorEq, eq_self, K.isEff, List.reduceReplicate]
  · refine ⟨⟨by decide, by decide⟩, ?_, ⟨by decide, by decide⟩, ?_⟩
    all_goals
      refine step_eff (step_recv (D := (⟨2, 1, 0, 0, 0, 0, [], true⟩, [], false)) ?_ fun c4 s4 t4 z4 hA4 hs4 hq4 => ?_)
      · simpa [V.ren, V.renL, Abs.get, ev] using cR3
      obtain ⟨sq4, tq4, y4, hsq4, hqq4, rfl⟩ := id hA4
      simp only [Ep.cells]
      simp (maxSteps := 4000000) -implicitDefEqProofs (disch := omega) only [kstore_ref, putAt_zero, putAt_succ, hzl', Int.reduceToNat, hat, at_zero, keff_mark', ↓sxPre, sxPost, sxLib, if_true, if_false, Nat.reduceEqDiff, ↓reduceIte, Nat.reduceAdd, Nat.reduceSub, Nat.reduceMul, Nat.reduceLT, Nat.reduceLeDiff, reduceCtorEq, eq_self, K.isEff, List.reduceReplicate]
      try refine ⟨⟨by decide, by decide⟩, ?_⟩
      refine step_epEf (D := (⟨2, 1, 0, 0, 0, 0, [[120]], true⟩, 0)) (x := .lst 1 false (B [120])) 1 rfl rfl ?_ fun c5 hA5 => ?_
      · have := tPush_sc ⟨2, 1, 0, 0, 0, 0, [], true⟩ _ hA4 ⟨by decide, fun b hb => by cases hb⟩ [120] (fun x hx => by simp at hx; omega) 1 false (.inl rfl)
        rw [hpush] at this
        simpa [Ep.cells, V.ren, V.renL, Abs.get, ev] using this
      obtain ⟨sq5, tq5, y5, hsq5, hqq5, rfl⟩ := id hA5
      have cP := tPoll_sc _ _ hA5 hfine 1 ⟨by decide, by decide⟩
      simp only [Ep.cells, List.map_cons, List.map_nil] at cP ⊢
      generalize poll ⟨2, 1, 0, 0, 0, 0, [[120]], true⟩ 1 = PD at *
      simp (maxSteps := 4000000) -implicitDefEqProofs (disch := omega) only [kstore_ref, putAt_zero, putAt_succ, ↓sxPre, sxPost, sxLib, if_true, if_false, Nat.reduceEqDiff, ↓reduceIte, Nat.reduceAdd, Nat.reduceSub, Nat.reduceMul, Nat.reduceLT, Nat.reduceLeDiff, reduceCtorEq, eq_self, K.isEff, List.reduceReplicate]
      refine step_poll (D := PD) ?_ fun c6 s6 t6 z6 hA6 hs6 hq6 => ?_
      · simpa [V.ren, V.renL, Abs.get, ev] using cP
      obtain ⟨PE, PL⟩ := PD
      obtain ⟨sq6, tq6, y6, hsq6, hqq6, rfl⟩ := hA6
      have hz6 : z6.length = 1 := by rw [hq6.1]; exact hpl
      simp only [Ep.cells]
      simp (maxSteps := 4000000) -implicitDefEqProofs (disch := omega) only [kstore_ref, putAt_zero, putAt_succ, hz6, d1, ↓sxPre, sxPost, sxLib, if_true, if_false, Nat.reduceEqDiff, ↓reduceIte, Nat.reduceAdd, Nat.reduceSub, Nat.reduceMul, Nat.reduceLT, Nat.reduceLeDiff, reduceCtorEq, eq_self, K.isEff, List.reduceReplicate]
      refine finK_gc [] ?_
      simp [gcSt, keepOk, finG, resV, resOne, resAll, idx, V.ren, V.renL, Obj.ren, get_cons, get_nil, RTree, RTup, RRow]
  · refine ⟨⟨by decide, by decide⟩, ?_⟩
    refine step_eff (step_recv (D := (⟨2, 1, 0, 0, 0, 0, [], true⟩, [], false)) ?_ fun c4 s4 t4 z4 hA4 hs4 hq4 => ?_)
    · simpa [V.ren, V.renL, Abs.get, ev] using cR3
    obtain ⟨sq4, tq4, y4, hsq4, hqq4, rfl⟩ := id hA4
    simp only [Ep.cells]
    simp (maxSteps := 4000000) -implicitDefEqProofs (disch := omega) only [kstore_ref, putAt_zero, putAt_succ, hzl', Int.reduceToNat, hat, at_zero, keff_mark', ↓sxPre, sxPost, sxLib, if_true, if_false, Nat.reduceEqDiff, ↓reduceIte, Nat.reduceAdd, Nat.reduceSub, Nat.reduceMul, Nat.reduceLT, Nat.reduceLeDiff, reduceCtorEq, eq_self, K.isEff, List.reduceReplicate]
    try refine ⟨⟨by decide, by decide⟩, ?_⟩
    refine step_epEf (D := (⟨2, 1, 0, 0, 0, 0, [[120]], true⟩, 0)) (x := .lst 1 false (B [120])) 1 rfl rfl ?_ fun c5 hA5 => ?_
    · have := tPush_sc ⟨2, 1, 0, 0, 0, 0, [], true⟩ _ hA4 ⟨by decide, fun b hb => by cases hb⟩ [120] (fun x hx => by simp at hx; omega) 1 false (.inl rfl)
      rw [hpush] at this
      simpa [Ep.cells, V.ren, V.renL, Abs.get, ev] using this
    obtain ⟨sq5, tq5, y5, hsq5, hqq5, rfl⟩ := id hA5
    have cP := tPoll_sc _ _ hA5 hfine 1 ⟨by decide, by decide⟩
    simp only [Ep.cells, List.map_cons, List.map_nil] at cP ⊢
    generalize poll ⟨2, 1, 0, 0, 0, 0, [[120]], true⟩ 1 = PD at *
    simp (maxSteps := 4000000) -implicitDefEqProofs (disch := omega) only [kstore_ref, putAt_zero, putAt_succ, ↓sxPre, sxPost, sxLib, if_true, if_false, Nat.reduceEqDiff, ↓reduceIte, Nat.reduceAdd, Nat.reduceSub, Nat.reduceMul, Nat.reduceLT, Nat.reduceLeDiff, reduceCtorEq, eq_self, K.isEff, List.reduceReplicate]
    refine step_poll (D := PD) ?_ fun c6 s6 t6 z6 hA6 hs6 hq6 => ?_
    · simpa [V.ren, V.renL, Abs.get, ev] using cP
    obtain ⟨PE, PL⟩ := PD
    obtain ⟨sq6, tq6, y6, hsq6, hqq6, rfl⟩ := hA6
    have hz6 : z6.length = 1 := by rw [hq6.1]; exact hpl
    simp only [Ep.cells]
    simp (maxSteps := 4000000) -implicitDefEqProofs (disch := omega) only [kstore_ref, putAt_zero, putAt_succ, hz6, d1, ↓sxPre, sxPost, sxLib, if_true, if_false, Nat.reduceEqDiff, ↓reduceIte, Nat.reduceAdd, Nat.reduceSub, Nat.reduceMul, Nat.reduceLT, Nat.reduceLeDiff, reduceCtorEq, eq_self, K.isEff, List.reduceReplicate]
    refine finK_gc [] ?_
    simp [gcSt, keepOk, finG, resV, resOne, resAll, idx, V.ren, V.renL, Obj.ren, get_cons, get_nil, RTree, RTup, RRow]
end Go.Proofs.Ytbpclinijbgchaa
