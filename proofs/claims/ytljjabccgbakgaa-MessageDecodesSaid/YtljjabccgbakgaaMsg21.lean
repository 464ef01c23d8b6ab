/- MessageOne: rules. By the session itself. -/
import Derived.Test.YtljjabccgbakgaaMsg20
namespace Go.Proofs.Ytljjabccgbakgaa
open Go Go.Abs
set_option maxRecDepth 100000
set_option maxHeartbeats 4000000
set_option linter.unusedSimpArgs false
set_option linter.unusedVariables false

def RDecCT (D : Cm × Int) (r : V) (F : Heap) : Prop := ∃ sz t, (sz = 1 ∨ D.1.words = []) ∧ r = .tup [.t (.agg (D.1.cells sz t)), .t (.int .i64 D.2)] ∧ F = []

theorem DecodeCommand_scT (b : List Int) (hb : Bytes b) (hl : b.length ≤ 2 ^ 40) : SCall PP N.message_DecodeCommand [.t (.lst 1 false (B b))] [] (RDecCT (decC b)) := by
  refine (DecodeCommand_sc b hb hl).weak ?_
  rintro r F ⟨x, rfl, ⟨rfl, h0, rfl⟩ | ⟨g, rfl, rfl⟩⟩
  · refine ⟨_, _, (weak_tup (xs := [.agg ((decC b).1.cells 0 true), .int .i64 (decC b).2]) (H1 := []) ?_).trans (weak_to [0] [] rfl (Nat.le_refl _) (by simp) (by simp) rfl), ?_⟩
    · simp only [Cm.vals, Cm.cells, toElems_cons, toElems_nil, toElem_agg, toElem_t, toTs_cons, toTs_nil, toT_t]
      rw [h0]; rfl
    · exact ⟨0, true, .inr h0, by simp only [get_cons, if_true, V.ren, V.renL, List.map_cons, List.map_nil], rfl⟩
  · have hlt : (Ns (decC b).1.words).take (decC b).1.words.length = Ns (decC b).1.words := List.take_of_length_le (by rw [Ns_length]; omega)
    refine ⟨_, _, (weak_tup (xs := [.agg ((decC b).1.cells 1 false), .int .i64 (decC b).2]) (H1 := [.frz 1 g (Ns (decC b).1.words)]) ?_).trans (weak_to [0] [] rfl (Nat.le_refl _) (by simp) (by simp) rfl), ?_⟩
    · simp only [Cm.vals, Cm.cells, toElems_cons, toElems_nil, toElem_agg, toElem_t, toTs_cons, toTs_nil, toT_t, toT_sl]
      simp [rowOf, hlt]
    · exact ⟨1, false, .inl rfl, by simp only [get_cons, if_true, V.ren, V.renL, List.map_cons, List.map_nil], rfl⟩

theorem step_decCT {P : Program} {f : FuncId} {H : Heap} {K : St → Prop} {vs : List (Nat × V)} {r : List Ins} {d : Nat} {xs : List Opnd} {D : Cm × Int}
    (h : SCall P f ((xs.map (ev vs)).map (V.ren (idx []))) [] (RDecCT D)) (hk : ∀ sz t, (sz = 1 ∨ D.1.words = []) → wpR (SCall P) r K ⟨(d, .tup [.t (.agg (D.1.cells sz t)), .t (.int .i64 D.2)]) :: vs, H⟩) : wpR (SCall P) (⟨some d, none, .call f xs⟩ :: r) K ⟨vs, H⟩ := by
  refine step_call (call_own h ?_)
  rintro r N ⟨sz, t, hs, rfl, rfl⟩
  simpa [V.ren, V.renL] using hk sz t hs

theorem step_decRT {P : Program} {f : FuncId} {H : Heap} {K : St → Prop} {vs : List (Nat × V)} {r : List Ins} {d : Nat} {xs : List Opnd} {D : Rp × Int}
    (h : SCall P f ((xs.map (ev vs)).map (V.ren (idx []))) [] (RDecR D)) (hk : ∀ cs, D.1.At cs → wpR (SCall P) r K ⟨(d, .tup [.t (.agg cs), .t (.int .i64 D.2)]) :: vs, H⟩) : wpR (SCall P) (⟨some d, none, .call f xs⟩ :: r) K ⟨vs, H⟩ := by
  refine step_call (call_own h ?_)
  rintro r N ⟨cs, h1, rfl, rfl⟩
  simpa [V.ren, V.renL] using hk cs h1

theorem SameCommand_sc (p q : Cm) (hl : p.words.length < 2 ^ 62) (s1 s2 : Nat) (t1 t2 : Bool) (h1 : s1 = 1 ∨ p.words = []) (h2 : s2 = 1 ∨ q.words = []) :
    SCall PP N.debuggerequal_SameCommand [.agg ((p.cells s1 t1).map V.t), .agg ((q.cells s2 t2).map V.t)] [] (RTree (.bool (decide (p = q)))) := by
  refine debuggerequal_SameCommand.intro (by simp) ?_
  obtain ⟨a1, a2, a3, a4, a5⟩ := p
  obtain ⟨b1, b2, b3, b4, b5⟩ := q
  have c := Ints_sc a5 b5 s1 s2 t1 t2 h1 h2 hl
  obtain ⟨D, hD⟩ : ∃ D, D = decide ((⟨a1, a2, a3, a4, a5⟩ : Cm) = ⟨b1, b2, b3, b4, b5⟩) := ⟨_, rfl⟩
  rw [← hD]
  simp only [Cm.cells]
  by_cases g : a1 = b1 ∧ a2 = b2 ∧ a3 = b3 ∧ a4 = b4
  · obtain ⟨rfl, rfl, rfl, rfl⟩ := g
    have e : D = decide (a5 = b5) := by rw [hD]; simp
    subst e
    simp (maxSteps := 4000000) -implicitDefEqProofs (disch := omega) only [↓sxPre, sxPost, sxLib, if_true, if_false, Nat.reduceEqDiff, ↓reduceIte, Nat.reduceAdd, Nat.reduceSub, Nat.reduceMul, Nat.reduceLT, Nat.reduceLeDiff, reduceCtorEq, eq_self, K.isEff, List.reduceReplicate]
    refine step_guard rfl (fun _ => step_tree c rfl ?_) (fun h => absurd rfl h)
    simp (maxSteps := 4000000) -implicitDefEqProofs (disch := omega) only [↓sxPre, sxPost, sxLib, if_true, if_false, Nat.reduceEqDiff, ↓reduceIte, Nat.reduceAdd, Nat.reduceSub, Nat.reduceMul, Nat.reduceLT, Nat.reduceLeDiff, reduceCtorEq, eq_self, K.isEff, List.reduceReplicate]
    refine finK_gc [] ?_
    simp [gcSt, keepOk, finG, resV, resOne, resAll, idx, V.ren, V.renL, Obj.ren, get_cons, get_nil, RTree, RTup, RRow]
  · obtain rfl : D = false := by rw [hD]; exact decide_eq_false fun h => by injection h with e1 e2 e3 e4 _; exact g ⟨e1, e2, e3, e4⟩
    cases d1 : decide (a1 = b1) with
    | false =>
      simp (maxSteps := 4000000) -implicitDefEqProofs (disch := omega) only [d1, ↓sxPre, sxPost, sxLib, if_true, if_false, Nat.reduceEqDiff, ↓reduceIte, Nat.reduceAdd, Nat.reduceSub, Nat.reduceMul, Nat.reduceLT, Nat.reduceLeDiff, reduceCtorEq, eq_self, K.isEff, List.reduceReplicate]
      refine step_guard rfl (fun h => absurd h (by decide)) (fun _ => ?_)
      simp (maxSteps := 4000000) -implicitDefEqProofs (disch := omega) only [↓sxPre, sxPost, sxLib, if_true, if_false, Nat.reduceEqDiff, ↓reduceIte, Nat.reduceAdd, Nat.reduceSub, Nat.reduceMul, Nat.reduceLT, Nat.reduceLeDiff, reduceCtorEq, eq_self, K.isEff, List.reduceReplicate]
      refine finK_gc [] ?_
      simp [gcSt, keepOk, finG, resV, resOne, resAll, idx, V.ren, V.renL, Obj.ren, get_cons, get_nil, RTree, RTup, RRow]
    | true =>
      cases d2 : decide (a2 = b2) with
      | false =>
        simp (maxSteps := 4000000) -implicitDefEqProofs (disch := omega) only [d1, d2, ↓sxPre, sxPost, sxLib, if_true, if_false, Nat.reduceEqDiff, ↓reduceIte, Nat.reduceAdd, Nat.reduceSub, Nat.reduceMul, Nat.reduceLT, Nat.reduceLeDiff, reduceCtorEq, eq_self, K.isEff, List.reduceReplicate]
        refine step_guard rfl (fun h => absurd h (by decide)) (fun _ => ?_)
        simp (maxSteps := 4000000) -implicitDefEqProofs (disch := omega) only [↓sxPre, sxPost, sxLib, if_true, if_false, Nat.reduceEqDiff, ↓reduceIte, Nat.reduceAdd, Nat.reduceSub, Nat.reduceMul, Nat.reduceLT, Nat.reduceLeDiff, reduceCtorEq, eq_self, K.isEff, List.reduceReplicate]
        refine finK_gc [] ?_
        simp [gcSt, keepOk, finG, resV, resOne, resAll, idx, V.ren, V.renL, Obj.ren, get_cons, get_nil, RTree, RTup, RRow]
      | true =>
        cases d3 : decide (a3 = b3) with
        | false =>
          simp (maxSteps := 4000000) -implicitDefEqProofs (disch := omega) only [d1, d2, d3, ↓sxPre, sxPost, sxLib, if_true, if_false, Nat.reduceEqDiff, ↓reduceIte, Nat.reduceAdd, Nat.reduceSub, Nat.reduceMul, Nat.reduceLT, Nat.reduceLeDiff, reduceCtorEq, eq_self, K.isEff, List.reduceReplicate]
          refine step_guard rfl (fun h => absurd h (by decide)) (fun _ => ?_)
          simp (maxSteps := 4000000) -implicitDefEqProofs (disch := omega) only [↓sxPre, sxPost, sxLib, if_true, if_false, Nat.reduceEqDiff, ↓reduceIte, Nat.reduceAdd, Nat.reduceSub, Nat.reduceMul, Nat.reduceLT, Nat.reduceLeDiff, reduceCtorEq, eq_self, K.isEff, List.reduceReplicate]
          refine finK_gc [] ?_
          simp [gcSt, keepOk, finG, resV, resOne, resAll, idx, V.ren, V.renL, Obj.ren, get_cons, get_nil, RTree, RTup, RRow]
        | true =>
          have d4 : decide (a4 = b4) = false := decide_eq_false fun h => g ⟨of_decide_eq_true d1, of_decide_eq_true d2, of_decide_eq_true d3, h⟩
          simp (maxSteps := 4000000) -implicitDefEqProofs (disch := omega) only [d1, d2, d3, d4, ↓sxPre, sxPost, sxLib, if_true, if_false, Nat.reduceEqDiff, ↓reduceIte, Nat.reduceAdd, Nat.reduceSub, Nat.reduceMul, Nat.reduceLT, Nat.reduceLeDiff, reduceCtorEq, eq_self, K.isEff, List.reduceReplicate]
          refine step_guard rfl (fun h => absurd h (by decide)) (fun _ => ?_)
          simp (maxSteps := 4000000) -implicitDefEqProofs (disch := omega) only [↓sxPre, sxPost, sxLib, if_true, if_false, Nat.reduceEqDiff, ↓reduceIte, Nat.reduceAdd, Nat.reduceSub, Nat.reduceMul, Nat.reduceLT, Nat.reduceLeDiff, reduceCtorEq, eq_self, K.isEff, List.reduceReplicate]
          refine finK_gc [] ?_
          simp [gcSt, keepOk, finG, resV, resOne, resAll, idx, V.ren, V.renL, Obj.ren, get_cons, get_nil, RTree, RTup, RRow]
end Go.Proofs.Ytljjabccgbakgaa
