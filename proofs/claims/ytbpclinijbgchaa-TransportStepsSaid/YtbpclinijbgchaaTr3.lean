/- Transport: Poll's sending. By the session itself. -/
import Derived.Test.YtbpclinijbgchaaTr2
namespace Go.Proofs.Ytbpclinijbgchaa
open Go Go.Abs
set_option maxRecDepth 100000
set_option maxHeartbeats 8000000
set_option linter.unusedSimpArgs false
set_option linter.unusedVariables false

theorem cloneT_sc (e : Ep) (cs : List T) (hA : e.At cs) (hq : QOk e.queue) : SCall PP N.transport_clone [.agg (cs.map V.t)] [] (REp e) := by
  refine (clone_sc e cs hA hq).weak ?_
  rintro r F (⟨h0, rfl, rfl⟩ | ⟨g, zs, hz, rfl, rfl⟩)
  · obtain ⟨cs1, H1, hE, hAt⟩ := vals_toElem e (.t (.lst 0 true [])) [] (.inl ⟨h0, rfl⟩)
    exact ⟨_, _, (weak_one (n := 0) hE).trans (weak_to [0] [] rfl (Nat.le_refl _) (by simp) (by simp) rfl), cs1, hAt, by simp [get_cons, V.ren], rfl⟩
  · have hzt : zs.take e.queue.length = zs := List.take_of_length_le (by rw [hz.1]; omega)
    obtain ⟨cs1, H1, hE, hAt⟩ := vals_toElem e (.sl 0 0 e.queue.length g 1) [.row 1 g zs] (.inr (.inr ⟨0, 0, g, zs, rfl, rfl, by simpa [hzt] using hz⟩))
    exact ⟨_, _, (weak_one (n := 0) hE).trans (weak_to [0] [] rfl (Nat.le_refl _) (by simp) (by simp) rfl), cs1, hAt, by simp [get_cons, V.ren], rfl⟩

/-- What is sent so far. -/
def OutAt (id : Nat) (zs : List T) (x : V) (R : Heap) : Prop := (zs = [] ∧ x = .t (.lst 0 true []) ∧ R = []) ∨ ∃ g, x = .sl id 0 zs.length g 1 ∧ R = [.row 1 g zs]
def RSend (e : Ep) (y : T) (zs : List T) (r : V) (F : Heap) : Prop := r = .tup [] ∧ ∃ g, F = [.box (e.vals (.t y)), .box [.sl 3 0 zs.length g 1], .box [.t (.bool true)], .row 1 g zs]

theorem send_sc (p : Pk) (hp : p.Ok) (sz : Nat) (tt : Bool) (hsz : sz = 1 ∨ p.body = []) (e : Ep) (he : I64 e.epoch) (hr : ({ p with src := e.epoch } : Pk).right = true) (y : T) (hy : y.one = true) (zs : List T) (hzl : zs.length ≤ 2 ^ 40) (x : V) (R : Heap) (h : OutAt 3 zs x R) (b : Bool) :
    SCall PP N.transport_Poll_1 [.agg ((p.cells sz tt).map V.t), .ref 0 0, .ref 1 0, .ref 2 0] (.box (e.vals (.t y)) :: .box [x] :: .box [.t (.bool b)] :: R) (RSend e y (zs ++ [.lst 1 false (B ({ p with src := e.epoch } : Pk).enc)])) := by
  refine transport_Poll_1.intro (by simp) ?_
  have hp' : ({ p with src := e.epoch } : Pk).Ok := ⟨hp.1, he, hp.2.2⟩
  have cE := Encode_sc _ hp' hr sz tt hsz
  have lE : ({ p with src := e.epoch } : Pk).enc.length ≤ 2 ^ 40 := by
    obtain ⟨l1, l2⟩ := Pk.head_len hr
    simp only [Pk.enc, List.length_append, List.length_cons, List.length_nil]; omega
  generalize ({ p with src := e.epoch } : Pk).enc = E at *
  simp only [Pk.cells, Ep.vals, List.map_cons, List.map_nil] at *
  rcases h with ⟨rfl, rfl, rfl⟩ | ⟨g, rfl, rfl⟩
  · simp (maxSteps := 4000000) -implicitDefEqProofs (disch := omega) only [kstore_ref, putAt_zero, putAt_succ, ↓sxPre, sxPost, sxLib, if_true, if_false, Nat.reduceEqDiff, ↓reduceIte, Nat.reduceAdd, Nat.reduceSub, Nat.reduceMul, Nat.reduceLT, Nat.reduceLeDiff, reduceCtorEq, eq_self, K.isEff, List.reduceReplicate]
    refine step_enc (ys := E) ?_ fun ga => ?_
    · simpa [Abs.view, viewL, Abs.get, ev] using cE
    simp (maxSteps := 4000000) -implicitDefEqProofs (disch := omega) only [kstore_ref, putAt_zero, putAt_succ, keff_buildSlice, toElems_cons, toElems_nil, toElem_rw, setElems_cons, setElems_nil, B_length, B_all, elems_lst', kappend_nil, ↓sxPre, sxPost, sxLib, if_true, if_false, Nat.reduceEqDiff, ↓reduceIte, Nat.reduceAdd, Nat.reduceSub, Nat.reduceMul, Nat.reduceLT, Nat.reduceLeDiff, reduceCtorEq, eq_self, K.isEff, List.reduceReplicate]
    refine ⟨by decide, ?_⟩
    refine finK_gc [0, 1, 2, 5] ?_
    simp [finG, keepOk, resV, resAll, RSend, Ep.vals, V.ren, V.renL, Obj.ren, idx, hy]
    rfl
  · simp (maxSteps := 4000000) -implicitDefEqProofs (disch := omega) only [kstore_ref, putAt_zero, putAt_succ, ↓sxPre, sxPost, sxLib, if_true, if_false, Nat.reduceEqDiff, ↓reduceIte, Nat.reduceAdd, Nat.reduceSub, Nat.reduceMul, Nat.reduceLT, Nat.reduceLeDiff, reduceCtorEq, eq_self, K.isEff, List.reduceReplicate]
    refine step_enc (ys := E) ?_ fun ga => ?_
    · simpa [Abs.view, viewL, Abs.get, ev] using cE
    simp (maxSteps := 4000000) -implicitDefEqProofs (disch := omega) only [kstore_ref, putAt_zero, putAt_succ, keff_buildSlice, toElems_cons, toElems_nil, toElem_rw, setElems_cons, setElems_nil, B_length, B_all, elems_lst', kappend_nil, ↓sxPre, sxPost, sxLib, if_true, if_false, Nat.reduceEqDiff, ↓reduceIte, Nat.reduceAdd, Nat.reduceSub, Nat.reduceMul, Nat.reduceLT, Nat.reduceLeDiff, reduceCtorEq, eq_self, K.isEff, List.reduceReplicate]
    refine ⟨by omega, ?_⟩
    refine finK_gc [0, 1, 2, 3] ?_
    simp [finG, keepOk, resV, resAll, RSend, Ep.vals, V.ren, V.renL, Obj.ren, idx, hy]
    rfl
end Go.Proofs.Ytbpclinijbgchaa
