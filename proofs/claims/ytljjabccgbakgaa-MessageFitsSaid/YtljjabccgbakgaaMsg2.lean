/- Messages: lists of numbers are read. By the session itself. -/
import Derived.Test.YtljjabccgbakgaaMsg1
namespace Go.Proofs.Ytljjabccgbakgaa
open Go Go.Abs
set_option maxRecDepth 100000
set_option maxHeartbeats 4000000
set_option linter.unusedSimpArgs false
set_option linter.unusedVariables false

def rdLoop (b : List Int) : Nat → RS → List Int × RS
  | 0, s => ([], s)
  | k + 1, s => if s.2 then ([], s) else ((rdN (RI b) s).1 :: (rdLoop b k (rdN (RI b) s).2).1, (rdLoop b k (rdN (RI b) s).2).2)
/-- A list of numbers. -/
def rdInts (b : List Int) (most : Int) (s : RS) : List Int × RS :=
  if most < (rdN (RU b) s).1 then ([], ((rdN (RU b) s).2.1, true)) else rdLoop b (rdN (RU b) s).1.toNat (rdN (RU b) s).2

theorem rdLoop_ok {b : List Int} (hb : Bytes b) : ∀ (k : Nat) {s : RS}, SOk b s → SOk b (rdLoop b k s).2 ∧ I64s (rdLoop b k s).1 ∧ (rdLoop b k s).1.length ≤ k
  | 0, s, h => ⟨h, (fun x hx => by cases hx), Nat.le_refl _⟩
  | k + 1, s, h => by
    simp only [rdLoop]
    split
    · exact ⟨h, (fun x hx => by cases hx), by simp⟩
    · have h1 := rdI_ok hb h
      have h2 := rdLoop_ok hb k h1.1
      refine ⟨h2.1, fun x hx => ?_, by simpa using h2.2.2⟩
      rcases List.mem_cons.1 hx with rfl | hx
      · exact h1.2
      · exact h2.2.1 x hx

theorem rdInts_ok {b : List Int} (hb : Bytes b) (most : Int) {s : RS} (h : SOk b s) : SOk b (rdInts b most s).2 ∧ I64s (rdInts b most s).1 ∧ ((rdInts b most s).1.length : Int) ≤ max most 0 := by
  have h1 := rdU_ok hb h
  unfold rdInts
  split
  · exact ⟨h1.1, (fun x hx => by cases hx), by simp; omega⟩
  · have h2 := rdLoop_ok hb (rdN (RU b) s).1.toNat h1.1
    refine ⟨h2.1, h2.2.1, ?_⟩
    have := h2.2.2
    omega

/-- A list, and the reader has moved. -/
def RInts (b : List Int) (x : List Int × RS) (r : V) (F : Heap) : Prop := (r = .t (.lst 0 true []) ∧ x.1 = [] ∧ F = [rbox b x.2]) ∨ ∃ g, r = .sl 1 0 x.1.length g 1 ∧ F = [rbox b x.2, .row 1 g (Ns x.1)]

/-- A call of a reader's number. -/
theorem step_num {P : Program} {f : FuncId} {H : Heap} {K : St → Prop} {vs : List (Nat × V)} {r : List Ins} {d : Nat} {xs : List Opnd} {b : List Int} {x : Int × RS} (id : Nat) (hid : id < H.length)
    (h : SCall P f ((xs.map (ev vs)).map (V.ren (idx [id]))) (sub H [id]) (RNum b x)) (hk : wpR (SCall P) r K ⟨(d, .t (.int .i64 x.1)) :: vs, H.set id (rbox b x.2)⟩) : wpR (SCall P) (⟨some d, none, .call f xs⟩ :: r) K ⟨vs, H⟩ := by
  refine step_call (call_frame [id] (by simp) (by simpa using hid) h ?_)
  rintro r F ⟨rfl, rfl⟩
  simpa [merge, setAll, V.ren, Obj.ren, rbox, V.renL] using hk

theorem Ns_append (l m : List Int) : Ns (l ++ m) = Ns l ++ Ns m := by simp [Ns]
theorem Ns_flat (l : List Int) : (Ns l).all T.flat = true := by simp [Ns, T.flat, T.cells, T.scal]

theorem ints_sc (b : List Int) (hb : Bytes b) (hl : b.length ≤ 2 ^ 40) (s : RS) (hs : SOk b s) (most : Int) (hm : 0 ≤ most ∧ most ≤ 2 ^ 20) :
    SCall PP N.message_reader_ints [.ref 0 0, .t (.int .i64 most)] [rbox b s] (RInts b (rdInts b most s)) := by
  refine message_reader_ints.intro (by simp) ?_
  obtain ⟨k1, k2, k3⟩ := rdU_ok hb hs
  have cU := numU_sc b hb hl s hs
  unfold rdInts
  generalize rdN (RU b) s = u at *
  obtain ⟨n, at_, bad⟩ := u
  simp only at k1 k2 k3 ⊢
  simp (maxSteps := 4000000) -implicitDefEqProofs (disch := omega) only [↓sxPre, sxPost, sxLib, if_true, if_false, Nat.reduceEqDiff, ↓reduceIte, Nat.reduceAdd, Nat.reduceSub, Nat.reduceMul, Nat.reduceLT, Nat.reduceLeDiff, reduceCtorEq, eq_self, K.isEff, List.reduceReplicate]
  refine step_num (b := b) (x := (n, at_, bad)) 0 (by simp) ?_ ?_
  · simpa [V.ren, V.renL, idx, Abs.get, ev, sub, rbox, Obj.ren] using cU
  by_cases hn : most < n
  · have g : decide (most < n) = true := decide_eq_true hn
    rw [if_pos hn]
    unfold rbox
    simp (maxSteps := 4000000) -implicitDefEqProofs (disch := omega) only [g, kstore_ref, putAt_zero, putAt_succ, ↓sxPre, sxPost, sxLib, if_true, if_false, Nat.reduceEqDiff, ↓reduceIte, Nat.reduceAdd, Nat.reduceSub, Nat.reduceMul, Nat.reduceLT, Nat.reduceLeDiff, reduceCtorEq, eq_self, K.isEff, List.reduceReplicate]
    refine wpC_loop_gc [0, 5, 6, 7] [0] (fun m s => s = ⟨[(0, .ref 0 0), (5, .t (.int .i64 n)), (6, .t (.lst 0 true [])), (7, .t (.int .i64 0))], [rbox b (at_, true)]⟩) 0
      ⟨by simp [gcSt, keepOk, finG, resV, resOne, resAll, idx, V.ren, V.renL, Obj.ren, get_cons, get_nil, RTree, RTup, RRow], by simp [rbox, gcSt, keepOk, finG, resV, resOne, resAll, idx, V.ren, V.renL, Obj.ren, get_cons, get_nil, RTree, RTup, RRow]⟩ ?_
    rintro m s rfl
    have gn : decide ((0 : Int) < n) = true := decide_eq_true (by omega)
    unfold rbox
    simp (maxSteps := 4000000) -implicitDefEqProofs (disch := omega) only [gn, ↓sxPre, sxPost, sxLib, if_true, if_false, Nat.reduceEqDiff, ↓reduceIte, Nat.reduceAdd, Nat.reduceSub, Nat.reduceMul, Nat.reduceLT, Nat.reduceLeDiff, reduceCtorEq, eq_self, K.isEff, List.reduceReplicate]
    refine finK_gc [0] ?_
    simp [RInts, rbox, gcSt, keepOk, finG, resV, resOne, resAll, idx, V.ren, V.renL, Obj.ren, get_cons, get_nil, RTree, RTup, RRow]
  · have g : decide (most < n) = false := decide_eq_false hn
    rw [if_neg hn]
    unfold rbox
    simp (maxSteps := 4000000) -implicitDefEqProofs (disch := omega) only [g, kstore_ref, putAt_zero, putAt_succ, ↓sxPre, sxPost, sxLib, if_true, if_false, Nat.reduceEqDiff, ↓reduceIte, Nat.reduceAdd, Nat.reduceSub, Nat.reduceMul, Nat.reduceLT, Nat.reduceLeDiff, reduceCtorEq, eq_self, K.isEff, List.reduceReplicate]
    refine wpC_loop_any [0, 5, 6, 7] (fun m s => ∃ (i : Nat) (l : List Int) (t : RS) (x : V) (H : Heap), (m : Int) + i = n ∧ l.length = i ∧ SOk b t ∧ rdLoop b n.toNat (at_, bad) = (l ++ (rdLoop b m t).1, (rdLoop b m t).2) ∧
        ((x = .t (.lst 0 true []) ∧ l = [] ∧ H = [rbox b t]) ∨ ∃ g, x = .sl 1 0 l.length g 1 ∧ H = [rbox b t, .row 1 g (Ns l)]) ∧
        s = ⟨[(0, .ref 0 0), (5, .t (.int .i64 n)), (6, x), (7, .t (.int .i64 i))], H⟩) n.toNat
      ⟨[0], by simp [gcSt, keepOk, finG, resV, resOne, resAll, idx, V.ren, V.renL, Obj.ren, get_cons, get_nil, RTree, RTup, RRow], 0, [], (at_, bad), _, _, by omega, rfl, k1, by simp, .inl ⟨rfl, rfl, rfl⟩, by simp [rbox, gcSt, keepOk, finG, resV, resOne, resAll, idx, V.ren, V.renL, Obj.ren, get_cons, get_nil, RTree, RTup, RRow]⟩ ?_
    rintro m s ⟨i, l, t, x, H, hmi, hli, ht, hrd, hx, rfl⟩
    have hHb : ∃ R, H = rbox b t :: R := by
      rcases hx with ⟨_, _, rfl⟩ | ⟨g, _, rfl⟩
      · exact ⟨_, rfl⟩
      · exact ⟨_, rfl⟩
    have fin : rdLoop b n.toNat (at_, bad) = (l, t) → ∀ s : St, s.h = H → get s.vs 4 = x → finK 1 [.tmp 4] (RInts b (rdLoop b n.toNat (at_, bad))) s := by
      intro e s e1 e2
      rw [e]
      obtain ⟨svs, sh⟩ := s
      simp only at e1 e2
      subst e1
      rcases hx with ⟨rfl, hl0, rfl⟩ | ⟨g, rfl, rfl⟩
      · refine finK_gc [0] ?_
        simp [finG, keepOk, resV, resOne, e2, V.ren, Obj.ren, rbox, V.renL, RInts, hl0]
      · refine finK_gc [0, 1] ?_
        simp [finG, keepOk, resV, resOne, e2, V.ren, Obj.ren, rbox, V.renL, RInts, idx]
    obtain ⟨ta, tb⟩ := t
    have hloop0 : tb = true → rdLoop b m (ta, tb) = ([], (ta, tb)) := by
      rintro rfl
      cases m <;> simp [rdLoop]
    by_cases hi : (i : Int) < n
    case neg =>
      have gi : decide ((i : Int) < n) = false := decide_eq_false hi
      obtain rfl : m = 0 := by omega
      simp only [rdLoop, List.append_nil] at hrd
      obtain ⟨R, rfl⟩ := hHb
      unfold rbox
      simp (maxSteps := 4000000) -implicitDefEqProofs (disch := omega) only [gi, ↓sxPre, sxPost, sxLib, if_true, if_false, Nat.reduceEqDiff, ↓reduceIte, Nat.reduceAdd, Nat.reduceSub, Nat.reduceMul, Nat.reduceLT, Nat.reduceLeDiff, reduceCtorEq, eq_self, K.isEff, List.reduceReplicate]
      exact fin hrd _ rfl rfl
    have gi : decide ((i : Int) < n) = true := decide_eq_true hi
    cases tb with
    | true =>
      rw [hloop0 rfl, List.append_nil] at hrd
      obtain ⟨R, rfl⟩ := hHb
      unfold rbox
      simp (maxSteps := 4000000) -implicitDefEqProofs (disch := omega) only [gi, ↓sxPre, sxPost, sxLib, if_true, if_false, Nat.reduceEqDiff, ↓reduceIte, Nat.reduceAdd, Nat.reduceSub, Nat.reduceMul, Nat.reduceLT, Nat.reduceLeDiff, reduceCtorEq, eq_self, K.isEff, List.reduceReplicate]
      exact fin hrd _ rfl rfl
    | false =>
      clear fin hloop0
      obtain ⟨m, rfl⟩ : ∃ m', m = m' + 1 := ⟨m - 1, by omega⟩
      obtain ⟨j1, j2⟩ := rdI_ok hb ht
      have cI := numI_sc b hb hl (ta, false) ht
      simp only [rdLoop, if_neg Bool.false_ne_true] at hrd
      generalize rdN (RI b) (ta, false) = w at *
      obtain ⟨v, wa, wb⟩ := w
      simp only at j1 j2 hrd cI
      clear hHb
      rcases hx with ⟨rfl, hl0, rfl⟩ | ⟨g, rfl, rfl⟩
      · unfold rbox
        simp (maxSteps := 4000000) -implicitDefEqProofs (disch := omega) only [gi, ↓sxPre, sxPost, sxLib, if_true, if_false, Nat.reduceEqDiff, ↓reduceIte, Nat.reduceAdd, Nat.reduceSub, Nat.reduceMul, Nat.reduceLT, Nat.reduceLeDiff, reduceCtorEq, eq_self, K.isEff, List.reduceReplicate]
        refine step_num (b := b) (x := (v, wa, wb)) 0 (by simp) ?_ ?_
        · simpa [V.ren, V.renL, idx, Abs.get, ev, sub, rbox, Obj.ren] using cI
        unfold rbox
        simp (maxSteps := 4000000) -implicitDefEqProofs (disch := omega) only [keff_buildSlice, toElems_cons, toElems_nil, toElem_t, setElems_cons, setElems_nil, elems_lst', kappend_nil, ↓sxPre, sxPost, sxLib, if_true, if_false, Nat.reduceEqDiff, ↓reduceIte, Nat.reduceAdd, Nat.reduceSub, Nat.reduceMul, Nat.reduceLT, Nat.reduceLeDiff, reduceCtorEq, eq_self, K.isEff, List.reduceReplicate]
        refine ⟨by decide, m, by omega, [0, 1], by simp [gcSt, keepOk, finG, resV, resOne, resAll, idx, V.ren, V.renL, Obj.ren, get_cons, get_nil, RTree, RTup, RRow], i + 1, l ++ [v], (wa, wb), _, _, by omega, by simp [hli], j1, ?_, .inr ⟨0, rfl, rfl⟩, by simp [rbox, hl0, Ns, hli, gcSt, keepOk, finG, resV, resOne, resAll, idx, V.ren, V.renL, Obj.ren, get_cons, get_nil, RTree, RTup, RRow]⟩
        rw [hrd]; simp
      · unfold rbox
        simp (maxSteps := 4000000) -implicitDefEqProofs (disch := omega) only [gi, ↓sxPre, sxPost, sxLib, if_true, if_false, Nat.reduceEqDiff, ↓reduceIte, Nat.reduceAdd, Nat.reduceSub, Nat.reduceMul, Nat.reduceLT, Nat.reduceLeDiff, reduceCtorEq, eq_self, K.isEff, List.reduceReplicate]
        refine step_num (b := b) (x := (v, wa, wb)) 0 (by simp) ?_ ?_
        · simpa [V.ren, V.renL, idx, Abs.get, ev, sub, rbox, Obj.ren] using cI
        unfold rbox
        simp (maxSteps := 4000000) -implicitDefEqProofs (disch := omega) only [Ns_length, keff_buildSlice, toElems_cons, toElems_nil, toElem_t, setElems_cons, setElems_nil, elems_lst', kappend_nil, ↓sxPre, sxPost, sxLib, if_true, if_false, Nat.reduceEqDiff, ↓reduceIte, Nat.reduceAdd, Nat.reduceSub, Nat.reduceMul, Nat.reduceLT, Nat.reduceLeDiff, reduceCtorEq, eq_self, K.isEff, List.reduceReplicate]
        refine ⟨by omega, m, by omega, [0, 1], by simp [gcSt, keepOk, finG, resV, resOne, resAll, idx, V.ren, V.renL, Obj.ren, get_cons, get_nil, RTree, RTup, RRow], i + 1, l ++ [v], (wa, wb), _, _, by omega, by simp [hli], j1, ?_, .inr ⟨g + 1, rfl, rfl⟩, by simp [rbox, Ns, hli, gcSt, keepOk, finG, resV, resOne, resAll, idx, V.ren, V.renL, Obj.ren, get_cons, get_nil, RTree, RTup, RRow]⟩
        rw [hrd]; simp
end Go.Proofs.Ytljjabccgbakgaa
