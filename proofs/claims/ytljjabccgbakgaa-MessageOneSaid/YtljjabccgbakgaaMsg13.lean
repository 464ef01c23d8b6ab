/- Messages: replies are read; the second half. By the session itself. -/
import Derived.Test.YtljjabccgbakgaaMsg12
namespace Go.Proofs.Ytljjabccgbakgaa
open Go Go.Abs
set_option maxRecDepth 100000
set_option maxHeartbeats 4000000
set_option linter.unusedSimpArgs false
set_option linter.unusedVariables false

/-- A list of numbers that is frozen, and the reader has moved. -/
def RIntsT (b : List Int) (x : List Int × RS) (r : V) (F : Heap) : Prop := ∃ sz t, (sz = 1 ∨ x.1 = []) ∧ r = .t (.lst sz t (Ns x.1)) ∧ F = [rbox b x.2]

theorem frz_row {b : List Int} {s : RS} {g : Nat} {l : List Int} : Weak 1 ⟨[(0, .sl 1 0 l.length g 1)], [rbox b s, .row 1 g (Ns l)]⟩ ⟨[(0, .t (.lst 1 false (Ns l)))], [rbox b s]⟩ := by
  have hlt : (Ns l).take l.length = Ns l := List.take_of_length_le (by rw [Ns_length]; omega)
  refine (weak_frz (t := 0) (x := .lst 1 false (Ns l)) (H1 := [rbox b s, .frz 1 g (Ns l)]) ?_).trans (weak_to [0] [0] rfl (Nat.le_refl _) (by simp) (by simp) ?_)
  · show toT _ (V.sl 1 0 l.length g 1) = _
    rw [toT_sl]; simp [rowOf, hlt]
  · simp [gcSt, put, get_cons, idx, V.ren, rbox, Obj.ren, V.renL]

theorem ints_scT (b : List Int) (hb : Bytes b) (hl : b.length ≤ 2 ^ 40) (s : RS) (hs : SOk b s) (most : Int) (hm : 0 ≤ most ∧ most ≤ 2 ^ 20) :
    SCall PP N.message_reader_ints [.ref 0 0, .t (.int .i64 most)] [rbox b s] (RIntsT b (rdInts b most s)) := by
  refine (ints_sc b hb hl s hs most hm).weak ?_
  rintro r F (⟨rfl, h0, rfl⟩ | ⟨g, rfl, rfl⟩)
  · exact ⟨_, _, Weak.refl _ _, 0, true, .inr h0, by rw [h0]; rfl, rfl⟩
  · exact ⟨_, _, frz_row, 1, false, .inl rfl, rfl, rfl⟩

theorem exactly_scT (b : List Int) (hb : Bytes b) (hl : b.length ≤ 2 ^ 40) (s : RS) (hs : SOk b s) (n : Nat) (hn : 0 < n ∧ n ≤ 2 ^ 20) :
    SCall PP N.message_reader_exactly [.ref 0 0, .t (.int .i64 n)] [rbox b s] (RIntsT b (rdExact b n s)) := by
  refine (exactly_sc b hb hl s hs n hn).weak ?_
  rintro r F ⟨g, rfl, rfl⟩
  exact ⟨_, _, frz_row, 1, false, .inl rfl, rfl, rfl⟩

theorem step_intsT {P : Program} {f : FuncId} {H : Heap} {K : St → Prop} {vs : List (Nat × V)} {r : List Ins} {d : Nat} {xs : List Opnd} {b : List Int} {x : List Int × RS} (id : Nat) (hid : id < H.length)
    (h : SCall P f ((xs.map (ev vs)).map (V.ren (idx [id]))) (sub H [id]) (RIntsT b x))
    (hk : ∀ sz t, (sz = 1 ∨ x.1 = []) → wpR (SCall P) r K ⟨(d, .t (.lst sz t (Ns x.1))) :: vs, H.set id (rbox b x.2)⟩) : wpR (SCall P) (⟨some d, none, .call f xs⟩ :: r) K ⟨vs, H⟩ := by
  refine step_call (call_frame [id] (by simp) (by simpa using hid) h ?_)
  rintro r F ⟨sz, t, hs, rfl, rfl⟩
  simpa [merge, setAll, V.ren, Obj.ren, rbox, V.renL] using hk sz t hs

theorem step_th {P : Program} {f : FuncId} {H : Heap} {K : St → Prop} {vs : List (Nat × V)} {r : List Ins} {d : Nat} {xs : List Opnd} {b : List Int} {x : Th × RS} (id : Nat) (hid : id < H.length)
    (h : SCall P f ((xs.map (ev vs)).map (V.ren (idx [id]))) (sub H [id]) (RTh b x))
    (hk : ∀ sz t, (sz = 1 ∨ x.1.args = []) → wpR (SCall P) r K ⟨(d, .t (.agg (x.1.cells sz t))) :: vs, H.set id (rbox b x.2)⟩) : wpR (SCall P) (⟨some d, none, .call f xs⟩ :: r) K ⟨vs, H⟩ := by
  refine step_call (call_frame [id] (by simp) (by simpa using hid) h ?_)
  rintro r F ⟨sz, t, hs, rfl, rfl⟩
  simpa [merge, setAll, V.ren, Obj.ren, rbox, V.renL] using hk sz t hs

def pairs : List Int → List (Int × Int)
  | a :: b :: r => (a, b) :: pairs r
  | _ => []
theorem pairs_length : ∀ l : List Int, (pairs l).length = l.length / 2
  | [] => rfl
  | [_] => by simp [pairs]
  | a :: b :: r => by
    have := pairs_length r
    simp only [pairs, List.length_cons]; omega
theorem pairs_get : ∀ (l : List Int) (j : Nat) (h : j < (pairs l).length), (pairs l)[j]'h = (l.getD (2 * j) 0, l.getD (2 * j + 1) 0)
  | [], j, h => by simp [pairs] at h
  | [_], j, h => by simp [pairs] at h
  | a :: b :: r, 0, h => by simp [pairs]
  | a :: b :: r, j + 1, h => by
    have h' : j < (pairs r).length := by simpa [pairs] using h
    have := pairs_get r j h'
    have e1 : 2 * (j + 1) = 2 * j + 1 + 1 := by omega
    simp only [pairs, List.getElem_cons_succ, e1, List.getD_cons_succ]
    exact this

def zeroRp : Rp := ⟨0, [], [], [], [0, 0, 0, 0, 0, 0, 0]⟩
def RDecR (D : Rp × Int) (r : V) (F : Heap) : Prop := ∃ cs, D.1.At cs ∧ r = .tup [.t (.agg cs), .t (.int .i64 D.2)] ∧ F = []

abbrev drTail : Cd := (.seq (.rgn message_DecodeReply.r15) (.seq (.rgnD message_DecodeReply.d2) (.seq (.seq (.rgn message_DecodeReply.r16) (.cond (.tmp 103) (.seq (.rgn message_DecodeReply.r17) .ret) .skip)) (.seq (.rgn message_DecodeReply.r18) .ret))))

/-- What comes of a reply when the rest is read. -/
def decEnd (b : List Int) (err : Int) (words : List Int) (ths : List Th) (o : List Int) (s : RS) : Rp × Int :=
  if (rdExact b 7 s).2.2 = false ∧ (rdExact b 7 s).2.1 = b.length then (⟨err, words, ths, pairs o, (rdExact b 7 s).1⟩, 0) else (zeroRp, 4)

theorem zeroRp_at : zeroRp.At [.int .i64 0, .lst 0 true [], .lst 0 true [], .lst 0 true [], .int .i64 0, .int .i64 0, .int .i64 0, .int .i64 0, .int .i64 0, .int .i64 0, .int .i64 0] :=
  ⟨0, true, 0, true, 0, true, [], .inr rfl, .inr rfl, .inr rfl, rfl, fun i h => absurd h (by simp [zeroRp]), rfl⟩

theorem DecodeReply_l1 (b : List Int) (hb : Bytes b) (hl : b.length ≤ 2 ^ 40) (s : RS) (hs : SOk b s) (err : Int) (words : List Int) (ths : List Th) (o : List Int) (ho : o.length ≤ 2 ^ 20)
    (s1 : Nat) (t1 : Bool) (s2 : Nat) (t2 : Bool) (so : Nat) (to : Bool) (xs : List T) (h1 : s1 = 1 ∨ words = []) (h2 : s2 = 20 ∨ ths = []) (hso : so = 1 ∨ o = []) (hx : xs.length = ths.length) (ha : ∀ i (h : i < ths.length), (ths[i]'h).At (T.at xs i)) (st s0 : St) (hw : Weak 0 st s0)
    (hs0 : s0 = ⟨[(2, .ref 0 0), (4, .ref 1 0), (5, .ref 2 0), (8, .t (.lst so to (Ns o))), (9, .t (.int .i64 0))], [.box [.t (.int .i64 0), .t (.lst 0 true []), .t (.lst 0 true []), .t (.lst 0 true []), .t (.int .i64 0), .t (.int .i64 0), .t (.int .i64 0), .t (.int .i64 0), .t (.int .i64 0), .t (.int .i64 0), .t (.int .i64 0)], rbox b s,
      .box [.t (.int .i64 err), .t (.lst s1 t1 (Ns words)), .t (.lst s2 t2 xs), .t (.lst 0 true []), .t (.int .i64 0), .t (.int .i64 0), .t (.int .i64 0), .t (.int .i64 0), .t (.int .i64 0), .t (.int .i64 0), .t (.int .i64 0)]]⟩) :
    wpC (SCall PP) 0 (.loop message_DecodeReply.l1) (blockK 2 (thenK (wpC (SCall PP) 0 drTail (exitK 0 [.cell 2 11 false, .tmp 3] (RDecR (decEnd b err words ths o s)))) (exitK 0 [.cell 2 11 false, .tmp 3] (RDecR (decEnd b err words ths o s))))) st := by
  refine wpC_loop (fun m st => ∃ (j : Nat) (x : V) (H : Heap), m + j = o.length / 2 ∧
      ((j = 0 ∧ x = .t (.lst 0 true []) ∧ H = []) ∨ ∃ g', x = .sl 3 0 j g' 2 ∧ H = [.row 2 g' (Ps ((pairs o).take j))]) ∧
      st = ⟨[(2, .ref 0 0), (4, .ref 1 0), (5, .ref 2 0), (8, .t (.lst so to (Ns o))), (9, .t (.int .i64 (2 * j : Nat)))], .box [.t (.int .i64 0), .t (.lst 0 true []), .t (.lst 0 true []), .t (.lst 0 true []), .t (.int .i64 0), .t (.int .i64 0), .t (.int .i64 0), .t (.int .i64 0), .t (.int .i64 0), .t (.int .i64 0), .t (.int .i64 0)] :: rbox b s ::
        .box [.t (.int .i64 err), .t (.lst s1 t1 (Ns words)), .t (.lst s2 t2 xs), x, .t (.int .i64 0), .t (.int .i64 0), .t (.int .i64 0), .t (.int .i64 0), .t (.int .i64 0), .t (.int .i64 0), .t (.int .i64 0)] :: H⟩) (o.length / 2) s0 hw
    ⟨0, _, [], by omega, .inl ⟨rfl, rfl, rfl⟩, hs0⟩ ?_
  clear hw hs0 st s0
  have hpl := pairs_length o
  rintro m st ⟨j, x, H, hm, hxH, rfl⟩
  by_cases hj : 2 * j + 1 < o.length
  · have d1 : decide (((2 * j : Nat) : Int) + 1 < o.length) = true := decide_eq_true (by omega)
    have hso1 : so = 1 := hso.resolve_right (by rintro rfl; simp at hj)
    subst hso1
    have b1 : ((2 * j : Nat) : Int) < o.length := by omega
    have b2 : ((2 * j : Nat) : Int) + 1 < o.length := by omega
    have e2 : (((2 * j : Nat) : Int) + 1).toNat = 2 * j + 1 := by omega
    have a1 := at_Ns (l := o) (i := 2 * j) (by omega)
    have a2 := at_Ns (l := o) (i := 2 * j + 1) (by omega)
    have hpj : j < (pairs o).length := by omega
    have hpg := pairs_get o j hpj
    have hpt : (pairs o).take (j + 1) = (pairs o).take j ++ [(o[2 * j]'(by omega), o[2 * j + 1]'(by omega))] := by
      rw [List.take_succ_eq_append_getElem hpj, hpg]
      simp [List.getD_eq_getElem?_getD, show 2 * j < o.length by omega, hj]
    have hptl : ((pairs o).take j).length = j := by rw [List.length_take]; omega
    have e3 : ((2 * j : Nat) : Int) + 2 = ((2 * (j + 1) : Nat) : Int) := by omega
    rcases hxH with ⟨rfl, rfl, rfl⟩ | ⟨g', rfl, rfl⟩
    · simp (maxSteps := 4000000) -implicitDefEqProofs (disch := omega) only [Ns_length, d1, b1, b2, e2, a1, a2, e3, Int.toNat_natCast, at_zero, fillV, putAt_zero, putAt_succ, keff_buildSlice, toElems_cons, toElems_nil, toElem_agg, toTs_cons, toTs_nil, toT_t, setElems_cons, setElems_nil, ↓sxPre, sxPost, sxLib, if_true, if_false, Nat.reduceEqDiff, ↓reduceIte, Nat.reduceAdd, Nat.reduceSub, Nat.reduceMul, Nat.reduceLT, Nat.reduceLeDiff, reduceCtorEq, eq_self, K.isEff, List.reduceReplicate]
      refine ⟨by omega, by omega, by omega, m - 1, _, by omega, weak_keep (slots := [2, 4, 5, 8, 9]) (keep := [0, 1, 2, 3]) (by simp [keepOk]), 1, _, _, by omega, .inr ⟨0, rfl, rfl⟩, ?_⟩
      rw [hpt]
      simp [Ps, rbox, gcSt, keepOk, finG, resV, resOne, resAll, idx, V.ren, V.renL, Obj.ren, get_cons, get_nil, RTree, RTup, RRow]
    · simp (maxSteps := 4000000) -implicitDefEqProofs (disch := omega) only [Ns_length, d1, b1, b2, e2, a1, a2, e3, Int.toNat_natCast, at_zero, fillV, putAt_zero, putAt_succ, keff_buildSlice, toElems_cons, toElems_nil, toElem_agg, toTs_cons, toTs_nil, toT_t, setElems_cons, setElems_nil, Ps_length, hptl, ↓sxPre, sxPost, sxLib, if_true, if_false, Nat.reduceEqDiff, ↓reduceIte, Nat.reduceAdd, Nat.reduceSub, Nat.reduceMul, Nat.reduceLT, Nat.reduceLeDiff, reduceCtorEq, eq_self, K.isEff, List.reduceReplicate]
      refine ⟨by omega, by omega, by omega, m - 1, _, by omega, weak_keep (slots := [2, 4, 5, 8, 9]) (keep := [0, 1, 2, 3]) (by simp [keepOk]), j + 1, _, _, by omega, .inr ⟨g' + 1, rfl, rfl⟩, ?_⟩
      rw [hpt]
      simp [Ps, rbox, gcSt, keepOk, finG, resV, resOne, resAll, idx, V.ren, V.renL, Obj.ren, get_cons, get_nil, RTree, RTup, RRow]
  · have d1 : decide (((2 * j : Nat) : Int) + 1 < o.length) = false := decide_eq_false (by omega)
    obtain rfl : j = o.length / 2 := by
      rcases hxH with ⟨h, _⟩ | ⟨g', _⟩ <;> omega
    have hpt : (pairs o).take (o.length / 2) = pairs o := List.take_of_length_le (by omega)
    rw [hpt] at hxH
    have c7 := exactly_scT b hb hl s hs 7 (by decide)
    obtain ⟨k1, k2, k3⟩ := rdExact_ok hb 7 hs
    have cd := done_sc b (rdExact b 7 s).2
    unfold decEnd
    generalize rdExact b 7 s = z at *
    obtain ⟨l, s7⟩ := z
    simp only at k1 k2 k3 cd ⊢
    have c7' : SCall PP N.message_reader_exactly [.ref 0 0, .t (.int .i64 7)] [rbox b s] (RIntsT b (l, s7)) := c7
    obtain ⟨q0, q1, q2, q3, q4, q5, q6, rfl⟩ := seven k3
    obtain ⟨X, hX⟩ : ∃ X, X = Ns [q0, q1, q2, q3, q4, q5, q6] := ⟨_, rfl⟩
    have A0 : T.at X 0 = .int .i64 q0 := by rw [hX]; rfl
    have A1 : T.at X 1 = .int .i64 q1 := by rw [hX]; rfl
    have A2 : T.at X 2 = .int .i64 q2 := by rw [hX]; rfl
    have A3 : T.at X 3 = .int .i64 q3 := by rw [hX]; rfl
    have A4 : T.at X 4 = .int .i64 q4 := by rw [hX]; rfl
    have A5 : T.at X 5 = .int .i64 q5 := by rw [hX]; rfl
    have A6 : T.at X 6 = .int .i64 q6 := by rw [hX]; rfl
    have hXl : X.length = 7 := by rw [hX]; rfl
    have hNx : Ns [q0, q1, q2, q3, q4, q5, q6] = X := hX.symm
    have fin : ∀ (x : V) (so : Nat) (to : Bool), toT [] (.t (.lst so to (Ps (pairs o)))) = some (.lst so to (Ps (pairs o)), []) → (so = 2 ∨ pairs o = []) →
        (⟨err, words, ths, pairs o, [q0, q1, q2, q3, q4, q5, q6]⟩ : Rp).At [.int .i64 err, .lst s1 t1 (Ns words), .lst s2 t2 xs, .lst so to (Ps (pairs o)), .int .i64 q0, .int .i64 q1, .int .i64 q2, .int .i64 q3, .int .i64 q4, .int .i64 q5, .int .i64 q6] :=
      fun x so to _ hso => ⟨s1, t1, s2, t2, so, to, xs, h1, h2, hso, hx, ha, rfl⟩
    clear hX c7 k1 k2 k3
    have hPt : (Ps (pairs o)).take (o.length / 2) = Ps (pairs o) := List.take_of_length_le (by rw [Ps_length]; omega)
    rcases hxH with ⟨h0, rfl, rfl⟩ | ⟨g', rfl, rfl⟩
    · have hp0 : pairs o = [] := List.length_eq_zero_iff.1 (by omega)
      rw [hp0] at fin hPt ⊢
      simp (maxSteps := 4000000) -implicitDefEqProofs (disch := omega) only [d1, Ns_length, ↓sxPre, sxPost, sxLib, if_true, if_false, Nat.reduceEqDiff, ↓reduceIte, Nat.reduceAdd, Nat.reduceSub, Nat.reduceMul, Nat.reduceLT, Nat.reduceLeDiff, reduceCtorEq, eq_self, K.isEff, List.reduceReplicate]
      refine step_intsT (b := b) (x := ([q0, q1, q2, q3, q4, q5, q6], s7)) 1 (by simp) ?_ (fun sz t hsz => ?_)
      · simpa [V.ren, V.renL, idx, Abs.get, ev, sub, rbox, Obj.ren] using c7'
      obtain rfl : sz = 1 := hsz.resolve_right (by simp)
      simp only [hNx]
      simp (maxSteps := 4000000) -implicitDefEqProofs (disch := omega) only [Int.reduceToNat, hXl, A0, A1, A2, A3, A4, A5, A6, at_zero, fillV, putAt_zero, putAt_succ, ↓sxPre, sxPost, sxLib, if_true, if_false, Nat.reduceEqDiff, ↓reduceIte, Nat.reduceAdd, Nat.reduceSub, Nat.reduceMul, Nat.reduceLT, Nat.reduceLeDiff, reduceCtorEq, eq_self, K.isEff, List.reduceReplicate]
      refine ⟨⟨by omega, by omega⟩, ⟨by omega, by omega⟩, ⟨by omega, by omega⟩, ⟨by omega, by omega⟩, ⟨by omega, by omega⟩, ⟨by omega, by omega⟩, ⟨by omega, by omega⟩, ?_⟩
      refine step_done (b := b) (s := s7) 1 (by simp) rfl ?_ ?_
      · simpa [V.ren, V.renL, idx, Abs.get, ev, sub, rbox, Obj.ren] using cd
      obtain ⟨sa, sbad⟩ := s7
      by_cases hok : sbad = false ∧ sa = (b.length : Int)
      · obtain ⟨rfl, rfl⟩ := hok
        rw [if_pos ⟨rfl, rfl⟩]
        simp (maxSteps := 4000000) -implicitDefEqProofs (disch := omega) only [putAt_zero, putAt_succ, ↓sxPre, sxPost, sxLib, if_true, if_false, Nat.reduceEqDiff, ↓reduceIte, Nat.reduceAdd, Nat.reduceSub, Nat.reduceMul, Nat.reduceLT, Nat.reduceLeDiff, reduceCtorEq, eq_self, K.isEff, List.reduceReplicate]
        refine finK_tup (n := 0) [] (c := True) (vs := [.agg [.t (.int .i64 err), .t (.lst s1 t1 (Ns words)), .t (.lst s2 t2 xs), .t (.lst 0 true []), .t (.int .i64 q0), .t (.int .i64 q1), .t (.int .i64 q2), .t (.int .i64 q3), .t (.int .i64 q4), .t (.int .i64 q5), .t (.int .i64 q6)], .t (.int .i64 0)]) (xs := [.agg [.int .i64 err, .lst s1 t1 (Ns words), .lst s2 t2 xs, .lst 0 true (Ps []), .int .i64 q0, .int .i64 q1, .int .i64 q2, .int .i64 q3, .int .i64 q4, .int .i64 q5, .int .i64 q6], .int .i64 0])
          (H1 := .box [.t (.int .i64 err), .t (.lst s1 t1 (Ns words)), .t (.lst s2 t2 xs), .t (.lst 0 true []), .t (.int .i64 q0), .t (.int .i64 q1), .t (.int .i64 q2), .t (.int .i64 q3), .t (.int .i64 q4), .t (.int .i64 q5), .t (.int .i64 q6)] :: rbox b ((b.length : Int), false) :: .box [.t (.int .i64 err), .t (.lst s1 t1 (Ns words)), .t (.lst s2 t2 xs), .t (.lst 0 true []), .t (.int .i64 q0), .t (.int .i64 q1), .t (.int .i64 q2), .t (.int .i64 q3), .t (.int .i64 q4), .t (.int .i64 q5), .t (.int .i64 q6)] :: []) ?_ trivial ?_ (by simp [keepOk]) ⟨_, fin .undef _ _ rfl (.inr rfl), rfl, rfl⟩
        · simp [resV, resAll, resOne, get_cons, kloadN_ref]
        · simp only [toElems_cons, toElems_nil, toElem_agg, toElem_t, toTs_cons, toTs_nil, toT_t, toT_sl]
          simp [rowOf, hPt, toT_t]
          try rfl
      · rw [if_neg hok]
        have hv : (!((sa, sbad) : RS).2 && decide (((sa, sbad) : RS).1 = (b.length : Int))) = false := by
          cases sbad with
          | true => rfl
          | false =>
            have : ¬ sa = (b.length : Int) := fun h => hok ⟨rfl, h⟩
            simp [this]
        rw [hv]
        simp (maxSteps := 4000000) -implicitDefEqProofs (disch := omega) only [fillV, putAt_zero, putAt_succ, ↓sxPre, sxPost, sxLib, if_true, if_false, Nat.reduceEqDiff, ↓reduceIte, Nat.reduceAdd, Nat.reduceSub, Nat.reduceMul, Nat.reduceLT, Nat.reduceLeDiff, reduceCtorEq, eq_self, K.isEff, List.reduceReplicate]
        refine finK_tup (n := 0) [] (c := True) (vs := [.agg [.t (.int .i64 0), .t (.lst 0 true []), .t (.lst 0 true []), .t (.lst 0 true []), .t (.int .i64 0), .t (.int .i64 0), .t (.int .i64 0), .t (.int .i64 0), .t (.int .i64 0), .t (.int .i64 0), .t (.int .i64 0)], .t (.int .i64 4)]) (xs := [.agg [.int .i64 0, .lst 0 true [], .lst 0 true [], .lst 0 true [], .int .i64 0, .int .i64 0, .int .i64 0, .int .i64 0, .int .i64 0, .int .i64 0, .int .i64 0], .int .i64 4])
          (H1 := .box [.t (.int .i64 0), .t (.lst 0 true []), .t (.lst 0 true []), .t (.lst 0 true []), .t (.int .i64 0), .t (.int .i64 0), .t (.int .i64 0), .t (.int .i64 0), .t (.int .i64 0), .t (.int .i64 0), .t (.int .i64 0)] :: rbox b (sa, sbad) :: .box [.t (.int .i64 err), .t (.lst s1 t1 (Ns words)), .t (.lst s2 t2 xs), .t (.lst 0 true []), .t (.int .i64 q0), .t (.int .i64 q1), .t (.int .i64 q2), .t (.int .i64 q3), .t (.int .i64 q4), .t (.int .i64 q5), .t (.int .i64 q6)] :: []) ?_ trivial ?_ (by simp [keepOk]) ⟨_, zeroRp_at, rfl, rfl⟩
        · simp [resV, resAll, resOne, get_cons, kloadN_ref]
        · simp only [toElems_cons, toElems_nil, toElem_agg, toElem_t, toTs_cons, toTs_nil, toT_t]
    · simp (maxSteps := 4000000) -implicitDefEqProofs (disch := omega) only [d1, Ns_length, ↓sxPre, sxPost, sxLib, if_true, if_false, Nat.reduceEqDiff, ↓reduceIte, Nat.reduceAdd, Nat.reduceSub, Nat.reduceMul, Nat.reduceLT, Nat.reduceLeDiff, reduceCtorEq, eq_self, K.isEff, List.reduceReplicate]
      refine step_intsT (b := b) (x := ([q0, q1, q2, q3, q4, q5, q6], s7)) 1 (by simp) ?_ (fun sz t hsz => ?_)
      · simpa [V.ren, V.renL, idx, Abs.get, ev, sub, rbox, Obj.ren] using c7'
      obtain rfl : sz = 1 := hsz.resolve_right (by simp)
      simp only [hNx]
      simp (maxSteps := 4000000) -implicitDefEqProofs (disch := omega) only [Int.reduceToNat, hXl, A0, A1, A2, A3, A4, A5, A6, at_zero, fillV, putAt_zero, putAt_succ, ↓sxPre, sxPost, sxLib, if_true, if_false, Nat.reduceEqDiff, ↓reduceIte, Nat.reduceAdd, Nat.reduceSub, Nat.reduceMul, Nat.reduceLT, Nat.reduceLeDiff, reduceCtorEq, eq_self, K.isEff, List.reduceReplicate]
      refine ⟨⟨by omega, by omega⟩, ⟨by omega, by omega⟩, ⟨by omega, by omega⟩, ⟨by omega, by omega⟩, ⟨by omega, by omega⟩, ⟨by omega, by omega⟩, ⟨by omega, by omega⟩, ?_⟩
      refine step_done (b := b) (s := s7) 1 (by simp) rfl ?_ ?_
      · simpa [V.ren, V.renL, idx, Abs.get, ev, sub, rbox, Obj.ren] using cd
      obtain ⟨sa, sbad⟩ := s7
      by_cases hok : sbad = false ∧ sa = (b.length : Int)
      · obtain ⟨rfl, rfl⟩ := hok
        rw [if_pos ⟨rfl, rfl⟩]
        simp (maxSteps := 4000000) -implicitDefEqProofs (disch := omega) only [putAt_zero, putAt_succ, ↓sxPre, sxPost, sxLib, if_true, if_false, Nat.reduceEqDiff, ↓reduceIte, Nat.reduceAdd, Nat.reduceSub, Nat.reduceMul, Nat.reduceLT, Nat.reduceLeDiff, reduceCtorEq, eq_self, K.isEff, List.reduceReplicate]
        refine finK_tup (n := 0) [] (c := True) (vs := [.agg [.t (.int .i64 err), .t (.lst s1 t1 (Ns words)), .t (.lst s2 t2 xs), (.sl 3 0 (o.length / 2) g' 2), .t (.int .i64 q0), .t (.int .i64 q1), .t (.int .i64 q2), .t (.int .i64 q3), .t (.int .i64 q4), .t (.int .i64 q5), .t (.int .i64 q6)], .t (.int .i64 0)]) (xs := [.agg [.int .i64 err, .lst s1 t1 (Ns words), .lst s2 t2 xs, .lst 2 false (Ps (pairs o)), .int .i64 q0, .int .i64 q1, .int .i64 q2, .int .i64 q3, .int .i64 q4, .int .i64 q5, .int .i64 q6], .int .i64 0])
          (H1 := .box [.t (.int .i64 err), .t (.lst s1 t1 (Ns words)), .t (.lst s2 t2 xs), (.sl 3 0 (o.length / 2) g' 2), .t (.int .i64 q0), .t (.int .i64 q1), .t (.int .i64 q2), .t (.int .i64 q3), .t (.int .i64 q4), .t (.int .i64 q5), .t (.int .i64 q6)] :: rbox b ((b.length : Int), false) :: .box [.t (.int .i64 err), .t (.lst s1 t1 (Ns words)), .t (.lst s2 t2 xs), (.sl 3 0 (o.length / 2) g' 2), .t (.int .i64 q0), .t (.int .i64 q1), .t (.int .i64 q2), .t (.int .i64 q3), .t (.int .i64 q4), .t (.int .i64 q5), .t (.int .i64 q6)] :: [.frz 2 g' (Ps (pairs o))]) ?_ trivial ?_ (by simp [keepOk]) ⟨_, fin .undef _ _ rfl (.inl rfl), rfl, rfl⟩
        · simp [resV, resAll, resOne, get_cons, kloadN_ref]
        · simp only [toElems_cons, toElems_nil, toElem_agg, toElem_t, toTs_cons, toTs_nil, toT_t, toT_sl]
          simp [rowOf, hPt, toT_t]
          try rfl
      · rw [if_neg hok]
        have hv : (!((sa, sbad) : RS).2 && decide (((sa, sbad) : RS).1 = (b.length : Int))) = false := by
          cases sbad with
          | true => rfl
          | false =>
            have : ¬ sa = (b.length : Int) := fun h => hok ⟨rfl, h⟩
            simp [this]
        rw [hv]
        simp (maxSteps := 4000000) -implicitDefEqProofs (disch := omega) only [fillV, putAt_zero, putAt_succ, ↓sxPre, sxPost, sxLib, if_true, if_false, Nat.reduceEqDiff, ↓reduceIte, Nat.reduceAdd, Nat.reduceSub, Nat.reduceMul, Nat.reduceLT, Nat.reduceLeDiff, reduceCtorEq, eq_self, K.isEff, List.reduceReplicate]
        refine finK_tup (n := 0) [] (c := True) (vs := [.agg [.t (.int .i64 0), .t (.lst 0 true []), .t (.lst 0 true []), .t (.lst 0 true []), .t (.int .i64 0), .t (.int .i64 0), .t (.int .i64 0), .t (.int .i64 0), .t (.int .i64 0), .t (.int .i64 0), .t (.int .i64 0)], .t (.int .i64 4)]) (xs := [.agg [.int .i64 0, .lst 0 true [], .lst 0 true [], .lst 0 true [], .int .i64 0, .int .i64 0, .int .i64 0, .int .i64 0, .int .i64 0, .int .i64 0, .int .i64 0], .int .i64 4])
          (H1 := .box [.t (.int .i64 0), .t (.lst 0 true []), .t (.lst 0 true []), .t (.lst 0 true []), .t (.int .i64 0), .t (.int .i64 0), .t (.int .i64 0), .t (.int .i64 0), .t (.int .i64 0), .t (.int .i64 0), .t (.int .i64 0)] :: rbox b (sa, sbad) :: .box [.t (.int .i64 err), .t (.lst s1 t1 (Ns words)), .t (.lst s2 t2 xs), (.sl 3 0 (o.length / 2) g' 2), .t (.int .i64 q0), .t (.int .i64 q1), .t (.int .i64 q2), .t (.int .i64 q3), .t (.int .i64 q4), .t (.int .i64 q5), .t (.int .i64 q6)] :: [.row 2 g' (Ps (pairs o))]) ?_ trivial ?_ (by simp [keepOk]) ⟨_, zeroRp_at, rfl, rfl⟩
        · simp [resV, resAll, resOne, get_cons, kloadN_ref]
        · simp only [toElems_cons, toElems_nil, toElem_agg, toElem_t, toTs_cons, toTs_nil, toT_t]
end Go.Proofs.Ytljjabccgbakgaa
