/- Several texts of the session, one behind the other: Ma. By the session itself. -/
import Derived.Test.YtljjabccgbakgaaPack6
import Derived.Test.YtljjabccgbakgaaFmessage
import Derived.Test.YtljjabccgbakgaaFdebuggerref36
import Derived.Test.YtljjabccgbakgaaFdebuggerequal
import Derived.Test.YtljjabccgbakgaaFdebuggerref25
import Derived.Test.YtljjabccgbakgaaCodes
import Derived.Test.YtljjabccgbakgaaFdebuggerlaw36
import Derived.Test.YtljjabccgbakgaaL2
/- Messages: the reader of numbers. By the session itself. -/
namespace Go.Proofs.Ytljjabccgbakgaa
open Go Go.Abs
set_option maxRecDepth 100000
set_option maxHeartbeats 4000000
set_option linter.unusedSimpArgs false
set_option linter.unusedVariables false

/-- A call that may write to the objects that are named. -/
theorem call_frame {P : Program} {f : FuncId} {args : List V} {H : Heap} {k Q : V → Heap → Prop} (fp : List Nat) (hnd : fp.Nodup) (hlt : ∀ id ∈ fp, id < H.length) (h : SCall P f (args.map (V.ren (idx fp))) (sub H fp) Q)
    (hk : ∀ r F, Q r F → k (r.ren (tau fp H.length)) (merge H fp F)) : SCall P f args H k :=
  (SCall.frame fp hnd hlt h).mono fun r H' ⟨r0, F, hq, e1, e2⟩ => by
    subst e1 e2
    exact hk r0 F hq

/-- The state of a reader: the place, and whether something was wrong. -/
abbrev RS := Int × Bool
def rbox (b : List Int) (s : RS) : Abs.Obj := .box [.t (.lst 1 false (B b)), .t (.int .i64 s.1), .t (.bool s.2)]
/-- A number that is read. -/
def rdN (R : Int → Int × Int × Int) (s : RS) : Int × RS := if s.2 then (0, s) else if (R s.1).2.2 ≠ 0 then (0, (s.1, true)) else ((R s.1).1, ((R s.1).2.1, false))
def RU (b : List Int) (at_ : Int) : Int × Int × Int := ((readAt 8 127 b at_).1, (readAt 8 127 b at_).2.1, (readAt 8 127 b at_).2.2)
def RI (b : List Int) (at_ : Int) : Int × Int × Int := (unzig (readAt 9 1 b at_).1, (readAt 9 1 b at_).2.1, (readAt 9 1 b at_).2.2)

/-- Where a reader may stand. -/
def SOk (b : List Int) (s : RS) : Prop := 0 ≤ s.1 ∧ s.1 ≤ b.length

theorem rdU_ok {b : List Int} (hb : Bytes b) {s : RS} (h : SOk b s) : SOk b (rdN (RU b) s).2 ∧ 0 ≤ (rdN (RU b) s).1 ∧ (rdN (RU b) s).1 < 2 ^ 63 := by
  obtain ⟨hv, hn, hp⟩ := readAt_bounds (last := 8) (mx := 127) (by decide) hb (at_ := s.1)
  change (readAt 8 127 b s.1).1 < (127 + 1) * 128 ^ 8 at hv
  change (readAt 8 127 b s.1).2.2 = 0 → 0 ≤ s.1 ∧ s.1 < (readAt 8 127 b s.1).2.1 ∧ (readAt 8 127 b s.1).2.1 ≤ b.length at hn
  have h8 : (127 + 1) * 128 ^ 8 = 2 ^ 63 := by decide
  unfold rdN
  split
  · exact ⟨h, by simp, by simp⟩
  split
  · exact ⟨h, by simp, by simp⟩
  · rename_i he
    have := hn (by simpa [RU] using he)
    refine ⟨⟨?_, ?_⟩, ?_, ?_⟩ <;> simp only [RU] <;> omega

theorem rdI_ok {b : List Int} (hb : Bytes b) {s : RS} (h : SOk b s) : SOk b (rdN (RI b) s).2 ∧ I64 (rdN (RI b) s).1 := by
  obtain ⟨hv, hn, hp⟩ := readAt_bounds (last := 9) (mx := 1) (by decide) hb (at_ := s.1)
  change (readAt 9 1 b s.1).1 < (1 + 1) * 128 ^ 9 at hv
  change (readAt 9 1 b s.1).2.2 = 0 → 0 ≤ s.1 ∧ s.1 < (readAt 9 1 b s.1).2.1 ∧ (readAt 9 1 b s.1).2.1 ≤ b.length at hn
  have h8 : (1 + 1) * 128 ^ 9 = 2 ^ 64 := by decide
  unfold rdN
  split
  · exact ⟨h, by unfold I64; simp⟩
  split
  · exact ⟨h, by unfold I64; simp⟩
  · rename_i he
    have := hn (by simpa [RI] using he)
    refine ⟨⟨?_, ?_⟩, ?_⟩
    · simp only [RI]; omega
    · simp only [RI]; omega
    · simp only [RI, I64, unzig]
      split <;> omega

/-- The result is a number, and the reader has moved. -/
def RNum (b : List Int) (x : Int × RS) (r : V) (F : Heap) : Prop := r = .t (.int .i64 x.1) ∧ F = [rbox b x.2]

theorem num_sc (f : FuncId) (R : Int → Int × Int × Int) (b : List Int) (hf : ∀ at_ : Int, -2 ^ 63 ≤ at_ ∧ at_ < 2 ^ 63 → SCall PP f [.t (.lst 1 false (B b)), .t (.int .i64 at_)] [] (RTup [.int .i64 (R at_).1, .int .i64 (R at_).2.1, .int .i64 (R at_).2.2]))
    (hl : b.length ≤ 2 ^ 40) (s : RS) (hs : SOk b s) : SCall PP N.message_reader_number [.ref 0 0, .fn f []] [rbox b s] (RNum b (rdN R s)) := by
  refine message_reader_number.intro (by simp) ?_
  obtain ⟨at_, bad⟩ := s
  obtain ⟨h1, h2⟩ := hs
  simp only at h1 h2
  have c := hf at_ (by omega)
  unfold rbox rdN
  generalize R at_ = q at *
  obtain ⟨v, n, e⟩ := q
  simp only at c ⊢
  cases bad with
  | true =>
    simp (maxSteps := 4000000) -implicitDefEqProofs (disch := omega) only [↓sxPre, sxPost, sxLib, if_true, if_false, Nat.reduceEqDiff, ↓reduceIte, Nat.reduceAdd, Nat.reduceSub, Nat.reduceMul, Nat.reduceLT, Nat.reduceLeDiff, reduceCtorEq, eq_self, K.isEff, List.reduceReplicate]
    refine finK_gc [0] ?_
    simp [RNum, rbox, gcSt, keepOk, finG, resV, resOne, resAll, idx, V.ren, V.renL, Obj.ren, get_cons, get_nil, RTree, RTup, RRow]
  | false =>
    simp (maxSteps := 4000000) -implicitDefEqProofs (disch := omega) only [↓sxPre, sxPost, sxLib, if_true, if_false, Nat.reduceEqDiff, ↓reduceIte, Nat.reduceAdd, Nat.reduceSub, Nat.reduceMul, Nat.reduceLT, Nat.reduceLeDiff, reduceCtorEq, eq_self, K.isEff, List.reduceReplicate]
    refine step_eff (step_callv rfl (call_tup (xs := [.int .i64 v, .int .i64 n, .int .i64 e]) ?_ rfl ?_))
    · simpa [Abs.view, viewL, Abs.get, ev] using c
    simp (maxSteps := 4000000) -implicitDefEqProofs (disch := omega) only [↓sxPre, sxPost, sxLib, if_true, if_false, Nat.reduceEqDiff, ↓reduceIte, Nat.reduceAdd, Nat.reduceSub, Nat.reduceMul, Nat.reduceLT, Nat.reduceLeDiff, reduceCtorEq, eq_self, K.isEff, List.reduceReplicate]
    refine condV_ndec (fun he => ?_) fun he => ?_
    · rw [if_pos he]
      simp (maxSteps := 4000000) -implicitDefEqProofs (disch := omega) only [kstore_ref, putAt_zero, putAt_succ, ↓sxPre, sxPost, sxLib, if_true, if_false, Nat.reduceEqDiff, ↓reduceIte, Nat.reduceAdd, Nat.reduceSub, Nat.reduceMul, Nat.reduceLT, Nat.reduceLeDiff, reduceCtorEq, eq_self, K.isEff, List.reduceReplicate]
      refine finK_gc [0] ?_
      simp [RNum, rbox, gcSt, keepOk, finG, resV, resOne, resAll, idx, V.ren, V.renL, Obj.ren, get_cons, get_nil, RTree, RTup, RRow]
    · rw [if_neg (by simpa using he)]
      simp (maxSteps := 4000000) -implicitDefEqProofs (disch := omega) only [kstore_ref, putAt_zero, putAt_succ, ↓sxPre, sxPost, sxLib, if_true, if_false, Nat.reduceEqDiff, ↓reduceIte, Nat.reduceAdd, Nat.reduceSub, Nat.reduceMul, Nat.reduceLT, Nat.reduceLeDiff, reduceCtorEq, eq_self, K.isEff, List.reduceReplicate]
      refine finK_gc [0] ?_
      simp [RNum, rbox, gcSt, keepOk, finG, resV, resOne, resAll, idx, V.ren, V.renL, Obj.ren, get_cons, get_nil, RTree, RTup, RRow]

theorem numU_sc (b : List Int) (hb : Bytes b) (hl : b.length ≤ 2 ^ 40) (s : RS) (hs : SOk b s) : SCall PP N.message_reader_number [.ref 0 0, .fn N.wire_Uint []] [rbox b s] (RNum b (rdN (RU b) s)) :=
  num_sc _ _ b (fun at_ ha => Uint_sc b hb hl false at_ ha) hl s hs
theorem numI_sc (b : List Int) (hb : Bytes b) (hl : b.length ≤ 2 ^ 40) (s : RS) (hs : SOk b s) : SCall PP N.message_reader_number [.ref 0 0, .fn N.wire_Int []] [rbox b s] (RNum b (rdN (RI b) s)) :=
  num_sc _ _ b (fun at_ ha => Int_sc b hb hl false at_ ha) hl s hs
end Go.Proofs.Ytljjabccgbakgaa

/- Messages: lists of numbers are read. By the session itself. -/
namespace Go.Proofs.Ytljjabccgbakgaa
open Go Go.Abs
set_option maxRecDepth 100000
set_option maxHeartbeats 4000000
set_option linter.unusedSimpArgs false
set_option linter.unusedVariables false

def rdLoop (b : List Int) : Nat → RS → List Int × RS
  | 0, s => ([], s)
  | k + 1, s => if s.2 then ([], s) else ((rdN (RI b) s).1 :: (rdLoop b k (rdN (RI b) s).2).1, (rdLoop b k (rdN (RI b) s).2).2)
/-- A list of numbers. -/
def rdInts (b : List Int) (most : Int) (s : RS) : List Int × RS :=
  if most < (rdN (RU b) s).1 then ([], ((rdN (RU b) s).2.1, true)) else rdLoop b (rdN (RU b) s).1.toNat (rdN (RU b) s).2

theorem rdLoop_ok {b : List Int} (hb : Bytes b) : ∀ (k : Nat) {s : RS}, SOk b s → SOk b (rdLoop b k s).2 ∧ I64s (rdLoop b k s).1 ∧ (rdLoop b k s).1.length ≤ k
  | 0, s, h => ⟨h, (fun x hx => by cases hx), Nat.le_refl _⟩
  | k + 1, s, h => by
    simp only [rdLoop]
    split
    · exact ⟨h, (fun x hx => by cases hx), by simp⟩
    · have h1 := rdI_ok hb h
      have h2 := rdLoop_ok hb k h1.1
      refine ⟨h2.1, fun x hx => ?_, by simpa using h2.2.2⟩
      rcases List.mem_cons.1 hx with rfl | hx
      · exact h1.2
      · exact h2.2.1 x hx

theorem rdInts_ok {b : List Int} (hb : Bytes b) (most : Int) {s : RS} (h : SOk b s) : SOk b (rdInts b most s).2 ∧ I64s (rdInts b most s).1 ∧ ((rdInts b most s).1.length : Int) ≤ max most 0 := by
  have h1 := rdU_ok hb h
  unfold rdInts
  split
  · exact ⟨h1.1, (fun x hx => by cases hx), by simp; omega⟩
  · have h2 := rdLoop_ok hb (rdN (RU b) s).1.toNat h1.1
    refine ⟨h2.1, h2.2.1, ?_⟩
    have := h2.2.2
    omega

/-- A list, and the reader has moved. -/
def RInts (b : List Int) (x : List Int × RS) (r : V) (F : Heap) : Prop := (r = .t (.lst 0 true []) ∧ x.1 = [] ∧ F = [rbox b x.2]) ∨ ∃ g, r = .sl 1 0 x.1.length g 1 ∧ F = [rbox b x.2, .row 1 g (Ns x.1)]

/-- A call of a reader's number. -/
theorem step_num {P : Program} {f : FuncId} {H : Heap} {K : St → Prop} {vs : List (Nat × V)} {r : List Ins} {d : Nat} {xs : List Opnd} {b : List Int} {x : Int × RS} (id : Nat) (hid : id < H.length)
    (h : SCall P f ((xs.map (ev vs)).map (V.ren (idx [id]))) (sub H [id]) (RNum b x)) (hk : wpR (SCall P) r K ⟨(d, .t (.int .i64 x.1)) :: vs, H.set id (rbox b x.2)⟩) : wpR (SCall P) (⟨some d, none, .call f xs⟩ :: r) K ⟨vs, H⟩ := by
  refine step_call (call_frame [id] (by simp) (by simpa using hid) h ?_)
  rintro r F ⟨rfl, rfl⟩
  simpa [merge, setAll, V.ren, Obj.ren, rbox, V.renL] using hk

theorem Ns_append (l m : List Int) : Ns (l ++ m) = Ns l ++ Ns m := by simp [Ns]
theorem Ns_flat (l : List Int) : (Ns l).all T.flat = true := by simp [Ns, T.flat, T.cells, T.scal]

theorem ints_sc (b : List Int) (hb : Bytes b) (hl : b.length ≤ 2 ^ 40) (s : RS) (hs : SOk b s) (most : Int) (hm : 0 ≤ most ∧ most ≤ 2 ^ 20) :
    SCall PP N.message_reader_ints [.ref 0 0, .t (.int .i64 most)] [rbox b s] (RInts b (rdInts b most s)) := by
  refine message_reader_ints.intro (by simp) ?_
  obtain ⟨k1, k2, k3⟩ := rdU_ok hb hs
  have cU := numU_sc b hb hl s hs
  unfold rdInts
  generalize rdN (RU b) s = u at *
  obtain ⟨n, at_, bad⟩ := u
  simp only at k1 k2 k3 ⊢
  simp (maxSteps := 4000000) -implicitDefEqProofs (disch := omega) only [↓sxPre, sxPost, sxLib, if_true, if_false, Nat.reduceEqDiff, ↓reduceIte, Nat.reduceAdd, Nat.reduceSub, Nat.reduceMul, Nat.reduceLT, Nat.reduceLeDiff, reduceCtorEq, eq_self, K.isEff, List.reduceReplicate]
  refine step_num (b := b) (x := (n, at_, bad)) 0 (by simp) ?_ ?_
  · simpa [V.ren, V.renL, idx, Abs.get, ev, sub, rbox, Obj.ren] using cU
  by_cases hn : most < n
  · have g : decide (most < n) = true := decide_eq_true hn
    rw [if_pos hn]
    unfold rbox
    simp (maxSteps := 4000000) -implicitDefEqProofs (disch := omega) only [g, kstore_ref, putAt_zero, putAt_succ, ↓sxPre, sxPost, sxLib, if_true, if_false, Nat.reduceEqDiff, ↓reduceIte, Nat.reduceAdd, Nat.reduceSub, Nat.reduceMul, Nat.reduceLT, Nat.reduceLeDiff, reduceCtorEq, eq_self, K.isEff, List.reduceReplicate]
    refine wpC_loop_gc [0, 5, 6, 7] [0] (fun m s => s = ⟨[(0, .ref 0 0), (5, .t (.int .i64 n)), (6, .t (.lst 0 true [])), (7, .t (.int .i64 0))], [rbox b (at_, true)]⟩) 0
      ⟨by simp [gcSt, keepOk, finG, resV, resOne, resAll, idx, V.ren, V.renL, Obj.ren, get_cons, get_nil, RTree, RTup, RRow], by simp [rbox, gcSt, keepOk, finG, resV, resOne, resAll, idx, V.ren, V.renL, Obj.ren, get_cons, get_nil, RTree, RTup, RRow]⟩ ?_
    rintro m s rfl
    have gn : decide ((0 : Int) < n) = true := decide_eq_true (by omega)
    unfold rbox
    simp (maxSteps := 4000000) -implicitDefEqProofs (disch := omega) only [gn, ↓sxPre, sxPost, sxLib, if_true, if_false, Nat.reduceEqDiff, ↓reduceIte, Nat.reduceAdd, Nat.reduceSub, Nat.reduceMul, Nat.reduceLT, Nat.reduceLeDiff, reduceCtorEq, eq_self, K.isEff, List.reduceReplicate]
    refine finK_gc [0] ?_
    simp [RInts, rbox, gcSt, keepOk, finG, resV, resOne, resAll, idx, V.ren, V.renL, Obj.ren, get_cons, get_nil, RTree, RTup, RRow]
  · have g : decide (most < n) = false := decide_eq_false hn
    rw [if_neg hn]
    unfold rbox
    simp (maxSteps := 4000000) -implicitDefEqProofs (disch := omega) only [g, kstore_ref, putAt_zero, putAt_succ, ↓sxPre, sxPost, sxLib, if_true, if_false, Nat.reduceEqDiff, ↓reduceIte, Nat.reduceAdd, Nat.reduceSub, Nat.reduceMul, Nat.reduceLT, Nat.reduceLeDiff, reduceCtorEq, eq_self, K.isEff, List.reduceReplicate]
    refine wpC_loop_any [0, 5, 6, 7] (fun m s => ∃ (i : Nat) (l : List Int) (t : RS) (x : V) (H : Heap), (m : Int) + i = n ∧ l.length = i ∧ SOk b t ∧ rdLoop b n.toNat (at_, bad) = (l ++ (rdLoop b m t).1, (rdLoop b m t).2) ∧
        ((x = .t (.lst 0 true []) ∧ l = [] ∧ H = [rbox b t]) ∨ ∃ g, x = .sl 1 0 l.length g 1 ∧ H = [rbox b t, .row 1 g (Ns l)]) ∧
        s = ⟨[(0, .ref 0 0), (5, .t (.int .i64 n)), (6, x), (7, .t (.int .i64 i))], H⟩) n.toNat
      ⟨[0], by simp [gcSt, keepOk, finG, resV, resOne, resAll, idx, V.ren, V.renL, Obj.ren, get_cons, get_nil, RTree, RTup, RRow], 0, [], (at_, bad), _, _, by omega, rfl, k1, by simp, .inl ⟨rfl, rfl, rfl⟩, by simp [rbox, gcSt, keepOk, finG, resV, resOne, resAll, idx, V.ren, V.renL, Obj.ren, get_cons, get_nil, RTree, RTup, RRow]⟩ ?_
    rintro m s ⟨i, l, t, x, H, hmi, hli, ht, hrd, hx, rfl⟩
    have hHb : ∃ R, H = rbox b t :: R := by
      rcases hx with ⟨_, _, rfl⟩ | ⟨g, _, rfl⟩
      · exact ⟨_, rfl⟩
      · exact ⟨_, rfl⟩
    have fin : rdLoop b n.toNat (at_, bad) = (l, t) → ∀ s : St, s.h = H → get s.vs 4 = x → finK 1 [.tmp 4] (RInts b (rdLoop b n.toNat (at_, bad))) s := by
      intro e s e1 e2
      rw [e]
      obtain ⟨svs, sh⟩ := s
      simp only at e1 e2
      subst e1
      rcases hx with ⟨rfl, hl0, rfl⟩ | ⟨g, rfl, rfl⟩
      · refine finK_gc [0] ?_
        simp [finG, keepOk, resV, resOne, e2, V.ren, Obj.ren, rbox, V.renL, RInts, hl0]
      · refine finK_gc [0, 1] ?_
        simp [finG, keepOk, resV, resOne, e2, V.ren, Obj.ren, rbox, V.renL, RInts, idx]
    obtain ⟨ta, tb⟩ := t
    have hloop0 : tb = true → rdLoop b m (ta, tb) = ([], (ta, tb)) := by
      rintro rfl
      cases m <;> simp [rdLoop]
    by_cases hi : (i : Int) < n
    case neg =>
      have gi : decide ((i : Int) < n) = false := decide_eq_false hi
      obtain rfl : m = 0 := by omega
      simp only [rdLoop, List.append_nil] at hrd
      obtain ⟨R, rfl⟩ := hHb
      unfold rbox
      simp (maxSteps := 4000000) -implicitDefEqProofs (disch := omega) only [gi, ↓sxPre, sxPost, sxLib, if_true, if_false, Nat.reduceEqDiff, ↓reduceIte, Nat.reduceAdd, Nat.reduceSub, Nat.reduceMul, Nat.reduceLT, Nat.reduceLeDiff, reduceCtorEq, eq_self, K.isEff, List.reduceReplicate]
      exact fin hrd _ rfl rfl
    have gi : decide ((i : Int) < n) = true := decide_eq_true hi
    cases tb with
    | true =>
      rw [hloop0 rfl, List.append_nil] at hrd
      obtain ⟨R, rfl⟩ := hHb
      unfold rbox
      simp (maxSteps := 4000000) -implicitDefEqProofs (disch := omega) only [gi, ↓sxPre, sxPost, sxLib, if_true, if_false, Nat.reduceEqDiff, ↓reduceIte, Nat.reduceAdd, Nat.reduceSub, Nat.reduceMul, Nat.reduceLT, Nat.reduceLeDiff, reduceCtorEq, eq_self, K.isEff, List.reduceReplicate]
      exact fin hrd _ rfl rfl
    | false =>
      clear fin hloop0
      obtain ⟨m, rfl⟩ : ∃ m', m = m' + 1 := ⟨m - 1, by omega⟩
      obtain ⟨j1, j2⟩ := rdI_ok hb ht
      have cI := numI_sc b hb hl (ta, false) ht
      simp only [rdLoop, if_neg Bool.false_ne_true] at hrd
      generalize rdN (RI b) (ta, false) = w at *
      obtain ⟨v, wa, wb⟩ := w
      simp only at j1 j2 hrd cI
      clear hHb
      rcases hx with ⟨rfl, hl0, rfl⟩ | ⟨g, rfl, rfl⟩
      · unfold rbox
        simp (maxSteps := 4000000) -implicitDefEqProofs (disch := omega) only [gi, ↓sxPre, sxPost, sxLib, if_true, if_false, Nat.reduceEqDiff, ↓reduceIte, Nat.reduceAdd, Nat.reduceSub, Nat.reduceMul, Nat.reduceLT, Nat.reduceLeDiff, reduceCtorEq, eq_self, K.isEff, List.reduceReplicate]
        refine step_num (b := b) (x := (v, wa, wb)) 0 (by simp) ?_ ?_
        · simpa [V.ren, V.renL, idx, Abs.get, ev, sub, rbox, Obj.ren] using cI
        unfold rbox
        simp (maxSteps := 4000000) -implicitDefEqProofs (disch := omega) only [keff_buildSlice, toElems_cons, toElems_nil, toElem_t, setElems_cons, setElems_nil, elems_lst', kappend_nil, ↓sxPre, sxPost, sxLib, if_true, if_false, Nat.reduceEqDiff, ↓reduceIte, Nat.reduceAdd, Nat.reduceSub, Nat.reduceMul, Nat.reduceLT, Nat.reduceLeDiff, reduceCtorEq, eq_self, K.isEff, List.reduceReplicate]
        refine ⟨by decide, m, by omega, [0, 1], by simp [gcSt, keepOk, finG, resV, resOne, resAll, idx, V.ren, V.renL, Obj.ren, get_cons, get_nil, RTree, RTup, RRow], i + 1, l ++ [v], (wa, wb), _, _, by omega, by simp [hli], j1, ?_, .inr ⟨0, rfl, rfl⟩, by simp [rbox, hl0, Ns, hli, gcSt, keepOk, finG, resV, resOne, resAll, idx, V.ren, V.renL, Obj.ren, get_cons, get_nil, RTree, RTup, RRow]⟩
        rw [hrd]; simp
      · unfold rbox
        simp (maxSteps := 4000000) -implicitDefEqProofs (disch := omega) only [gi, ↓sxPre, sxPost, sxLib, if_true, if_false, Nat.reduceEqDiff, ↓reduceIte, Nat.reduceAdd, Nat.reduceSub, Nat.reduceMul, Nat.reduceLT, Nat.reduceLeDiff, reduceCtorEq, eq_self, K.isEff, List.reduceReplicate]
        refine step_num (b := b) (x := (v, wa, wb)) 0 (by simp) ?_ ?_
        · simpa [V.ren, V.renL, idx, Abs.get, ev, sub, rbox, Obj.ren] using cI
        unfold rbox
        simp (maxSteps := 4000000) -implicitDefEqProofs (disch := omega) only [Ns_length, keff_buildSlice, toElems_cons, toElems_nil, toElem_t, setElems_cons, setElems_nil, elems_lst', kappend_nil, ↓sxPre, sxPost, sxLib, if_true, if_false, Nat.reduceEqDiff, ↓reduceIte, Nat.reduceAdd, Nat.reduceSub, Nat.reduceMul, Nat.reduceLT, Nat.reduceLeDiff, reduceCtorEq, eq_self, K.isEff, List.reduceReplicate]
        refine ⟨by omega, m, by omega, [0, 1], by simp [gcSt, keepOk, finG, resV, resOne, resAll, idx, V.ren, V.renL, Obj.ren, get_cons, get_nil, RTree, RTup, RRow], i + 1, l ++ [v], (wa, wb), _, _, by omega, by simp [hli], j1, ?_, .inr ⟨g + 1, rfl, rfl⟩, by simp [rbox, Ns, hli, gcSt, keepOk, finG, resV, resOne, resAll, idx, V.ren, V.renL, Obj.ren, get_cons, get_nil, RTree, RTup, RRow]⟩
        rw [hrd]; simp
end Go.Proofs.Ytljjabccgbakgaa

/- Messages: exactly, done and DecodeCommand. By the session itself. -/
namespace Go.Proofs.Ytljjabccgbakgaa
open Go Go.Abs
set_option maxRecDepth 100000
set_option maxHeartbeats 4000000
set_option linter.unusedSimpArgs false
set_option linter.unusedVariables false

def rdExact (b : List Int) (n : Nat) (s : RS) : List Int × RS := if (rdInts b n s).1.length = n then rdInts b n s else (List.replicate n 0, ((rdInts b n s).2.1, true))
/-- A list in new memory, and the reader has moved. -/
def RNew (b : List Int) (x : List Int × RS) (r : V) (F : Heap) : Prop := ∃ g, r = .sl 1 0 x.1.length g 1 ∧ F = [rbox b x.2, .row 1 g (Ns x.1)]

theorem rdExact_ok {b : List Int} (hb : Bytes b) (n : Nat) {s : RS} (h : SOk b s) : SOk b (rdExact b n s).2 ∧ I64s (rdExact b n s).1 ∧ (rdExact b n s).1.length = n := by
  obtain ⟨h1, h2, h3⟩ := rdInts_ok hb n h
  unfold rdExact
  split
  · rename_i e; exact ⟨h1, h2, e⟩
  · refine ⟨h1, fun x hx => ?_, by simp⟩
    rw [List.eq_of_mem_replicate hx]; omega

/-- A call of a reader's list. -/
theorem step_ints {P : Program} {f : FuncId} {H : Heap} {K : St → Prop} {vs : List (Nat × V)} {r : List Ins} {d : Nat} {xs : List Opnd} {b : List Int} {x : List Int × RS} (id : Nat) (hid : id < H.length)
    (h : SCall P f ((xs.map (ev vs)).map (V.ren (idx [id]))) (sub H [id]) (RInts b x))
    (h1 : x.1 = [] → wpR (SCall P) r K ⟨(d, .t (.lst 0 true [])) :: vs, H.set id (rbox b x.2)⟩)
    (h2 : ∀ g, wpR (SCall P) r K ⟨(d, .sl H.length 0 x.1.length g 1) :: vs, H.set id (rbox b x.2) ++ [.row 1 g (Ns x.1)]⟩) : wpR (SCall P) (⟨some d, none, .call f xs⟩ :: r) K ⟨vs, H⟩ := by
  refine step_call (call_frame [id] (by simp) (by simpa using hid) h ?_)
  rintro r F (⟨rfl, h0, rfl⟩ | ⟨g, rfl, rfl⟩)
  · simpa [merge, setAll, V.ren, Obj.ren, rbox, V.renL] using h1 h0
  · simpa [merge, setAll, V.ren, Obj.ren, rbox, V.renL, tau] using h2 g

theorem step_new {P : Program} {f : FuncId} {H : Heap} {K : St → Prop} {vs : List (Nat × V)} {r : List Ins} {d : Nat} {xs : List Opnd} {b : List Int} {x : List Int × RS} (id : Nat) (hid : id < H.length)
    (h : SCall P f ((xs.map (ev vs)).map (V.ren (idx [id]))) (sub H [id]) (RNew b x))
    (h2 : ∀ g, wpR (SCall P) r K ⟨(d, .sl H.length 0 x.1.length g 1) :: vs, H.set id (rbox b x.2) ++ [.row 1 g (Ns x.1)]⟩) : wpR (SCall P) (⟨some d, none, .call f xs⟩ :: r) K ⟨vs, H⟩ := by
  refine step_call (call_frame [id] (by simp) (by simpa using hid) h ?_)
  rintro r F ⟨g, rfl, rfl⟩
  simpa [merge, setAll, V.ren, Obj.ren, rbox, V.renL, tau] using h2 g

theorem exactly_sc (b : List Int) (hb : Bytes b) (hl : b.length ≤ 2 ^ 40) (s : RS) (hs : SOk b s) (n : Nat) (hn : 0 < n ∧ n ≤ 2 ^ 20) :
    SCall PP N.message_reader_exactly [.ref 0 0, .t (.int .i64 n)] [rbox b s] (RNew b (rdExact b n s)) := by
  refine message_reader_exactly.intro (by simp) ?_
  have c := ints_sc b hb hl s hs n (by omega)
  have hlen := (rdInts_ok hb n hs).2.2
  unfold rdExact
  generalize rdInts b n s = x at *
  obtain ⟨l, at_, bad⟩ := x
  simp only at hlen ⊢
  have c' : SCall PP N.message_reader_ints (([Opnd.tmp 6, Opnd.tmp 7].map (ev [(7, .t (.int .i64 n)), (6, .ref 0 0), (4, .t (.lst 0 true [])), (0, .ref 0 0), (1, .t (.int .i64 n))])).map (V.ren (idx [0]))) (sub [rbox b s] [0]) (RInts b (l, at_, bad)) := by
    simpa [V.ren, V.renL, idx, Abs.get, ev, sub, rbox, Obj.ren] using c
  simp (maxSteps := 4000000) -implicitDefEqProofs (disch := omega) only [↓sxPre, sxPost, sxLib, if_true, if_false, Nat.reduceEqDiff, ↓reduceIte, Nat.reduceAdd, Nat.reduceSub, Nat.reduceMul, Nat.reduceLT, Nat.reduceLeDiff, reduceCtorEq, eq_self, K.isEff, List.reduceReplicate]
  refine step_ints (b := b) (x := (l, at_, bad)) 0 (by simp) c' (fun h0 => ?_) (fun g => ?_)
  · simp only at h0
    subst h0
    have gl : decide ((0 : Int) = n) = false := decide_eq_false (by omega)
    rw [if_neg (by simp; omega)]
    unfold rbox
    simp (maxSteps := 4000000) -implicitDefEqProofs (disch := omega) only [gl, kstore_ref, putAt_zero, putAt_succ, Int.cast_ofNat_Int, Int.toNat_natCast, ↓sxPre, sxPost, sxLib, if_true, if_false, Nat.reduceEqDiff, ↓reduceIte, Nat.reduceAdd, Nat.reduceSub, Nat.reduceMul, Nat.reduceLT, Nat.reduceLeDiff, reduceCtorEq, eq_self, K.isEff, List.reduceReplicate]
    refine ⟨⟨by omega, by omega, by omega, by omega⟩, finK_gc [0, 1] ?_⟩
    simp [RNew, rbox, Ns, gcSt, keepOk, finG, resV, resOne, resAll, idx, V.ren, V.renL, Obj.ren, get_cons, get_nil, RTree, RTup, RRow]
  · by_cases hln : l.length = n
    · have gl : decide ((l.length : Int) = n) = true := decide_eq_true (by omega)
      rw [if_pos hln]
      unfold rbox
      simp (maxSteps := 4000000) -implicitDefEqProofs (disch := omega) only [gl, ↓sxPre, sxPost, sxLib, if_true, if_false, Nat.reduceEqDiff, ↓reduceIte, Nat.reduceAdd, Nat.reduceSub, Nat.reduceMul, Nat.reduceLT, Nat.reduceLeDiff, reduceCtorEq, eq_self, K.isEff, List.reduceReplicate]
      refine finK_gc [0, 1] ?_
      simp [RNew, rbox, gcSt, keepOk, finG, resV, resOne, resAll, idx, V.ren, V.renL, Obj.ren, get_cons, get_nil, RTree, RTup, RRow]
    · have gl : decide ((l.length : Int) = n) = false := decide_eq_false (by omega)
      rw [if_neg hln]
      unfold rbox
      simp (maxSteps := 4000000) -implicitDefEqProofs (disch := omega) only [gl, kstore_ref, putAt_zero, putAt_succ, Int.toNat_natCast, ↓sxPre, sxPost, sxLib, if_true, if_false, Nat.reduceEqDiff, ↓reduceIte, Nat.reduceAdd, Nat.reduceSub, Nat.reduceMul, Nat.reduceLT, Nat.reduceLeDiff, reduceCtorEq, eq_self, K.isEff, List.reduceReplicate]
      refine ⟨⟨by omega, by omega, by omega, by omega⟩, finK_gc [0, 2] ?_⟩
      simp [RNew, rbox, Ns, gcSt, keepOk, finG, resV, resOne, resAll, idx, V.ren, V.renL, Obj.ren, get_cons, get_nil, RTree, RTup, RRow]

def RDone (b : List Int) (s : RS) (r : V) (F : Heap) : Prop := r = .t (.bool (!s.2 && decide (s.1 = b.length))) ∧ F = [rbox b s]

theorem done_sc (b : List Int) (s : RS) : SCall PP N.message_reader_done [.ref 0 0] [rbox b s] (RDone b s) := by
  refine message_reader_done.intro (by simp) ?_
  obtain ⟨at_, bad⟩ := s
  unfold rbox
  cases bad with
  | true =>
    simp (maxSteps := 4000000) -implicitDefEqProofs (disch := omega) only [B_length, ↓sxPre, sxPost, sxLib, if_true, if_false, Nat.reduceEqDiff, ↓reduceIte, Nat.reduceAdd, Nat.reduceSub, Nat.reduceMul, Nat.reduceLT, Nat.reduceLeDiff, reduceCtorEq, eq_self, K.isEff, List.reduceReplicate]
    refine finK_gc [0] ?_
    simp [RDone, rbox, gcSt, keepOk, finG, resV, resOne, resAll, idx, V.ren, V.renL, Obj.ren, get_cons, get_nil, RTree, RTup, RRow]
  | false =>
    simp (maxSteps := 4000000) -implicitDefEqProofs (disch := omega) only [B_length, ↓sxPre, sxPost, sxLib, if_true, if_false, Nat.reduceEqDiff, ↓reduceIte, Nat.reduceAdd, Nat.reduceSub, Nat.reduceMul, Nat.reduceLT, Nat.reduceLeDiff, reduceCtorEq, eq_self, K.isEff, List.reduceReplicate]
    refine finK_gc [0] ?_
    simp [RDone, rbox, gcSt, keepOk, finG, resV, resOne, resAll, idx, V.ren, V.renL, Obj.ren, get_cons, get_nil, RTree, RTup, RRow]

/-- A command. -/
structure Cm where
  kind : Int
  thread : Int
  addr : Int
  n : Int
  words : List Int
  deriving DecidableEq
def zeroCm : Cm := ⟨0, 0, 0, 0, []⟩
def Cm.vals (q : Cm) (x : V) : List V := [.t (.int .i64 q.kind), .t (.int .i64 q.thread), .t (.int .i64 q.addr), .t (.int .i64 q.n), x]
def decC (b : List Int) : Cm × Int :=
  if (rdInts b 128 (rdExact b 4 (0, false)).2).2.2 = false ∧ (rdInts b 128 (rdExact b 4 (0, false)).2).2.1 = b.length then
    (⟨(rdExact b 4 (0, false)).1.getD 0 0, (rdExact b 4 (0, false)).1.getD 1 0, (rdExact b 4 (0, false)).1.getD 2 0, (rdExact b 4 (0, false)).1.getD 3 0, (rdInts b 128 (rdExact b 4 (0, false)).2).1⟩, 0)
  else (zeroCm, 4)
/-- A list of numbers: nothing, or new memory. -/
def RWords (l : List Int) (x : V) (H : Heap) : Prop := (x = .t (.lst 0 true []) ∧ l = [] ∧ H = []) ∨ ∃ g, x = .sl 0 0 l.length g 1 ∧ H = [.row 1 g (Ns l)]
def RDecC (d : Cm × Int) (r : V) (H : Heap) : Prop := ∃ x, r = .tup [.agg (d.1.vals x), .t (.int .i64 d.2)] ∧ RWords d.1.words x H

theorem step_done {P : Program} {f : FuncId} {H : Heap} {K : St → Prop} {vs : List (Nat × V)} {r : List Ins} {d : Nat} {xs : List Opnd} {b : List Int} {s : RS} (id : Nat) (hid : id < H.length) (hg : H[id]? = some (rbox b s))
    (h : SCall P f ((xs.map (ev vs)).map (V.ren (idx [id]))) (sub H [id]) (RDone b s)) (hk : wpR (SCall P) r K ⟨(d, .t (.bool (!s.2 && decide (s.1 = b.length)))) :: vs, H⟩) : wpR (SCall P) (⟨some d, none, .call f xs⟩ :: r) K ⟨vs, H⟩ := by
  refine step_call (call_frame [id] (by simp) (by simpa using hid) h ?_)
  rintro r F ⟨rfl, rfl⟩
  have e : H.set id (rbox b s) = H := by
    refine List.ext_getElem? fun i => ?_
    rw [List.getElem?_set]
    split
    · rename_i h; subst h; exact hg.symm
    · rfl
  have : merge H [id] [rbox b s] = H := by
    rw [← e]
    simp [merge, setAll, V.ren, Obj.ren, rbox, V.renL]
  rw [this]
  exact hk

theorem fin_nilC {slot id u : Nat} {q : Cm} {y : T} {s : St} {Q : V → Heap → Prop} (h1 : get s.vs slot = .ref id 0) (h2 : s.h[id]? = some (.box (q.vals (.t (.lst 0 true []))))) (h3 : get s.vs u = .t y)
    (hQ : Q (.tup [.agg (q.vals (.t (.lst 0 true []))), .t y]) []) : finK 0 [.cell slot 5 false, .tmp u] Q s := by
  refine finK_gc [] ⟨by simp [keepOk], ?_⟩
  simp only [resV, resAll, resOne, h1, h3, kloadN_ref, h2]
  refine ⟨by simp [Cm.vals], ?_⟩
  simpa [V.ren, V.renL, Cm.vals] using hQ

theorem fin_newC {slot id u rid g : Nat} {q : Cm} {y : T} {s : St} {Q : V → Heap → Prop} (h1 : get s.vs slot = .ref id 0) (h2 : s.h[id]? = some (.box (q.vals (.sl rid 0 q.words.length g 1)))) (h3 : get s.vs u = .t y)
    (h4 : s.h[rid]? = some (.row 1 g (Ns q.words))) (hQ : Q (.tup [.agg (q.vals (.sl 0 0 q.words.length g 1)), .t y]) [.row 1 g (Ns q.words)]) : finK 0 [.cell slot 5 false, .tmp u] Q s := by
  have hlt : rid < s.h.length := (List.getElem?_eq_some_iff.1 h4).1
  refine finK_gc [rid] ⟨by simp [keepOk, hlt], ?_⟩
  simp only [resV, resAll, resOne, h1, h3, kloadN_ref, h2]
  refine ⟨by simp [Cm.vals], ?_⟩
  simpa [V.ren, V.renL, Cm.vals, idx, h4, Obj.ren] using hQ

theorem DecodeCommand_sc (b : List Int) (hb : Bytes b) (hl : b.length ≤ 2 ^ 40) : SCall PP N.message_DecodeCommand [.t (.lst 1 false (B b))] [] (RDecC (decC b)) := by
  refine message_DecodeCommand.intro (by simp) ?_
  have h0 : SOk b (0, false) := ⟨by simp, by simp⟩
  have c1 := exactly_sc b hb hl (0, false) h0 4 (by decide)
  obtain ⟨k1, k2, k3⟩ := rdExact_ok hb 4 h0
  have c2 := ints_sc b hb hl (rdExact b 4 (0, false)).2 k1 128 (by decide)
  unfold decC
  generalize rdExact b 4 (0, false) = x at *
  obtain ⟨l, s1⟩ := x
  simp only at k1 k2 k3 c2 ⊢
  generalize rdInts b 128 s1 = z at *
  obtain ⟨y, s2⟩ := z
  simp only at c2 ⊢
  match l, k3 with
  | [l0, l1, l2, l3], _ =>
  have cd := done_sc b s2
  obtain ⟨D, hD⟩ : ∃ D, D = if s2.2 = false ∧ s2.1 = (b.length : Int) then (⟨[l0, l1, l2, l3].getD 0 0, [l0, l1, l2, l3].getD 1 0, [l0, l1, l2, l3].getD 2 0, [l0, l1, l2, l3].getD 3 0, y⟩, 0) else ((zeroCm, 4) : Cm × Int) := ⟨_, rfl⟩
  rw [← hD]
  simp only [List.getD_cons_zero, List.getD_cons_succ] at hD
  have c1' : SCall PP N.message_reader_exactly [.ref 0 0, .t (.int .i64 4)] [rbox b (0, false)] (RNew b ([l0, l1, l2, l3], s1)) := c1
  simp (maxSteps := 4000000) -implicitDefEqProofs (disch := omega) only [stepK_build', fillV, putAt_zero, putAt_succ, ↓sxPre, sxPost, sxLib, if_true, if_false, Nat.reduceEqDiff, ↓reduceIte, Nat.reduceAdd, Nat.reduceSub, Nat.reduceMul, Nat.reduceLT, Nat.reduceLeDiff, reduceCtorEq, eq_self, K.isEff, List.reduceReplicate]
  refine step_new (b := b) (x := ([l0, l1, l2, l3], s1)) 1 (by simp) ?_ (fun g => ?_)
  · simpa [V.ren, V.renL, idx, Abs.get, ev, sub, rbox, Obj.ren] using c1'
  have a0 := at_Ns (l := [l0, l1, l2, l3]) (i := 0) (by simp)
  have a1 := at_Ns (l := [l0, l1, l2, l3]) (i := 1) (by simp)
  have a2 := at_Ns (l := [l0, l1, l2, l3]) (i := 2) (by simp)
  have a3 := at_Ns (l := [l0, l1, l2, l3]) (i := 3) (by simp)
  simp only [List.getElem_cons_zero, List.getElem_cons_succ] at a0 a1 a2 a3
  obtain ⟨X, hX⟩ : ∃ X, X = Ns [l0, l1, l2, l3] := ⟨_, rfl⟩
  rw [← hX] at a0 a1 a2 a3
  simp only [← hX]
  simp (maxSteps := 4000000) -implicitDefEqProofs (disch := omega) only [kload1_elt, Int.reduceToNat, a0, a1, a2, a3, at_zero, ↓sxPre, sxPost, sxLib, if_true, if_false, Nat.reduceEqDiff, ↓reduceIte, Nat.reduceAdd, Nat.reduceSub, Nat.reduceMul, Nat.reduceLT, Nat.reduceLeDiff, reduceCtorEq, eq_self, K.isEff, List.reduceReplicate]
  refine ⟨by omega, by omega, by omega, by omega, ?_, by omega, by omega, by omega, by omega, ?_⟩
  all_goals
    refine step_eff (step_ints (b := b) (x := (y, s2)) 1 (by simp) ?_ (fun hy => ?_) (fun g2 => ?_))
    · simpa [V.ren, V.renL, idx, Abs.get, ev, sub, rbox, Obj.ren] using c2
    all_goals
      simp (maxSteps := 4000000) -implicitDefEqProofs (disch := omega) only [kload1_elt, Int.reduceToNat, a0, a1, a2, a3, at_zero, stepK_build', fillV, putAt_zero, putAt_succ, kstore_ref, ↓sxPre, sxPost, sxLib, if_true, if_false, Nat.reduceEqDiff, ↓reduceIte, Nat.reduceAdd, Nat.reduceSub, Nat.reduceMul, Nat.reduceLT, Nat.reduceLeDiff, reduceCtorEq, eq_self, K.isEff, List.reduceReplicate]
      repeat refine ⟨by omega, ?_⟩
      refine step_done (b := b) (s := s2) 1 (by first | decide | simp) rfl ?_ ?_
      · simpa [V.ren, V.renL, idx, Abs.get, ev, sub, rbox, Obj.ren] using cd
      obtain ⟨sa, sbad⟩ := s2
      by_cases hok : sbad = false ∧ sa = (b.length : Int)
      · obtain ⟨rfl, rfl⟩ := hok
        rw [if_pos ⟨rfl, rfl⟩] at hD
        rw [hD]
        simp (maxSteps := 4000000) -implicitDefEqProofs (disch := omega) only [kstore_ref, putAt_zero, putAt_succ, ↓sxPre, sxPost, sxLib, if_true, if_false, Nat.reduceEqDiff, ↓reduceIte, Nat.reduceAdd, Nat.reduceSub, Nat.reduceMul, Nat.reduceLT, Nat.reduceLeDiff, reduceCtorEq, eq_self, K.isEff, List.reduceReplicate]
        first
          | exact fin_newC (rid := 3) (q := ⟨l0, l1, l2, l3, y⟩) rfl rfl rfl rfl ⟨_, rfl, .inr ⟨_, rfl, rfl⟩⟩
          | exact fin_newC (rid := 4) (q := ⟨l0, l1, l2, l3, y⟩) rfl rfl rfl rfl ⟨_, rfl, .inr ⟨_, rfl, rfl⟩⟩
          | exact fin_nilC (q := ⟨l0, l1, l2, l3, y⟩) rfl rfl rfl ⟨_, rfl, .inl ⟨rfl, hy, rfl⟩⟩
      · rw [if_neg hok] at hD
        rw [hD]
        have hv : (!((sa, sbad) : RS).2 && decide (((sa, sbad) : RS).1 = (b.length : Int))) = false := by
          cases sbad with
          | true => rfl
          | false =>
            have : ¬ sa = (b.length : Int) := fun h => hok ⟨rfl, h⟩
            simp [this]
        rw [hv]
        simp (maxSteps := 4000000) -implicitDefEqProofs (disch := omega) only [stepK_build', fillV_nil, kstore_ref, putAt_zero, putAt_succ, ↓sxPre, sxPost, sxLib, if_true, if_false, Nat.reduceEqDiff, ↓reduceIte, Nat.reduceAdd, Nat.reduceSub, Nat.reduceMul, Nat.reduceLT, Nat.reduceLeDiff, reduceCtorEq, eq_self, K.isEff, List.reduceReplicate]
        exact fin_nilC (q := zeroCm) rfl rfl rfl ⟨_, rfl, .inl ⟨rfl, rfl, rfl⟩⟩
end Go.Proofs.Ytljjabccgbakgaa

/- Messages: lists of numbers are written; EncodeCommand. By the session itself. -/
namespace Go.Proofs.Ytljjabccgbakgaa
open Go Go.Abs
set_option maxRecDepth 100000
set_option maxHeartbeats 4000000
set_option linter.unusedSimpArgs false
set_option linter.unusedVariables false

/-- A list of numbers as bytes. -/
def enI (l : List Int) : List Int := groups l.length ++ rows l

theorem step_app {P : Program} {f : FuncId} {H : Heap} {K : St → Prop} {vs : List (Nat × V)} {r : List Ins} {d : Nat} {xs : List Opnd} {ys : List T} (id : Nat) (hid : id < H.length)
    (h : SCall P f ((xs.map (ev vs)).map (V.ren (idx [id]))) (sub H [id]) (RRow 1 ys)) (hk : ∀ g, wpR (SCall P) r K ⟨(d, .sl id 0 ys.length g 1) :: vs, H.set id (.row 1 g ys)⟩) : wpR (SCall P) (⟨some d, none, .call f xs⟩ :: r) K ⟨vs, H⟩ := by
  refine step_call (call_frame [id] (by simp) (by simpa using hid) h ?_)
  rintro r F ⟨g, rfl, rfl⟩
  simpa [merge, setAll, V.ren, Obj.ren, tau] using hk g

theorem app_loop (n : Nat) (p l : List Int) (hl : I64s l) (hll : l.length ≤ 2 ^ 30) (hp : p.length ≤ 2 ^ 40) (sz : Nat) (t : Bool) (hsz : sz = 1 ∨ l = []) (g : Nat) (hn : n ≤ 1) (s : St)
    (h : ∃ keep, keepOk n keep s.h.length ∧ gcSt [0, 12, 13, 14] keep s = ⟨[(0, .sl 0 0 p.length g 1), (12, .t (.lst sz t (Ns l))), (13, .t (.int .i64 l.length)), (14, .t (.int .i64 0))], [.row 1 g (B p)]⟩) :
    wpC (SCall PP) n (.loop message_appendInts.l0) (blockK 0 (thenK (wpC (SCall PP) n (.seq (.rgn message_appendInts.r7) .ret) (exitK n [.tmp 4] (RRow 1 (B (p ++ rows l))))) (exitK n [.tmp 4] (RRow 1 (B (p ++ rows l)))))) s := by
  obtain ⟨keep, h1, h2⟩ := h
  refine wpC_loop_any [0, 12, 13, 14] (fun m s => ∃ (i g : Nat), m + i = l.length ∧ s = ⟨[(0, .sl 0 0 (p ++ rows (l.take i)).length g 1), (12, .t (.lst sz t (Ns l))), (13, .t (.int .i64 l.length)), (14, .t (.int .i64 i))], [.row 1 g (B (p ++ rows (l.take i)))]⟩) l.length
    ⟨keep, h1, 0, g, by omega, by rw [h2]; simp [rows]⟩ ?_
  rintro m s ⟨i, g, hm, rfl⟩
  have hk0 : ∀ len, 0 < len → keepOk n [0] len := by
    intro len h
    refine ⟨?_, by simpa using hn, by simp, by simpa using h⟩
    match n, hn with
    | 0, _ => rfl
    | 1, _ => rfl
  have hri : (rows (l.take i)).length ≤ 10 * 2 ^ 30 := by
    have := rows_len (l.take i) fun x hx => hl x (List.mem_of_mem_take hx)
    have h3 : (l.take i).length ≤ l.length := by simp; omega
    omega
  by_cases hi : i < l.length
  · have hi' : (i : Int) < l.length := by omega
    have h1' : sz = 1 := hsz.resolve_right (by rintro rfl; simp at hi)
    subst h1'
    have cI := AppendInt_sc [] true (l[i]'hi) (hl _ (List.getElem_mem hi)) (by simp)
    rw [List.nil_append] at cI
    have g10 := groups_le10 (zig_lt (hl _ (List.getElem_mem hi)))
    have hr1 := rows_take hi
    generalize hP : p ++ rows (l.take i) = P0 at *
    have hP1 : p ++ rows (l.take (i + 1)) = P0 ++ groups (zig (l[i]'hi)) := by rw [hr1, ← List.append_assoc, hP]
    have hPl : P0.length ≤ 2 ^ 41 := by rw [← hP, List.length_append]; omega
    simp (maxSteps := 4000000) -implicitDefEqProofs (disch := omega) only [hi', Ns_length, Int.toNat_natCast, at_Ns hi, at_zero, ↓sxPre, sxPost, sxLib, if_true, if_false, Nat.reduceEqDiff, ↓reduceIte, Nat.reduceAdd, Nat.reduceSub, Nat.reduceMul, Nat.reduceLT, Nat.reduceLeDiff, reduceCtorEq, eq_self, K.isEff, List.reduceReplicate]
    refine ⟨by omega, step_row (sz := 1) (ys := B (groups (zig (l[i]'hi)))) (nil_at 0 1 rfl cI) (B_flat _) fun g2 => ?_⟩
    generalize groups (zig (l[i]'hi)) = G at *
    simp (maxSteps := 4000000) -implicitDefEqProofs (disch := omega) only [B_length, elems_sl, B_all, ← B_append, ↓sxPre, sxPost, sxLib, if_true, if_false, Nat.reduceEqDiff, ↓reduceIte, Nat.reduceAdd, Nat.reduceSub, Nat.reduceMul, Nat.reduceLT, Nat.reduceLeDiff, reduceCtorEq, eq_self, K.isEff, List.reduceReplicate]
    refine ⟨by omega, m - 1, by omega, [0], hk0 _ (by simp), i + 1, g + 1, by omega, ?_⟩
    have hlen : p.length + (rows (l.take (i + 1))).length = P0.length + G.length := by rw [← List.length_append, hP1, List.length_append]
    rw [hP1]
    simp [hlen, gcSt, keepOk, finG, resV, resOne, resAll, idx, V.ren, V.renL, Obj.ren, get_cons, get_nil, RTree, RTup, RRow]
  · have hi' : ¬ (i : Int) < l.length := by omega
    obtain rfl : i = l.length := by omega
    rw [List.take_length]
    simp (maxSteps := 4000000) -implicitDefEqProofs (disch := omega) only [hi', ↓sxPre, sxPost, sxLib, if_true, if_false, Nat.reduceEqDiff, ↓reduceIte, Nat.reduceAdd, Nat.reduceSub, Nat.reduceMul, Nat.reduceLT, Nat.reduceLeDiff, reduceCtorEq, eq_self, K.isEff, List.reduceReplicate]
    refine finK_gc [0] ⟨hk0 _ (by simp), ?_⟩
    simp [resV, resOne, get_cons, V.ren, idx, RRow, Obj.ren, B_length]

theorem app_nil (l : List Int) (hl : I64s l) (hll : l.length ≤ 2 ^ 30) (sz : Nat) (t : Bool) (hsz : sz = 1 ∨ l = []) : SCall PP N.message_appendInts [.t (.lst 0 true []), .t (.lst sz t (Ns l))] [] (RRow 1 (B (enI l))) := by
  refine message_appendInts.intro (by simp) ?_
  have cU := AppendUint_sc [] true l.length (by omega) (by simp)
  rw [if_neg (by omega), Int.toNat_natCast, List.nil_append] at cU
  have g10 := groups_le10 (v := l.length) (by omega)
  have hL := fun g n hn s h => app_loop n (groups l.length) l hl hll (by omega) sz t hsz g hn s h
  unfold enI
  simp (maxSteps := 4000000) -implicitDefEqProofs (disch := omega) only [Ns_length, ↓sxPre, sxPost, sxLib, if_true, if_false, Nat.reduceEqDiff, ↓reduceIte, Nat.reduceAdd, Nat.reduceSub, Nat.reduceMul, Nat.reduceLT, Nat.reduceLeDiff, reduceCtorEq, eq_self, K.isEff, List.reduceReplicate]
  refine step_row (sz := 1) (ys := B (groups l.length)) (nil_at 0 1 rfl cU) (B_flat _) fun g => ?_
  generalize groups l.length = G at *
  simp (maxSteps := 4000000) -implicitDefEqProofs (disch := omega) only [Ns_length, B_length, elems_sl, B_all, kappend_nil, ↓sxPre, sxPost, sxLib, if_true, if_false, Nat.reduceEqDiff, ↓reduceIte, Nat.reduceAdd, Nat.reduceSub, Nat.reduceMul, Nat.reduceLT, Nat.reduceLeDiff, reduceCtorEq, eq_self, K.isEff, List.reduceReplicate]
  refine ⟨by omega, hL 0 0 (by omega) _ ⟨[1], by simp [gcSt, keepOk, finG, resV, resOne, resAll, idx, V.ren, V.renL, Obj.ren, get_cons, get_nil, RTree, RTup, RRow], by simp [gcSt, keepOk, finG, resV, resOne, resAll, idx, V.ren, V.renL, Obj.ren, get_cons, get_nil, RTree, RTup, RRow]⟩⟩

theorem app_row (p l : List Int) (hp : p.length ≤ 2 ^ 39) (hl : I64s l) (hll : l.length ≤ 2 ^ 30) (sz : Nat) (t : Bool) (hsz : sz = 1 ∨ l = []) (g0 : Nat) : SCall PP N.message_appendInts [.sl 0 0 p.length g0 1, .t (.lst sz t (Ns l))] [.row 1 g0 (B p)] (RRow 1 (B (p ++ enI l))) := by
  refine message_appendInts.intro (by simp) ?_
  have cU := AppendUint_sc [] true l.length (by omega) (by simp)
  rw [if_neg (by omega), Int.toNat_natCast, List.nil_append] at cU
  have g10 := groups_le10 (v := l.length) (by omega)
  have hL := fun g n hn s h => app_loop n (p ++ groups l.length) l hl hll (by simp; omega) sz t hsz g hn s h
  unfold enI
  rw [← List.append_assoc]
  generalize hE : p ++ groups l.length ++ rows l = E at *
  simp (maxSteps := 4000000) -implicitDefEqProofs (disch := omega) only [Ns_length, ↓sxPre, sxPost, sxLib, if_true, if_false, Nat.reduceEqDiff, ↓reduceIte, Nat.reduceAdd, Nat.reduceSub, Nat.reduceMul, Nat.reduceLT, Nat.reduceLeDiff, reduceCtorEq, eq_self, K.isEff, List.reduceReplicate]
  refine step_row (sz := 1) (ys := B (groups l.length)) (nil_at 0 1 rfl cU) (B_flat _) fun g => ?_
  generalize groups l.length = G at *
  have hPG : (p ++ G).length = p.length + G.length := by simp
  have hBG : B p ++ B G = B (p ++ G) := by rw [B_append]
  generalize p ++ G = PG at *
  simp (maxSteps := 4000000) -implicitDefEqProofs (disch := omega) only [Ns_length, B_length, elems_sl, B_all, hBG, ← hPG, ↓sxPre, sxPost, sxLib, if_true, if_false, Nat.reduceEqDiff, ↓reduceIte, Nat.reduceAdd, Nat.reduceSub, Nat.reduceMul, Nat.reduceLT, Nat.reduceLeDiff, reduceCtorEq, eq_self, K.isEff, List.reduceReplicate]
  refine ⟨by omega, hL (g0 + 1) 1 (by omega) _ ⟨[0], by simp [gcSt, keepOk, finG, resV, resOne, resAll, idx, V.ren, V.renL, Obj.ren, get_cons, get_nil, RTree, RTup, RRow], by simp [gcSt, keepOk, finG, resV, resOne, resAll, idx, V.ren, V.renL, Obj.ren, get_cons, get_nil, RTree, RTup, RRow]⟩⟩

theorem rlist_sc (p l : List Int) (hp : p.length ≤ 2 ^ 38) (hl : I64s l) (hll : l.length ≤ 2 ^ 30) (t0 : Bool) (sz : Nat) (t : Bool) (hsz : sz = 1 ∨ l = []) : SCall PP N.debuggerref36_list [.t (.lst 1 t0 (B p)), .t (.lst sz t (Ns l))] [] (RRow 1 (B (p ++ enI l))) := by
  refine debuggerref36_list.intro (by simp) ?_
  have cU := rAppendUint_sc p t0 l.length (by omega) (by omega)
  rw [if_neg (by omega), Int.toNat_natCast] at cU
  have g10 := groups_le10 (v := l.length) (by omega)
  unfold enI
  rw [← List.append_assoc]
  generalize hE : p ++ groups l.length ++ rows l = E at *
  simp (maxSteps := 4000000) -implicitDefEqProofs (disch := omega) only [Ns_length, ↓sxPre, sxPost, sxLib, if_true, if_false, Nat.reduceEqDiff, ↓reduceIte, Nat.reduceAdd, Nat.reduceSub, Nat.reduceMul, Nat.reduceLT, Nat.reduceLeDiff, reduceCtorEq, eq_self, K.isEff, List.reduceReplicate]
  refine step_row (sz := 1) (ys := B (p ++ groups l.length)) cU (B_flat _) fun g => ?_
  have hPG : (p ++ groups l.length).length ≤ 2 ^ 39 := by simp; omega
  generalize p ++ groups l.length = P1 at *
  simp (maxSteps := 4000000) -implicitDefEqProofs (disch := omega) only [B_length, ↓sxPre, sxPost, sxLib, if_true, if_false, Nat.reduceEqDiff, ↓reduceIte, Nat.reduceAdd, Nat.reduceSub, Nat.reduceMul, Nat.reduceLT, Nat.reduceLeDiff, reduceCtorEq, eq_self, K.isEff, List.reduceReplicate]
  refine wpC_loop_any [0, 1, 5] (fun m s => ∃ (i g : Nat), m + i = l.length ∧ s = ⟨[(0, .sl 0 0 (P1 ++ rows (l.take i)).length g 1), (1, .t (.lst sz t (Ns l))), (5, .t (.int .i64 i))], [.row 1 g (B (P1 ++ rows (l.take i)))]⟩) l.length
    ⟨[0], by simp [gcSt, keepOk, finG, resV, resOne, resAll, idx, V.ren, V.renL, Obj.ren, get_cons, get_nil, RTree, RTup, RRow], 0, g, by omega, by simp [rows, gcSt, keepOk, finG, resV, resOne, resAll, idx, V.ren, V.renL, Obj.ren, get_cons, get_nil, RTree, RTup, RRow]⟩ ?_
  rintro m s ⟨i, g, hm, rfl⟩
  have hri : (rows (l.take i)).length ≤ 10 * 2 ^ 30 := by
    have := rows_len (l.take i) fun x hx => hl x (List.mem_of_mem_take hx)
    have h3 : (l.take i).length ≤ l.length := by simp; omega
    omega
  by_cases hi : i < l.length
  · have hi' : (i : Int) < l.length := by omega
    have h1' : sz = 1 := hsz.resolve_right (by rintro rfl; simp at hi)
    subst h1'
    have hr1 := rows_take hi
    have hPl : (P1 ++ rows (l.take i)).length ≤ 2 ^ 40 := by rw [List.length_append]; omega
    have cI := rAppendInt_sc (P1 ++ rows (l.take i)) false (l[i]'hi) (hl _ (List.getElem_mem hi)) hPl
    have hP1 : P1 ++ rows (l.take (i + 1)) = P1 ++ rows (l.take i) ++ groups (zig (l[i]'hi)) := by rw [hr1, List.append_assoc]
    rw [← hP1] at cI
    generalize P1 ++ rows (l.take i) = P0 at *
    simp (maxSteps := 4000000) -implicitDefEqProofs (disch := omega) only [hi', Ns_length, Int.toNat_natCast, at_Ns hi, at_zero, ↓sxPre, sxPost, sxLib, if_true, if_false, Nat.reduceEqDiff, ↓reduceIte, Nat.reduceAdd, Nat.reduceSub, Nat.reduceMul, Nat.reduceLT, Nat.reduceLeDiff, reduceCtorEq, eq_self, K.isEff, List.reduceReplicate]
    refine ⟨by omega, step_row (sz := 1) (ys := B (P1 ++ rows (l.take (i + 1)))) ?_ (B_flat _) fun g2 => ?_⟩
    · simpa [Abs.view, rowOf, Abs.get, ev, B_all] using cI
    generalize hP2 : P1 ++ rows (l.take (i + 1)) = P2 at *
    simp (maxSteps := 4000000) -implicitDefEqProofs (disch := omega) only [B_length, ↓sxPre, sxPost, sxLib, if_true, if_false, Nat.reduceEqDiff, ↓reduceIte, Nat.reduceAdd, Nat.reduceSub, Nat.reduceMul, Nat.reduceLT, Nat.reduceLeDiff, reduceCtorEq, eq_self, K.isEff, List.reduceReplicate]
    refine ⟨m - 1, by omega, [1], by simp [gcSt, keepOk, finG, resV, resOne, resAll, idx, V.ren, V.renL, Obj.ren, get_cons, get_nil, RTree, RTup, RRow], i + 1, g2, by omega, ?_⟩
    have hlen : P2.length = P1.length + (rows (l.take (i + 1))).length := by rw [← hP2, List.length_append]
    rw [hP2]
    simp [hlen, gcSt, keepOk, finG, resV, resOne, resAll, idx, V.ren, V.renL, Obj.ren, get_cons, get_nil, RTree, RTup, RRow]
  · have hi' : ¬ (i : Int) < l.length := by omega
    obtain rfl : i = l.length := by omega
    rw [List.take_length, hE]
    simp (maxSteps := 4000000) -implicitDefEqProofs (disch := omega) only [hi', Ns_length, ↓sxPre, sxPost, sxLib, if_true, if_false, Nat.reduceEqDiff, ↓reduceIte, Nat.reduceAdd, Nat.reduceSub, Nat.reduceMul, Nat.reduceLT, Nat.reduceLeDiff, reduceCtorEq, eq_self, K.isEff, List.reduceReplicate]
    refine finK_gc [0] ?_
    simp [B_length, gcSt, keepOk, finG, resV, resOne, resAll, idx, V.ren, V.renL, Obj.ren, get_cons, get_nil, RTree, RTup, RRow]
end Go.Proofs.Ytljjabccgbakgaa

/- Messages: commands are encoded; what is encoded is decoded. By the session itself. -/
namespace Go.Proofs.Ytljjabccgbakgaa
open Go Go.Abs
set_option maxRecDepth 100000
set_option maxHeartbeats 4000000
set_option linter.unusedSimpArgs false
set_option linter.unusedVariables false

def Cm.cells (p : Cm) (sz : Nat) (t : Bool) : List T := [.int .i64 p.kind, .int .i64 p.thread, .int .i64 p.addr, .int .i64 p.n, .lst sz t (Ns p.words)]
def Cm.Ok (p : Cm) : Prop := I64 p.kind ∧ I64 p.thread ∧ I64 p.addr ∧ I64 p.n ∧ I64s p.words ∧ p.words.length < 2 ^ 63
def Cm.head (p : Cm) : List Int := [p.kind, p.thread, p.addr, p.n]
def Cm.enc (p : Cm) : List Int := enI p.head ++ enI p.words

theorem Cm.head_ok {p : Cm} (h : p.Ok) : I64s p.head := by
  intro x hx
  simp only [Cm.head, List.mem_cons, List.not_mem_nil, or_false] at hx
  obtain ⟨h1, h2, h3, h4, _, _⟩ := h
  rcases hx with rfl | rfl | rfl | rfl
  · exact h1
  · exact h2
  · exact h3
  · exact h4

theorem enI_len {l : List Int} (h : I64s l) (hl : l.length ≤ 2 ^ 30) : (enI l).length ≤ 10 + 10 * l.length := by
  have h1 := rows_len l h
  have h2 := groups_le10 (v := l.length) (by omega)
  rw [enI, List.length_append]; omega

theorem EncodeCommand_sc (p : Cm) (hl : p.words.length ≤ 128) (hok : p.Ok) (sz : Nat) (t : Bool) (hsz : sz = 1 ∨ p.words = []) : SCall PP N.message_EncodeCommand [.agg ((p.cells sz t).map V.t)] [] (REnc p.enc) := by
  refine message_EncodeCommand.intro (by simp) ?_
  have g : decide ((128 : Int) < p.words.length) = false := decide_eq_false (by omega)
  have c1 := app_nil p.head (Cm.head_ok hok) (by simp [Cm.head]) 1 true (.inl rfl)
  have hl1 := enI_len (Cm.head_ok hok) (by simp [Cm.head])
  have hh : p.head.length = 4 := rfl
  have hlst : T.lst 1 true [T.int IntKind.i64 p.kind, T.int IntKind.i64 p.thread, T.int IntKind.i64 p.addr, T.int IntKind.i64 p.n] = T.lst 1 true (Ns p.head) := rfl
  have c2 := fun g => app_row (enI p.head) p.words (by omega) hok.2.2.2.2.1 (by omega) sz t hsz g
  unfold Cm.enc
  generalize enI p.head = E1 at *
  generalize E1 ++ enI p.words = E2 at *
  simp only [Cm.cells]
  simp (maxSteps := 4000000) -implicitDefEqProofs (disch := omega) only [Ns_length, g, keff_buildSlice, toElems_cons, toElems_nil, toElem_t, setElems_cons, setElems_nil, ↓sxPre, sxPost, sxLib, if_true, if_false, Nat.reduceEqDiff, ↓reduceIte, Nat.reduceAdd, Nat.reduceSub, Nat.reduceMul, Nat.reduceLT, Nat.reduceLeDiff, reduceCtorEq, eq_self, K.isEff, List.reduceReplicate]
  simp only [hlst]
  refine step_eff (step_row (sz := 1) (ys := B E1) c1 (B_flat _) fun ga => ?_)
  simp (maxSteps := 4000000) -implicitDefEqProofs (disch := omega) only [B_length, ↓sxPre, sxPost, sxLib, if_true, if_false, Nat.reduceEqDiff, ↓reduceIte, Nat.reduceAdd, Nat.reduceSub, Nat.reduceMul, Nat.reduceLT, Nat.reduceLeDiff, reduceCtorEq, eq_self, K.isEff, List.reduceReplicate]
  refine step_eff (step_app (ys := B E2) 1 (by simp) ?_ fun gb => ?_)
  · have := c2 ga
    simpa [V.ren, V.renL, idx, Abs.get, ev, sub, Obj.ren] using this
  simp (maxSteps := 4000000) -implicitDefEqProofs (disch := omega) only [B_length, ↓sxPre, sxPost, sxLib, if_true, if_false, Nat.reduceEqDiff, ↓reduceIte, Nat.reduceAdd, Nat.reduceSub, Nat.reduceMul, Nat.reduceLT, Nat.reduceLeDiff, reduceCtorEq, eq_self, K.isEff, List.reduceReplicate]
  refine finK_gc [1] ?_
  simp [REnc, gcSt, keepOk, finG, resV, resOne, resAll, idx, V.ren, V.renL, Obj.ren, get_cons, get_nil, RTree, RTup, RRow]

theorem rEncodeCommand_sc (p : Cm) (hl : p.words.length ≤ 128) (hok : p.Ok) (sz : Nat) (t : Bool) (hsz : sz = 1 ∨ p.words = []) : SCall PP N.debuggerref36_EncodeCommand [.agg ((p.cells sz t).map V.t)] [] (REnc p.enc) := by
  refine debuggerref36_EncodeCommand.intro (by simp) ?_
  have g : decide ((128 : Int) < p.words.length) = false := decide_eq_false (by omega)
  have c1 := rlist_sc [] p.head (by simp) (Cm.head_ok hok) (by simp [Cm.head]) true 1 true (.inl rfl)
  rw [List.nil_append] at c1
  have hl1 := enI_len (Cm.head_ok hok) (by simp [Cm.head])
  have hh : p.head.length = 4 := rfl
  have hlst : T.lst 1 true [T.int IntKind.i64 p.kind, T.int IntKind.i64 p.thread, T.int IntKind.i64 p.addr, T.int IntKind.i64 p.n] = T.lst 1 true (Ns p.head) := rfl
  have c2 := rlist_sc (enI p.head) p.words (by omega) hok.2.2.2.2.1 (by omega) false sz t hsz
  unfold Cm.enc
  generalize enI p.head = E1 at *
  generalize E1 ++ enI p.words = E2 at *
  simp only [Cm.cells]
  simp (maxSteps := 4000000) -implicitDefEqProofs (disch := omega) only [Ns_length, g, keff_buildSlice, toElems_cons, toElems_nil, toElem_t, setElems_cons, setElems_nil, ↓sxPre, sxPost, sxLib, if_true, if_false, Nat.reduceEqDiff, ↓reduceIte, Nat.reduceAdd, Nat.reduceSub, Nat.reduceMul, Nat.reduceLT, Nat.reduceLeDiff, reduceCtorEq, eq_self, K.isEff, List.reduceReplicate]
  simp only [hlst]
  refine step_eff (step_row (sz := 1) (ys := B E1) (nil_at 0 1 rfl c1) (B_flat _) fun ga => ?_)
  simp (maxSteps := 4000000) -implicitDefEqProofs (disch := omega) only [B_length, ↓sxPre, sxPost, sxLib, if_true, if_false, Nat.reduceEqDiff, ↓reduceIte, Nat.reduceAdd, Nat.reduceSub, Nat.reduceMul, Nat.reduceLT, Nat.reduceLeDiff, reduceCtorEq, eq_self, K.isEff, List.reduceReplicate]
  refine step_eff (step_row (sz := 1) (ys := B E2) ?_ (B_flat _) fun gb => ?_)
  · simpa [Abs.view, viewL, rowOf, Abs.get, ev, B_all] using c2
  simp (maxSteps := 4000000) -implicitDefEqProofs (disch := omega) only [B_length, ↓sxPre, sxPost, sxLib, if_true, if_false, Nat.reduceEqDiff, ↓reduceIte, Nat.reduceAdd, Nat.reduceSub, Nat.reduceMul, Nat.reduceLT, Nat.reduceLeDiff, reduceCtorEq, eq_self, K.isEff, List.reduceReplicate]
  refine finK_gc [2] ?_
  simp [REnc, gcSt, keepOk, finG, resV, resOne, resAll, idx, V.ren, V.renL, Obj.ren, get_cons, get_nil, RTree, RTup, RRow]

theorem rdN_group {pre rest : List Int} {n : Nat} (hn : n < 2 ^ 63) : rdN (RU (pre ++ groups n ++ rest)) (pre.length, false) = ((n : Int), (((pre.length + (groups n).length : Nat) : Int), false)) := by
  have : readAt 8 127 (pre ++ groups n ++ rest) pre.length = (n, ((pre.length + (groups n).length : Nat) : Int), 0) := readAt_groups (last := 8) (mx := 127) (by decide) pre rest n (Nat.lt_of_lt_of_le hn (by decide))
  simp [rdN, RU, this, -List.append_assoc]

theorem rdN_zig {pre rest : List Int} {v : Int} (hv : I64 v) : rdN (RI (pre ++ groups (zig v) ++ rest)) (pre.length, false) = (v, (((pre.length + (groups (zig v)).length : Nat) : Int), false)) := by
  have : readAt 9 1 (pre ++ groups (zig v) ++ rest) pre.length = (zig v, ((pre.length + (groups (zig v)).length : Nat) : Int), 0) := readAt_groups (last := 9) (mx := 1) (by decide) pre rest (zig v) (Nat.lt_of_lt_of_le (zig_lt hv) (by decide))
  simp [rdN, RI, this, unzig_zig, -List.append_assoc]

theorem rdLoop_rows (rest : List Int) : ∀ (l pre : List Int), I64s l → rdLoop (pre ++ rows l ++ rest) l.length (pre.length, false) = (l, (((pre ++ rows l).length : Int), false))
  | [], pre, _ => by simp [rdLoop, rows]
  | v :: l, pre, h => by
    have hz := rdN_zig (pre := pre) (rest := rows l ++ rest) (h v (by simp))
    have ih := rdLoop_rows rest l (pre ++ groups (zig v)) fun x hx => h x (by simp [hx])
    have e1 : pre ++ rows (v :: l) ++ rest = pre ++ groups (zig v) ++ (rows l ++ rest) := by simp [rows]
    have e2 : pre ++ groups (zig v) ++ rows l ++ rest = pre ++ groups (zig v) ++ (rows l ++ rest) := by simp
    rw [e2] at ih
    rw [e1]
    simp only [List.length_cons, rdLoop, if_neg Bool.false_ne_true]
    rw [hz]
    simp only
    rw [List.length_append] at ih
    rw [ih]
    simp [rows]

theorem rdInts_enI (pre l rest : List Int) (h : I64s l) {most : Int} (hm : (l.length : Int) ≤ most) (hm2 : most ≤ 2 ^ 20) : rdInts (pre ++ enI l ++ rest) most (pre.length, false) = (l, (((pre ++ enI l).length : Int), false)) := by
  have hg := rdN_group (pre := pre) (rest := rows l ++ rest) (n := l.length) (by omega)
  have e1 : pre ++ enI l ++ rest = pre ++ groups l.length ++ (rows l ++ rest) := by simp [enI]
  have hr := rdLoop_rows rest l (pre ++ groups l.length) h
  have e2 : pre ++ groups l.length ++ rows l ++ rest = pre ++ groups l.length ++ (rows l ++ rest) := by simp
  rw [e2, List.length_append] at hr
  rw [rdInts, e1, hg]
  simp only
  rw [if_neg (by omega), Int.toNat_natCast, hr]
  simp [enI]

theorem decC_enc {p : Cm} (hok : p.Ok) (hl : p.words.length ≤ 128) : decC p.enc = (p, 0) := by
  have h1 := rdInts_enI [] p.head (enI p.words) (Cm.head_ok hok) (most := 4) (by simp [Cm.head]) (by decide)
  have h2 := rdInts_enI (enI p.head) p.words [] hok.2.2.2.2.1 (most := 128) (by omega) (by decide)
  rw [List.nil_append] at h1
  rw [List.append_nil] at h2
  have hx : rdExact p.enc 4 (0, false) = (p.head, (((enI p.head).length : Int), false)) := by
    have hc : ((4 : Nat) : Int) = 4 := rfl
    unfold rdExact
    rw [hc, Cm.enc]
    simp only [List.length_nil, Int.cast_ofNat_Int] at h1
    rw [h1, if_pos (by simp [Cm.head])]
  unfold decC
  rw [hx]
  simp only
  have h3 : rdInts p.enc 128 (((enI p.head).length : Int), false) = (p.words, (((enI p.head ++ enI p.words).length : Int), false)) := h2
  rw [h3]
  simp only
  rw [if_pos ⟨trivial, rfl⟩]
  rfl
end Go.Proofs.Ytljjabccgbakgaa

/- MessageCommands: what the law returns. By the session itself. -/
namespace Go.Proofs.Ytljjabccgbakgaa
open Go Go.Abs
set_option maxRecDepth 100000
set_option maxHeartbeats 4000000
set_option linter.unusedSimpArgs false
set_option linter.unusedVariables false

theorem Ints_sc (a b : List Int) (s1 s2 : Nat) (t1 t2 : Bool) (h1 : s1 = 1 ∨ a = []) (h2 : s2 = 1 ∨ b = []) (hl : a.length < 2 ^ 62) :
    SCall PP N.debuggerref25_Ints [.t (.lst s1 t1 (Ns a)), .t (.lst s2 t2 (Ns b))] [] (RTree (.bool (decide (a = b)))) := by
  refine debuggerref25_Ints.intro (by simp) ?_
  simp (maxSteps := 4000000) -implicitDefEqProofs (disch := omega) only [Ns_length, ↓sxPre, sxPost, sxLib, if_true, if_false, Nat.reduceEqDiff, ↓reduceIte, Nat.reduceAdd, Nat.reduceSub, Nat.reduceMul, Nat.reduceLT, Nat.reduceLeDiff, reduceCtorEq, eq_self, K.isEff, List.reduceReplicate]
  refine condV_ndec (fun h => ?_) fun h => ?_
  · refine finK_gc [] ?_
    have : ¬ a = b := by rintro rfl; exact h rfl
    simp [this, gcSt, keepOk, finG, resV, resOne, resAll, idx, V.ren, V.renL, Obj.ren, get_cons, get_nil, RTree, RTup, RRow]
  · have hl : a.length = b.length := by omega
    refine wpC_loop_gc [0, 1, 5] [] (fun m s => ∃ i : Nat, m + i = a.length ∧ a.take i = b.take i ∧ s = ⟨[(0, .t (.lst s1 t1 (Ns a))), (1, .t (.lst s2 t2 (Ns b))), (5, .t (.int .i64 i))], []⟩) a.length
      ⟨by simp [gcSt, keepOk, finG, resV, resOne, resAll, idx, V.ren, V.renL, Obj.ren, get_cons, get_nil, RTree, RTup, RRow], 0, by omega, by simp, by simp [gcSt, keepOk, finG, resV, resOne, resAll, idx, V.ren, V.renL, Obj.ren, get_cons, get_nil, RTree, RTup, RRow]⟩ ?_
    rintro m s ⟨i, hm, heq, rfl⟩
    by_cases hi : i < a.length
    · have hi' : (i : Int) < a.length := by omega
      have hib : i < b.length := by omega
      have k1 : s1 = 1 := h1.resolve_right (by rintro rfl; simp at hi)
      have k2 : s2 = 1 := h2.resolve_right (by rintro rfl; simp at hib)
      subst k1 k2
      simp (maxSteps := 4000000) -implicitDefEqProofs (disch := omega) only [Ns_length, hi', Int.toNat_natCast, at_Ns hi, at_Ns hib, at_zero, ↓sxPre, sxPost, sxLib, if_true, if_false, Nat.reduceEqDiff, ↓reduceIte, Nat.reduceAdd, Nat.reduceSub, Nat.reduceMul, Nat.reduceLT, Nat.reduceLeDiff, reduceCtorEq, eq_self, K.isEff, List.reduceReplicate]
      refine ⟨by omega, by omega, condV_ndec (fun hne => ?_) fun he => ?_⟩
      · refine finK_gc [] ?_
        have : ¬ a = b := by rintro rfl; exact hne rfl
        simp [this, gcSt, keepOk, finG, resV, resOne, resAll, idx, V.ren, V.renL, Obj.ren, get_cons, get_nil, RTree, RTup, RRow]
      · refine ⟨m - 1, by omega, by simp [gcSt, keepOk, finG, resV, resOne, resAll, idx, V.ren, V.renL, Obj.ren, get_cons, get_nil, RTree, RTup, RRow], i + 1, by omega, ?_, by simp [gcSt, keepOk, finG, resV, resOne, resAll, idx, V.ren, V.renL, Obj.ren, get_cons, get_nil, RTree, RTup, RRow]⟩
        rw [List.take_succ_eq_append_getElem hi, List.take_succ_eq_append_getElem hib, heq, he]
    · have hi' : ¬ (i : Int) < a.length := by omega
      simp (maxSteps := 4000000) -implicitDefEqProofs (disch := omega) only [Ns_length, hi', ↓sxPre, sxPost, sxLib, if_true, if_false, Nat.reduceEqDiff, ↓reduceIte, Nat.reduceAdd, Nat.reduceSub, Nat.reduceMul, Nat.reduceLT, Nat.reduceLeDiff, reduceCtorEq, eq_self, K.isEff, List.reduceReplicate]
      refine finK_gc [] ?_
      rw [List.take_of_length_le (by omega), List.take_of_length_le (by omega)] at heq
      simp [heq, gcSt, keepOk, finG, resV, resOne, resAll, idx, V.ren, V.renL, Obj.ren, get_cons, get_nil, RTree, RTup, RRow]

theorem toT_sl {H : Heap} {id off len gen sz : Nat} : toT H (.sl id off len gen sz) = (match rowOf H[id]? with
    | some (sz', g, xs) => if gen = g ∧ sz' = sz then some (.lst sz false ((xs.drop off).take len), H.set id (.frz sz g xs)) else none
    | none => none) := (rfl)

theorem step_decC {P : Program} {f : FuncId} {H : Heap} {K : St → Prop} {vs : List (Nat × V)} {r : List Ins} {d : Nat} {xs : List Opnd} {D : Cm × Int}
    (h : SCall P f ((xs.map (ev vs)).map (Abs.view H)) [] (RDecC D))
    (h1 : D.1.words = [] → wpR (SCall P) r K ⟨(d, .tup [.agg (D.1.vals (.t (.lst 0 true []))), .t (.int .i64 D.2)]) :: vs, H⟩)
    (h2 : ∀ (g : Nat), wpR (SCall P) r K ⟨(d, .tup [.agg (D.1.vals (.sl H.length 0 D.1.words.length g 1)), .t (.int .i64 D.2)]) :: vs, H ++ [.row 1 g (Ns D.1.words)]⟩) : wpR (SCall P) (⟨some d, none, .call f xs⟩ :: r) K ⟨vs, H⟩ := by
  refine step_call (call_any h ?_ ?_)
  · rintro r N ⟨x, rfl, hx⟩
    rcases hx with ⟨rfl, _, rfl⟩ | ⟨g, rfl, rfl⟩
    · exact ⟨by simp [V.flatV, V.flatL, Cm.vals, T.flat, T.cells, T.scal], rfl⟩
    · exact ⟨by simp [V.flatV, V.flatL, Cm.vals, T.flat, T.cells, T.scal], by simpa [Obj.flatO] using Ns_flat D.1.words⟩
  · rintro r N ⟨x, rfl, hx⟩
    rcases hx with ⟨rfl, hq, rfl⟩ | ⟨g, rfl, rfl⟩
    · simpa [V.ren, V.renL, Cm.vals] using h1 hq
    · simpa [V.ren, V.renL, Cm.vals, tau, Obj.ren] using h2 g

theorem enI_bytes (l : List Int) : Bytes (enI l) := (Bytes.groups _).append (rows_bytes l)
theorem Cm.enc_bytes (p : Cm) : Bytes p.enc := (enI_bytes _).append (enI_bytes _)

theorem awake36_sc : SCall PP N.debuggerlaw36_awake [] [] (RTree (.bool true)) := by
  refine debuggerlaw36_awake.intro (by simp) ?_
  have hok : (⟨2, 0, 0, 0, []⟩ : Cm).Ok := ⟨⟨by decide, by decide⟩, ⟨by decide, by decide⟩, ⟨by decide, by decide⟩, ⟨by decide, by decide⟩, (fun x h => by cases h), by decide⟩
  have c := EncodeCommand_sc ⟨2, 0, 0, 0, []⟩ (by simp) hok 0 true (.inr rfl)
  have hD := decC_enc hok (by simp)
  have hE : (Cm.enc ⟨2, 0, 0, 0, []⟩).length = 6 := by simp [Cm.enc, Cm.head, enI, rows, zig, groups_lt]
  have cD := DecodeCommand_sc (Cm.enc ⟨2, 0, 0, 0, []⟩) (Cm.enc_bytes _) (by omega)
  rw [hD] at cD
  generalize Cm.enc ⟨2, 0, 0, 0, []⟩ = E at *
  simp only [Cm.cells] at c
  have hd6 : decide ((E.length : Int) = 6) = true := decide_eq_true (by omega)
  simp (maxSteps := 4000000) -implicitDefEqProofs (disch := omega) only [stepK_build', fillV, putAt_zero, putAt_succ, ↓sxPre, sxPost, sxLib, if_true, if_false, Nat.reduceEqDiff, ↓reduceIte, Nat.reduceAdd, Nat.reduceSub, Nat.reduceMul, Nat.reduceLT, Nat.reduceLeDiff, reduceCtorEq, eq_self, K.isEff, List.reduceReplicate]
  refine step_enc (ys := E) ?_ fun g => ?_
  · simpa [Abs.view, viewL, Abs.get, ev, Ns] using c
  simp (maxSteps := 4000000) -implicitDefEqProofs (disch := omega) only [↓sxPre, sxPost, sxLib, if_true, if_false, Nat.reduceEqDiff, ↓reduceIte, Nat.reduceAdd, Nat.reduceSub, Nat.reduceMul, Nat.reduceLT, Nat.reduceLeDiff, reduceCtorEq, eq_self, K.isEff, List.reduceReplicate]
  refine step_decC (D := (⟨2, 0, 0, 0, []⟩, 0)) ?_ (fun h => ?_) (fun g2 => ?_)
  · simpa [Abs.view, viewL, rowOf, Abs.get, ev, B_all] using cD
  all_goals
    unfold Cm.vals
    simp (maxSteps := 4000000) -implicitDefEqProofs (disch := omega) only [hd6, kstore_ref, putAt_zero, putAt_succ, ↓sxPre, sxPost, sxLib, if_true, if_false, Nat.reduceEqDiff, ↓reduceIte, Nat.reduceAdd, Nat.reduceSub, Nat.reduceMul, Nat.reduceLT, Nat.reduceLeDiff, reduceCtorEq, eq_self, K.isEff, List.reduceReplicate]
    refine finK_gc [] ?_
    simp [gcSt, keepOk, finG, resV, resOne, resAll, idx, V.ren, V.renL, Obj.ren, get_cons, get_nil, RTree, RTup, RRow]

/-- A command that is handed to a law. -/
theorem Cells.cm {W : World} {ts : List T} {cs : List Value} (h : Cells W [.int .i64, .int .i64, .int .i64, .int .i64, .lst false [.int .i64]] ts cs) : ∃ p : Cm, p.Ok ∧ ts = p.cells 1 false := by
  obtain ⟨_, _, _, _, rfl, rfl, f1, _, h⟩ := h.head
  obtain ⟨_, _, _, _, rfl, rfl, f2, _, h⟩ := h.head
  obtain ⟨_, _, _, _, rfl, rfl, f3, _, h⟩ := h.head
  obtain ⟨_, _, _, _, rfl, rfl, f4, _, h⟩ := h.head
  obtain ⟨_, _, _, _, rfl, rfl, f6, _, h⟩ := h.head
  obtain ⟨rfl, rfl⟩ := h.tail_nil
  obtain ⟨n1, rfl, w1⟩ := f1.int_inv
  obtain ⟨n2, rfl, w2⟩ := f2.int_inv
  obtain ⟨n3, rfl, w3⟩ := f3.int_inv
  obtain ⟨n4, rfl, w4⟩ := f4.int_inv
  obtain ⟨l, rfl, wl, hl⟩ := f6.ints_inv
  have hm : maxLen = 2 ^ 63 - 1 := rfl
  exact ⟨⟨n1, n2, n3, n4, l⟩, ⟨i64_of w1, i64_of w2, i64_of w3, i64_of w4, fun x hx => i64_of (wl x hx), by simp only; omega⟩, rfl⟩

end Go.Proofs.Ytljjabccgbakgaa

/- Messages: threads are written. By the session itself. -/
namespace Go.Proofs.Ytljjabccgbakgaa
open Go Go.Abs
set_option maxRecDepth 100000
set_option maxHeartbeats 4000000
set_option linter.unusedSimpArgs false
set_option linter.unusedVariables false

/-- The state of a thread. -/
structure Th where
  st : Int
  fn : Int
  pc : Int
  r : List Int
  args : List Int
  deriving DecidableEq
def Th.cells (q : Th) (sz : Nat) (t : Bool) : List T := .int .i64 q.st :: (Ns q.r ++ [.int .i64 q.pc, .int .i64 q.fn, .lst sz t (Ns q.args)])
def Th.Ok (q : Th) : Prop := I64 q.st ∧ I64 q.fn ∧ I64 q.pc ∧ q.r.length = 16 ∧ I64s q.r ∧ I64s q.args ∧ q.args.length < 2 ^ 63
def Th.head (q : Th) : List Int := q.st :: q.fn :: q.pc :: q.r
def Th.enc (q : Th) : List Int := enI q.head ++ enI q.args

theorem Th.head_ok {q : Th} (h : q.Ok) : I64s q.head := by
  obtain ⟨h1, h2, h3, _, h5, _⟩ := h
  intro x hx
  simp only [Th.head, List.mem_cons] at hx
  rcases hx with rfl | rfl | rfl | hx
  · exact h1
  · exact h2
  · exact h3
  · exact h5 x hx
theorem Th.head_len {q : Th} (h : q.Ok) : q.head.length = 19 := by simp [Th.head, h.2.2.2.1]


/-- What a walk wants to know of a thread's cells. -/
theorem Th.facts {q : Th} (h : q.Ok) (sz : Nat) (t : Bool) (C : List V) (hC : C = (q.cells sz t).map V.t) :
    C.length = 20 ∧ C.all V.one = true ∧ C.getD 0 .undef = .t (.int .i64 q.st) ∧ C.getD 17 .undef = .t (.int .i64 q.pc) ∧ C.getD 18 .undef = .t (.int .i64 q.fn) ∧ C.getD 19 .undef = .t (.lst sz t (Ns q.args)) ∧ onlyT ((C.drop 1).take 16) = some (Ns q.r) := by
  obtain ⟨st, fn, pc, r, args⟩ := q
  have hr : r.length = 16 := h.2.2.2.1
  subst hC
  simp only [Th.cells]
  match r, hr with
  | [a0, a1, a2, a3, a4, a5, a6, a7, a8, a9, a10, a11, a12, a13, a14, a15], _ =>
  refine ⟨rfl, rfl, rfl, rfl, rfl, rfl, rfl⟩

theorem Ns_one (l : List Int) : (Ns l).all T.one = true := by simp [Ns, T.one]

theorem ksliceA_ref {H : Heap} {n id o : Nat} {lo hi : Bool} {r : List V} : ksliceA H n lo hi (.ref id o) r = (match H[id]? with
    | some (.box cs) => match bounds n lo hi r with
      | some (c, l, h) => some (o + n ≤ cs.length ∧ c, .bsl id (o + l) (h - l))
      | none => none
    | _ => none) := (rfl)
theorem elems_bsl {H : Heap} {m id off len : Nat} : elems H m (.bsl id off len) = (match H[id]? with
    | some (.box cs) => if m = 1 then match onlyT ((cs.drop off).take len) with
      | some xs => if xs.all T.one = true then some xs else none
      | none => none
      else none
    | _ => none) := (rfl)

end Go.Proofs.Ytljjabccgbakgaa

/- Messages: replies are written. By the session itself. -/
namespace Go.Proofs.Ytljjabccgbakgaa
open Go Go.Abs
set_option maxRecDepth 100000
set_option maxHeartbeats 4000000
set_option linter.unusedSimpArgs false
set_option linter.unusedVariables false

/-- A reply. -/
structure Rp where
  err : Int
  words : List Int
  ths : List Th
  out : List (Int × Int)
  stop : List Int
  deriving DecidableEq
def Ps (l : List (Int × Int)) : List T := l.map fun o => .agg [.int .i64 o.1, .int .i64 o.2]
def flatO (l : List (Int × Int)) : List Int := l.flatMap fun o => [o.1, o.2]
def encs (l : List Th) : List Int := l.flatMap Th.enc
theorem Ps_length (l : List (Int × Int)) : (Ps l).length = l.length := by simp [Ps]
theorem at_Ps {l : List (Int × Int)} {i : Nat} (h : i < l.length) : T.at (Ps l) i = .agg [.int .i64 (l[i]'h).1, .int .i64 (l[i]'h).2] := by simp [T.at, Ps, h]
theorem flatO_length (l : List (Int × Int)) : (flatO l).length = 2 * l.length := by
  induction l with
  | nil => rfl
  | cons x l ih => simp only [flatO, List.flatMap_cons, List.length_append, List.length_cons, List.length_nil] at *; omega
theorem flatO_take {l : List (Int × Int)} {i : Nat} (h : i < l.length) : flatO (l.take (i + 1)) = flatO (l.take i) ++ [(l[i]'h).1, (l[i]'h).2] := by
  rw [List.take_succ_eq_append_getElem h]; simp only [flatO, List.flatMap_append, List.flatMap_cons, List.flatMap_nil, List.append_nil]
theorem encs_take {l : List Th} {i : Nat} (h : i < l.length) : encs (l.take (i + 1)) = encs (l.take i) ++ (l[i]'h).enc := by
  rw [List.take_succ_eq_append_getElem h]; simp only [encs, List.flatMap_append, List.flatMap_cons, List.flatMap_nil, List.append_nil]

/-- A thread as data. -/
def Th.At (q : Th) (x : T) : Prop := ∃ sz t, (sz = 1 ∨ q.args = []) ∧ x = .agg (q.cells sz t)
inductive Rp.At (R : Rp) (cs : List T) : Prop
  | mk (s1 : Nat) (t1 : Bool) (s2 : Nat) (t2 : Bool) (s3 : Nat) (t3 : Bool) (xs : List T)
      (h1 : s1 = 1 ∨ R.words = []) (h2 : s2 = 20 ∨ R.ths = []) (h3 : s3 = 2 ∨ R.out = []) (hx : xs.length = R.ths.length)
      (ha : ∀ i (h : i < R.ths.length), (R.ths[i]'h).At (T.at xs i))
      (eq : cs = .int .i64 R.err :: .lst s1 t1 (Ns R.words) :: .lst s2 t2 xs :: .lst s3 t3 (Ps R.out) :: Ns R.stop)
structure Rp.Ok (R : Rp) : Prop where
  err : I64 R.err
  words : I64s R.words
  wlen : R.words.length < 2 ^ 63
  ths : ∀ q ∈ R.ths, q.Ok
  tlen : R.ths.length < 2 ^ 63
  out : I64s (flatO R.out)
  olen : R.out.length < 2 ^ 63
  stop : I64s R.stop
  slen : R.stop.length = 7
def Rp.Fit (R : Rp) : Prop := R.words.length ≤ 128 ∧ R.out.length ≤ 128 ∧ R.ths.length ≤ 8 ∧ ∀ q ∈ R.ths, q.args.length ≤ 4
instance (R : Rp) : Decidable R.Fit := by unfold Rp.Fit; exact inferInstance
def Rp.pre (R : Rp) : List Int := groups (zig R.err) ++ enI R.words ++ groups R.ths.length
def Rp.enc (R : Rp) : List Int := R.pre ++ encs R.ths ++ enI (flatO R.out) ++ enI R.stop
def REncR (R : Rp) (r : V) (H : Heap) : Prop := if R.Fit then REnc R.enc r H else RTup [.lst 0 true [], .int .i64 5] r H

theorem Th.enc_len {q : Th} (h : q.Ok) (ha : q.args.length ≤ 4) : q.enc.length ≤ 250 := by
  have h1 := enI_len (Th.head_ok h) (by rw [Th.head_len h]; decide)
  have h2 := enI_len h.2.2.2.2.2.1 (by omega)
  rw [Th.head_len h] at h1
  rw [Th.enc, List.length_append]; omega
theorem encs_len : ∀ {l : List Th}, (∀ q ∈ l, q.Ok) → (∀ q ∈ l, q.args.length ≤ 4) → (encs l).length ≤ 250 * l.length
  | [], _, _ => by simp [encs]
  | q :: l, h, ha => by
    have := encs_len (l := l) (fun q hq => h q (by simp [hq])) (fun q hq => ha q (by simp [hq]))
    have h1 := Th.enc_len (h q (by simp)) (ha q (by simp))
    simp only [encs, List.flatMap_cons, List.length_append, List.length_cons] at *
    omega

theorem Th.facts2 {q : Th} (h : q.Ok) (sz : Nat) (t : Bool) (C : List T) (hC : C = q.cells sz t) :
    C.length = 20 ∧ C.take 20 = C ∧ (C.map V.t).all V.one = true ∧ (C.map V.t).getD 19 .undef = .t (.lst sz t (Ns q.args)) ∧ (C.map V.t).take 20 = C.map V.t ∧ (∀ ρ, V.renL ρ (C.map V.t) = C.map V.t) ∧
      (∀ a0 a1 a2 a3 a4 a5 a6 a7 a8 a9 a10 a11 a12 a13 a14 a15 a16 a17 a18 a19 : V, putAt [a0, a1, a2, a3, a4, a5, a6, a7, a8, a9, a10, a11, a12, a13, a14, a15, a16, a17, a18, a19] 0 (C.map V.t) = C.map V.t) ∧ T.at C 19 = .lst sz t (Ns q.args) := by
  obtain ⟨st, fn, pc, r, args⟩ := q
  have hr : r.length = 16 := h.2.2.2.1
  subst hC
  simp only [Th.cells]
  match r, hr with
  | [b0, b1, b2, b3, b4, b5, b6, b7, b8, b9, b10, b11, b12, b13, b14, b15], _ =>
  refine ⟨rfl, rfl, rfl, rfl, rfl, fun ρ => renL_t ρ _, ?_, rfl⟩
  intros
  rfl

theorem seven {l : List Int} (h : l.length = 7) : ∃ a b c d e f g, l = [a, b, c, d, e, f, g] := by
  match l, h with
  | [a, b, c, d, e, f, g], _ => exact ⟨a, b, c, d, e, f, g, rfl⟩
end Go.Proofs.Ytljjabccgbakgaa

/- Messages: small replies, and near ones. By the session itself. -/
namespace Go.Proofs.Ytljjabccgbakgaa
open Go Go.Abs
set_option maxRecDepth 100000
set_option maxHeartbeats 4000000
set_option linter.unusedSimpArgs false
set_option linter.unusedVariables false

def Rp.Small (R : Rp) : Prop := R.words.length ≤ 300 ∧ R.ths.length ≤ 20 ∧ R.out.length ≤ 300 ∧ ∀ q ∈ R.ths, q.args.length ≤ 20
instance (R : Rp) : Decidable R.Small := by unfold Rp.Small; exact inferInstance

theorem Th.facts3 {q : Th} (h : q.Ok) (sz : Nat) (t : Bool) (C : List T) (hC : C = q.cells sz t) : C.length = 20 ∧ C.drop 19 = [.lst sz t (Ns q.args)] ∧ T.at C 19 = .lst sz t (Ns q.args) ∧ (∀ x, putAt C 19 [x] = C.take 19 ++ [x]) ∧ ∀ l s2 t2, C.take 19 ++ [.lst s2 t2 (Ns l)] = Th.cells { q with args := l } s2 t2 := by
  obtain ⟨st, fn, pc, r, args⟩ := q
  have hr : r.length = 16 := h.2.2.2.1
  subst hC
  simp only [Th.cells]
  match r, hr with
  | [b0, b1, b2, b3, b4, b5, b6, b7, b8, b9, b10, b11, b12, b13, b14, b15], _ =>
  exact ⟨rfl, rfl, rfl, fun _ => rfl, fun _ _ _ => rfl⟩

theorem small_sc (R : Rp) (cs : List T) (hR : R.Ok) (hA : R.At cs) : SCall PP N.debuggerlaw36_small [.agg (cs.map V.t)] [] (RTree (.bool (decide R.Small))) := by
  refine debuggerlaw36_small.intro (by simp) ?_
  obtain ⟨s1, t1, s2, t2, s3, t3, xs, h1, h2, h3, hx, ha, rfl⟩ := hA
  obtain ⟨kerr, kwords, kwlen, kths, ktlen, kout, kolen, kstop, kslen⟩ := hR
  obtain ⟨q0, q1, q2, q3, q4, q5, q6, hs7⟩ := seven kslen
  have hNs : Ns R.stop = [.int .i64 q0, .int .i64 q1, .int .i64 q2, .int .i64 q3, .int .i64 q4, .int .i64 q5, .int .i64 q6] := by rw [hs7]; rfl
  rw [hNs]
  by_cases hb : ¬ (R.words.length ≤ 300 ∧ R.ths.length ≤ 20 ∧ R.out.length ≤ 300)
  · have hnf : ¬ R.Small := fun h => hb ⟨h.1, h.2.1, h.2.2.1⟩
    cases g1 : decide ((300 : Int) < R.words.length) <;> cases g2 : decide ((20 : Int) < R.ths.length) <;> cases g3 : decide ((300 : Int) < R.out.length)
    all_goals first
      | exfalso
        have g1 := of_decide_eq_false g1
        have g2 := of_decide_eq_false g2
        have g3 := of_decide_eq_false g3
        omega
      | simp (maxSteps := 4000000) -implicitDefEqProofs (disch := omega) only [Ns_length, Ps_length, hx, g1, g2, g3, ↓sxPre, sxPost, sxLib, if_true, if_false, Nat.reduceEqDiff, ↓reduceIte, Nat.reduceAdd, Nat.reduceSub, Nat.reduceMul, Nat.reduceLT, Nat.reduceLeDiff, reduceCtorEq, eq_self, K.isEff, List.reduceReplicate]
        refine finK_gc [] ?_
        simp [hnf, gcSt, keepOk, finG, resV, resOne, resAll, idx, V.ren, V.renL, Obj.ren, get_cons, get_nil, RTree, RTup, RRow]
  obtain ⟨hb1, hb2, hb3⟩ := Classical.not_not.1 hb
  have g1 : decide ((300 : Int) < R.words.length) = false := decide_eq_false (by omega)
  have g2 : decide ((20 : Int) < R.ths.length) = false := decide_eq_false (by omega)
  have g3 : decide ((300 : Int) < R.out.length) = false := decide_eq_false (by omega)
  obtain ⟨Dd, hDd⟩ : ∃ Dd, Dd = decide R.Small := ⟨_, rfl⟩
  rw [← hDd]
  simp (maxSteps := 4000000) -implicitDefEqProofs (disch := omega) only [Ns_length, Ps_length, hx, g1, g2, g3, ↓sxPre, sxPost, sxLib, if_true, if_false, Nat.reduceEqDiff, ↓reduceIte, Nat.reduceAdd, Nat.reduceSub, Nat.reduceMul, Nat.reduceLT, Nat.reduceLeDiff, reduceCtorEq, eq_self, K.isEff, List.reduceReplicate]
  refine wpC_loop_any [1, 3] (fun m s => ∃ (i : Nat), m + i = R.ths.length ∧ (∀ q ∈ R.ths.take i, q.args.length ≤ 20) ∧
      s = ⟨[(1, .ref 0 0), (3, .t (.int .i64 i))], [.box [.t (.int .i64 R.err), .t (.lst s1 t1 (Ns R.words)), .t (.lst s2 t2 xs), .t (.lst s3 t3 (Ps R.out)), .t (.int .i64 q0), .t (.int .i64 q1), .t (.int .i64 q2), .t (.int .i64 q3), .t (.int .i64 q4), .t (.int .i64 q5), .t (.int .i64 q6)]]⟩) R.ths.length
    ⟨[0], by simp [gcSt, keepOk, finG, resV, resOne, resAll, idx, V.ren, V.renL, Obj.ren, get_cons, get_nil, RTree, RTup, RRow], 0, by omega, by simp, by simp [gcSt, keepOk, finG, resV, resOne, resAll, idx, V.ren, V.renL, Obj.ren, get_cons, get_nil, RTree, RTup, RRow]⟩ ?_
  rintro m s ⟨i, hm, hle, rfl⟩
  by_cases hi : i < R.ths.length
  · have hi' : decide ((i : Int) < R.ths.length) = true := decide_eq_true (by omega)
    have hix : (i : Int) < xs.length := by omega
    obtain ⟨sz, t, hsz, hat⟩ := ha i hi
    have hqk := kths _ (List.getElem_mem hi)
    have hs20 : s2 = 20 := h2.resolve_right (by intro e; rw [e] at hi; simp at hi)
    obtain ⟨C, hC⟩ : ∃ C, C = (R.ths[i]'hi).cells sz t := ⟨_, rfl⟩
    obtain ⟨k1, k2, k3, k4, k5⟩ := (R.ths[i]'hi).facts3 hqk sz t C hC
    rw [← hC] at hat
    subst hs20
    by_cases hargs : (R.ths[i]'hi).args.length ≤ 20
    · have ga4 : decide ((20 : Int) < (R.ths[i]'hi).args.length) = false := decide_eq_false (by omega)
      simp (maxSteps := 4000000) -implicitDefEqProofs (disch := omega) only [hi', hix, hx, hat, Int.toNat_natCast, k1, k2, k3, at_zero, Ns_length, ga4, ↓sxPre, sxPost, sxLib, if_true, if_false, Nat.reduceEqDiff, ↓reduceIte, Nat.reduceAdd, Nat.reduceSub, Nat.reduceMul, Nat.reduceLT, Nat.reduceLeDiff, reduceCtorEq, eq_self, K.isEff, List.reduceReplicate]
      refine ⟨by omega, m - 1, by omega, [0], by simp [gcSt, keepOk, finG, resV, resOne, resAll, idx, V.ren, V.renL, Obj.ren, get_cons, get_nil, RTree, RTup, RRow], i + 1, by omega, ?_, by simp [gcSt, keepOk, finG, resV, resOne, resAll, idx, V.ren, V.renL, Obj.ren, get_cons, get_nil, RTree, RTup, RRow]⟩
      intro q hq
      rw [List.take_succ_eq_append_getElem hi, List.mem_append] at hq
      rcases hq with hq | hq
      · exact hle q hq
      · rw [List.mem_singleton.1 hq]; exact hargs
    · have ga4 : decide ((20 : Int) < (R.ths[i]'hi).args.length) = true := decide_eq_true (by omega)
      have hnf : ¬ R.Small := fun h => hargs (h.2.2.2 _ (List.getElem_mem hi))
      rw [decide_eq_false hnf] at hDd
      subst hDd
      simp (maxSteps := 4000000) -implicitDefEqProofs (disch := omega) only [hi', hix, hx, hat, Int.toNat_natCast, k1, k2, k3, at_zero, Ns_length, ga4, ↓sxPre, sxPost, sxLib, if_true, if_false, Nat.reduceEqDiff, ↓reduceIte, Nat.reduceAdd, Nat.reduceSub, Nat.reduceMul, Nat.reduceLT, Nat.reduceLeDiff, reduceCtorEq, eq_self, K.isEff, List.reduceReplicate]
      refine ⟨by omega, finK_gc [] ?_⟩
      simp [gcSt, keepOk, finG, resV, resOne, resAll, idx, V.ren, V.renL, Obj.ren, get_cons, get_nil, RTree, RTup, RRow]
  · have hi' : decide ((i : Int) < R.ths.length) = false := decide_eq_false (by omega)
    obtain rfl : i = R.ths.length := by omega
    rw [List.take_length] at hle
    have hfit : R.Small := ⟨hb1, hb2, hb3, hle⟩
    rw [decide_eq_true hfit] at hDd
    subst hDd
    simp (maxSteps := 4000000) -implicitDefEqProofs (disch := omega) only [hi', hx, ↓sxPre, sxPost, sxLib, if_true, if_false, Nat.reduceEqDiff, ↓reduceIte, Nat.reduceAdd, Nat.reduceSub, Nat.reduceMul, Nat.reduceLT, Nat.reduceLeDiff, reduceCtorEq, eq_self, K.isEff, List.reduceReplicate]
    refine finK_gc [] ?_
    simp [gcSt, keepOk, finG, resV, resOne, resAll, idx, V.ren, V.renL, Obj.ren, get_cons, get_nil, RTree, RTup, RRow]

def Th.cut (q : Th) : Th := { q with args := q.args.take 4 }
theorem elemPut_agg {cs : List T} {off : Nat} {x : T} : elemPut (.agg cs) off x = .agg (putAt cs off x.cells) := (rfl)
theorem Ns_take (l : List Int) (k : Nat) : (Ns l).take k = Ns (l.take k) := by simp [Ns, List.map_take]
theorem at_set {xs : List T} {i : Nat} {x : T} (h : i < xs.length) : T.at (xs.set i x) i = x := by simp [T.at, h]
theorem at_set_ne {xs : List T} {i j : Nat} {x : T} (h : i ≠ j) : T.at (xs.set i x) j = T.at xs j := by simp [T.at, List.getElem?_set_ne h]

/-- The words and the output of a reply that may be encoded, mostly. -/
def NearRest (R : Rp) (which : Int) (w o : V) (F : Heap) : Prop :=
  ∃ s1 t1 s3 t3, (s1 = 1 ∨ R.words = []) ∧ (s3 = 2 ∨ R.out = []) ∧
  ((which % 8 ≠ 0 ∧ which % 8 ≠ 1 ∧ w = .t (.lst s1 t1 (Ns R.words)) ∧ o = .t (.lst s3 t3 (Ps R.out)) ∧ F = []) ∨
   (which % 8 = 0 ∧ ∃ k, k = 128 + (which % 2).toNat ∧ w = .sl 1 0 k 0 1 ∧ o = .t (.lst s3 t3 (Ps R.out)) ∧ F = [.row 1 0 (Ns (List.replicate k 0))]) ∨
   (which % 8 = 1 ∧ ∃ k, k = 128 + (which.tdiv 8 % 2).toNat ∧ w = .t (.lst s1 t1 (Ns R.words)) ∧ o = .sl 1 0 k 0 2 ∧ F = [.row 2 0 (Ps (List.replicate k (0, 0)))]))
/-- A reply that may be encoded, mostly. -/
def RNear (R : Rp) (which : Int) (r : V) (F : Heap) : Prop :=
  ∃ g xs w o F', xs.length = R.ths.length ∧ (∀ i (h : i < R.ths.length), (R.ths[i]'h).cut.At (T.at xs i)) ∧ r = .agg (.t (.int .i64 R.err) :: w :: .sl 0 0 (min R.ths.length 8) g 20 :: o :: (Ns R.stop).map V.t) ∧ F = .row 20 g xs :: F' ∧ NearRest R which w o F'

theorem near36_sc (R : Rp) (cs : List T) (hR : R.Ok) (hA : R.At cs) (hsm : R.Small) (which : Int) (hw : I64 which) : SCall PP N.debuggerlaw36_near [.agg (cs.map V.t), .t (.int .i64 which)] [] (RNear R which) := by
  refine debuggerlaw36_near.intro (by simp) ?_
  obtain ⟨s1, t1, s2, t2, s3, t3, xs, h1, h2, h3, hx, ha, rfl⟩ := hA
  obtain ⟨kerr, kwords, kwlen, kths, ktlen, kout, kolen, kstop, kslen⟩ := hR
  obtain ⟨hb1, hb2, hb3, hb4⟩ := hsm
  obtain ⟨q0, q1, q2, q3, q4, q5, q6, hs7⟩ := seven kslen
  have hNs : Ns R.stop = [.int .i64 q0, .int .i64 q1, .int .i64 q2, .int .i64 q3, .int .i64 q4, .int .i64 q5, .int .i64 q6] := by rw [hs7]; rfl
  have hst := hNs.symm
  rw [hNs]
  have hel : ∀ H, elems H 20 (.t (.lst s2 t2 xs)) = some xs := by
    intro H
    rcases h2 with rfl | e
    · exact elems_lst'
    · rw [e] at hx
      rw [List.length_eq_zero_iff.1 hx]; exact elems_nil
  simp (maxSteps := 4000000) -implicitDefEqProofs (disch := omega) only [keff_buildSlice, toElems_nil, setElems_nil, hel, kappend_nil, putAt_zero, putAt_succ, ↓sxPre, sxPost, sxLib, if_true, if_false, Nat.reduceEqDiff, ↓reduceIte, Nat.reduceAdd, Nat.reduceSub, Nat.reduceMul, Nat.reduceLT, Nat.reduceLeDiff, reduceCtorEq, eq_self, K.isEff, List.reduceReplicate]
  refine ⟨by omega, ?_⟩
  refine wpC_loop_any [1, 2, 4, 5] (fun m s => ∃ (i : Nat) (ys : List T), m + i = R.ths.length ∧ ys.length = R.ths.length ∧ (∀ j (h : j < R.ths.length), j < i → (R.ths[j]'h).cut.At (T.at ys j)) ∧ (∀ j (h : j < R.ths.length), i ≤ j → (R.ths[j]'h).At (T.at ys j)) ∧
      s = ⟨[(1, .t (.int .i64 which)), (2, .ref 0 0), (4, .ref 1 0), (5, .t (.int .i64 i))], [.box [.t (.int .i64 R.err), .t (.lst s1 t1 (Ns R.words)), .sl 2 0 ys.length 0 20, .t (.lst s3 t3 (Ps R.out)), .t (.int .i64 q0), .t (.int .i64 q1), .t (.int .i64 q2), .t (.int .i64 q3), .t (.int .i64 q4), .t (.int .i64 q5), .t (.int .i64 q6)], .box [.t (.int .i64 0), .t (.lst 0 true []), .t (.lst 0 true []), .t (.lst 0 true []), .t (.int .i64 0), .t (.int .i64 0), .t (.int .i64 0), .t (.int .i64 0), .t (.int .i64 0), .t (.int .i64 0), .t (.int .i64 0)], .row 20 0 ys]⟩) R.ths.length
    ⟨[0, 1, 2], by simp [gcSt, keepOk, finG, resV, resOne, resAll, idx, V.ren, V.renL, Obj.ren, get_cons, get_nil, RTree, RTup, RRow], 0, xs, by omega, hx, fun j h hj => absurd hj (by omega), fun j h _ => ha j h, by simp [hx, gcSt, keepOk, finG, resV, resOne, resAll, idx, V.ren, V.renL, Obj.ren, get_cons, get_nil, RTree, RTup, RRow]⟩ ?_
  rintro m s ⟨i, ys, hm, hyl, hlo, hhi, rfl⟩
  by_cases hi : i < R.ths.length
  · have hi' : decide ((i : Int) < R.ths.length) = true := decide_eq_true (by omega)
    have hiy : (i : Int) < R.ths.length := by omega
    obtain ⟨sz, t, hsz, hat⟩ := hhi i hi (Nat.le_refl _)
    have hqk := kths _ (List.getElem_mem hi)
    obtain ⟨C, hC⟩ : ∃ C, C = (R.ths[i]'hi).cells sz t := ⟨_, rfl⟩
    obtain ⟨k1, k2, k3, k4, k5⟩ := (R.ths[i]'hi).facts3 hqk sz t C hC
    rw [← hC] at hat
    have hmin : (if (4 : Int) < (R.ths[i]'hi).args.length then (4 : Int) else (R.ths[i]'hi).args.length) = ((min 4 (R.ths[i]'hi).args.length : Nat) : Int) := by split <;> omega
    have hml : min 4 (R.ths[i]'hi).args.length ≤ (R.ths[i]'hi).args.length := by omega
    simp (maxSteps := 4000000) -implicitDefEqProofs (disch := omega) only [hi', hiy, hyl, hat, Int.toNat_natCast, k1, k2, k3, k4, at_zero, Ns_length, hmin, elemPut_agg, ↓sxPre, sxPost, sxLib, if_true, if_false, Nat.reduceEqDiff, ↓reduceIte, Nat.reduceAdd, Nat.reduceSub, Nat.reduceMul, Nat.reduceLT, Nat.reduceLeDiff, reduceCtorEq, eq_self, K.isEff, List.reduceReplicate]
    have hNt : (Ns (R.ths[i]'hi).args).take (min 4 (R.ths[i]'hi).args.length) = Ns ((R.ths[i]'hi).args.take 4) := by
      rw [Ns_take]
      congr 1
      rcases Nat.le_total 4 (R.ths[i]'hi).args.length with h | h
      · rw [Nat.min_eq_left h]
      · rw [Nat.min_eq_right h, List.take_of_length_le h, List.take_of_length_le (Nat.le_refl _)]
    have hs' : sz = 1 ∨ Ns (R.ths[i]'hi).args = [] := by
      rcases hsz with h | h
      · exact .inl h
      · right; rw [h]; rfl
    have hs'' : sz = 1 ∨ (R.ths[i]'hi).cut.args = [] := by
      rcases hsz with h | h
      · exact .inl h
      · right; simp only [Th.cut]; rw [h]; rfl
    rw [hNt, k5]
    refine ⟨by omega, by omega, ⟨hs', by omega, by omega⟩, by omega, hi, m - 1, by omega, [0, 1, 2], by simp [gcSt, keepOk, finG, resV, resOne, resAll, idx, V.ren, V.renL, Obj.ren, get_cons, get_nil, RTree, RTup, RRow], i + 1, ys.set i (.agg ((R.ths[i]'hi).cut.cells sz false)), by omega, by simp [hyl], fun j h hj => ?_, fun j h hj => ?_, by simp [hyl, Th.cut, gcSt, keepOk, finG, resV, resOne, resAll, idx, V.ren, V.renL, Obj.ren, get_cons, get_nil, RTree, RTup, RRow]⟩
    · by_cases e : i = j
      · subst e
        rw [at_set (by omega)]
        exact ⟨sz, false, hs'', rfl⟩
      · rw [at_set_ne e]; exact hlo j h (by omega)
    · rw [at_set_ne (by omega)]; exact hhi j h (by omega)
  · have hi' : decide ((i : Int) < R.ths.length) = false := decide_eq_false (by omega)
    obtain rfl : i = R.ths.length := by omega
    have hmin : (if (8 : Int) < R.ths.length then (8 : Int) else R.ths.length) = ((min R.ths.length 8 : Nat) : Int) := by split <;> omega
    have hml : min R.ths.length 8 ≤ R.ths.length := by omega
    have hlo' : ∀ j (h : j < R.ths.length), (R.ths[j]'h).cut.At (T.at ys j) := fun j h => hlo j h h
    have m8 : 0 ≤ which % 8 ∧ which % 8 < 8 := by omega
    simp (maxSteps := 4000000) -implicitDefEqProofs (disch := omega) only [hi', hyl, hmin, Int.toNat_natCast, putAt_zero, putAt_succ, ↓sxPre, sxPost, sxLib, if_true, if_false, Nat.reduceEqDiff, ↓reduceIte, Nat.reduceAdd, Nat.reduceSub, Nat.reduceMul, Nat.reduceLT, Nat.reduceLeDiff, reduceCtorEq, eq_self, K.isEff, List.reduceReplicate]
    refine ⟨⟨by omega, by omega⟩, step_tree (Mod_sc which 8 (by decide) (by decide)) rfl ?_⟩
    have hd : -2 ^ 60 ≤ which.tdiv 8 ∧ which.tdiv 8 < 2 ^ 60 := by
      obtain ⟨ha, hb⟩ := hw
      rcases Int.le_total 0 which with h | h
      · rw [Int.tdiv_eq_ediv_of_nonneg h]; omega
      · have e : which.tdiv 8 = -((-which).tdiv 8) := by rw [Int.neg_tdiv]; omega
        rw [e, Int.tdiv_eq_ediv_of_nonneg (by omega)]; omega
    have a1 := andOne hw
    have a2 := andOne (v := which.tdiv 8) (by omega)
    obtain ⟨k1, hk1⟩ : ∃ k1, k1 = 128 + (which % 2).toNat := ⟨_, rfl⟩
    obtain ⟨k2, hk2⟩ : ∃ k2, k2 = 128 + (which.tdiv 8 % 2).toNat := ⟨_, rfl⟩
    have e1 : (128 : Int) + (((which % 2).toNat : Nat) : Int) = (k1 : Int) := by omega
    have e2 : (128 : Int) + (((which.tdiv 8 % 2).toNat : Nat) : Int) = (k2 : Int) := by omega
    have hk1' : k1 ≤ 129 := by omega
    have hk2' : k2 ≤ 129 := by omega
    cases g0 : decide (which % 8 = 0) <;> cases g1 : decide (which % 8 = 1)
    · have g0' := of_decide_eq_false g0
      have g1' := of_decide_eq_false g1
      simp (maxSteps := 4000000) -implicitDefEqProofs (disch := omega) only [g0, g1, putAt_zero, putAt_succ, ↓sxPre, sxPost, sxLib, if_true, if_false, Nat.reduceEqDiff, ↓reduceIte, Nat.reduceAdd, Nat.reduceSub, Nat.reduceMul, Nat.reduceLT, Nat.reduceLeDiff, reduceCtorEq, eq_self, K.isEff, List.reduceReplicate]
      refine finK_gc [2] ⟨by simp [keepOk], ?_⟩
      simp only [resV, resAll, resOne, get_cons, get_nil, kloadN_ref, List.getElem?_cons_zero, List.getElem?_cons_succ, Nat.reduceEqDiff, if_true, if_false, ↓reduceIte]
      refine ⟨by simp, 0, ys, _, _, _, hyl, hlo', ?_, ?_, s1, t1, s3, t3, h1, h3, .inl ⟨g0', g1', rfl, rfl, rfl⟩⟩
      · simp [V.ren, V.renL, idx, hNs]
      · simp [idx, Obj.ren, Ns, Ps]
    · have g1' := of_decide_eq_true g1
      simp (maxSteps := 4000000) -implicitDefEqProofs (disch := omega) only [g0, g1, putAt_zero, putAt_succ, a1, a2, e1, e2, Int.toNat_natCast, ↓sxPre, sxPost, sxLib, if_true, if_false, Nat.reduceEqDiff, ↓reduceIte, Nat.reduceAdd, Nat.reduceSub, Nat.reduceMul, Nat.reduceLT, Nat.reduceLeDiff, reduceCtorEq, eq_self, K.isEff, List.reduceReplicate]
      refine ⟨by decide, ⟨by omega, by omega, by omega, by omega⟩, ?_⟩
      refine finK_gc [2, 3] ⟨by simp [keepOk], ?_⟩
      simp only [resV, resAll, resOne, get_cons, get_nil, kloadN_ref, List.getElem?_cons_zero, List.getElem?_cons_succ, Nat.reduceEqDiff, if_true, if_false, ↓reduceIte]
      refine ⟨by simp, 0, ys, _, .sl 1 0 k2 0 2, _, hyl, hlo', ?_, ?_, s1, t1, s3, t3, h1, h3, .inr (.inr ⟨g1', k2, hk2, rfl, rfl, rfl⟩)⟩
      · simp [V.ren, V.renL, idx, hNs]
      · simp [idx, Obj.ren, Ns, Ps]
    · have g0' := of_decide_eq_true g0
      simp (maxSteps := 4000000) -implicitDefEqProofs (disch := omega) only [g0, g1, putAt_zero, putAt_succ, a1, a2, e1, e2, Int.toNat_natCast, ↓sxPre, sxPost, sxLib, if_true, if_false, Nat.reduceEqDiff, ↓reduceIte, Nat.reduceAdd, Nat.reduceSub, Nat.reduceMul, Nat.reduceLT, Nat.reduceLeDiff, reduceCtorEq, eq_self, K.isEff, List.reduceReplicate]
      refine ⟨⟨by omega, by omega, by omega, by omega⟩, ?_⟩
      refine finK_gc [2, 3] ⟨by simp [keepOk], ?_⟩
      simp only [resV, resAll, resOne, get_cons, get_nil, kloadN_ref, List.getElem?_cons_zero, List.getElem?_cons_succ, Nat.reduceEqDiff, if_true, if_false, ↓reduceIte]
      refine ⟨by simp, 0, ys, .sl 1 0 k1 0 1, _, _, hyl, hlo', ?_, ?_, s1, t1, s3, t3, h1, h3, .inr (.inl ⟨g0', k1, hk1, rfl, rfl, rfl⟩)⟩
      · simp [V.ren, V.renL, idx, hNs]
      · simp [idx, Obj.ren, Ns, Ps]
    · have g0 := of_decide_eq_true g0
      have g1 := of_decide_eq_true g1
      omega
end Go.Proofs.Ytljjabccgbakgaa

/- MessageFits: what the law returns. By the session itself. -/
namespace Go.Proofs.Ytljjabccgbakgaa
open Go Go.Abs
set_option maxRecDepth 100000
set_option maxHeartbeats 4000000
set_option linter.unusedSimpArgs false
set_option linter.unusedVariables false

theorem list_inv {α β : Type} {f : α → β} {p : α → Prop} : ∀ {cs : List β}, (∀ c ∈ cs, ∃ q, p q ∧ c = f q) → ∃ l : List α, cs = l.map f ∧ ∀ q ∈ l, p q
  | [], _ => ⟨[], rfl, fun q h => by cases h⟩
  | c :: cs, h => by
    obtain ⟨l, e, hl⟩ := list_inv (cs := cs) fun c hc => h c (List.mem_cons_of_mem _ hc)
    obtain ⟨q, hq, e2⟩ := h c (List.mem_cons_self ..)
    refine ⟨q :: l, by rw [List.map_cons, ← e, ← e2], fun q' hq' => ?_⟩
    rcases List.mem_cons.1 hq' with rfl | h
    · exact hq
    · exact hl q' h

abbrev thSh : List Sh := [.int .i64, .int .i64, .int .i64, .int .i64, .int .i64, .int .i64, .int .i64, .int .i64, .int .i64, .int .i64, .int .i64, .int .i64, .int .i64, .int .i64, .int .i64, .int .i64, .int .i64, .int .i64, .int .i64, .lst false [.int .i64]]
abbrev rpSh : List Sh := [.int .i64, .lst false [.int .i64], .lst true thSh, .lst true [.int .i64, .int .i64], .int .i64, .int .i64, .int .i64, .int .i64, .int .i64, .int .i64, .int .i64]

theorem th_inv {cs : List T} (hl : cs.length = thSh.length) (h : ∀ (i : Nat) s c, thSh[i]? = some s → cs[i]? = some c → Fits s c) : ∃ q : Th, q.Ok ∧ cs = q.cells 1 false := by
  match cs, hl with
  | [c0, c1, c2, c3, c4, c5, c6, c7, c8, c9, c10, c11, c12, c13, c14, c15, c16, c17, c18, c19], _ =>
  obtain ⟨n0, rfl, w0⟩ := (h 0 _ _ rfl rfl).int_inv
  obtain ⟨n1, rfl, w1⟩ := (h 1 _ _ rfl rfl).int_inv
  obtain ⟨n2, rfl, w2⟩ := (h 2 _ _ rfl rfl).int_inv
  obtain ⟨n3, rfl, w3⟩ := (h 3 _ _ rfl rfl).int_inv
  obtain ⟨n4, rfl, w4⟩ := (h 4 _ _ rfl rfl).int_inv
  obtain ⟨n5, rfl, w5⟩ := (h 5 _ _ rfl rfl).int_inv
  obtain ⟨n6, rfl, w6⟩ := (h 6 _ _ rfl rfl).int_inv
  obtain ⟨n7, rfl, w7⟩ := (h 7 _ _ rfl rfl).int_inv
  obtain ⟨n8, rfl, w8⟩ := (h 8 _ _ rfl rfl).int_inv
  obtain ⟨n9, rfl, w9⟩ := (h 9 _ _ rfl rfl).int_inv
  obtain ⟨n10, rfl, w10⟩ := (h 10 _ _ rfl rfl).int_inv
  obtain ⟨n11, rfl, w11⟩ := (h 11 _ _ rfl rfl).int_inv
  obtain ⟨n12, rfl, w12⟩ := (h 12 _ _ rfl rfl).int_inv
  obtain ⟨n13, rfl, w13⟩ := (h 13 _ _ rfl rfl).int_inv
  obtain ⟨n14, rfl, w14⟩ := (h 14 _ _ rfl rfl).int_inv
  obtain ⟨n15, rfl, w15⟩ := (h 15 _ _ rfl rfl).int_inv
  obtain ⟨n16, rfl, w16⟩ := (h 16 _ _ rfl rfl).int_inv
  obtain ⟨n17, rfl, w17⟩ := (h 17 _ _ rfl rfl).int_inv
  obtain ⟨n18, rfl, w18⟩ := (h 18 _ _ rfl rfl).int_inv
  obtain ⟨l, rfl, wl, hl⟩ := (h 19 _ _ rfl rfl).ints_inv
  have hm : maxLen = 2 ^ 63 - 1 := rfl
  refine ⟨⟨n0, n18, n17, [n1, n2, n3, n4, n5, n6, n7, n8, n9, n10, n11, n12, n13, n14, n15, n16], l⟩, ⟨i64_of w0, i64_of w18, i64_of w17, rfl, ?_, fun x hx => i64_of (wl x hx), by simp only; omega⟩, rfl⟩
  intro x hx
  simp only [List.mem_cons, List.not_mem_nil, or_false] at hx
  rcases hx with rfl | rfl | rfl | rfl | rfl | rfl | rfl | rfl | rfl | rfl | rfl | rfl | rfl | rfl | rfl | rfl
  · exact i64_of w1
  · exact i64_of w2
  · exact i64_of w3
  · exact i64_of w4
  · exact i64_of w5
  · exact i64_of w6
  · exact i64_of w7
  · exact i64_of w8
  · exact i64_of w9
  · exact i64_of w10
  · exact i64_of w11
  · exact i64_of w12
  · exact i64_of w13
  · exact i64_of w14
  · exact i64_of w15
  · exact i64_of w16

theorem pr_inv {cs : List T} (hl : cs.length = 2) (h : ∀ (i : Nat) s c, [Sh.int .i64, Sh.int .i64][i]? = some s → cs[i]? = some c → Fits s c) : ∃ q : Int × Int, (I64 q.1 ∧ I64 q.2) ∧ cs = [.int .i64 q.1, .int .i64 q.2] := by
  match cs, hl with
  | [c0, c1], _ =>
  obtain ⟨n0, rfl, w0⟩ := (h 0 _ _ rfl rfl).int_inv
  obtain ⟨n1, rfl, w1⟩ := (h 1 _ _ rfl rfl).int_inv
  exact ⟨(n0, n1), ⟨i64_of w0, i64_of w1⟩, rfl⟩

theorem rows_inv {es : List Sh} {x : T} (h : Fits (.lst true es) x) : ∃ css : List (List T), x = .lst es.length false (css.map T.agg) ∧ css.length ≤ maxLen ∧ (∀ cs ∈ css, cs.length = es.length) ∧ ∀ cs ∈ css, ∀ (i : Nat) s c, es[i]? = some s → cs[i]? = some c → Fits s c := by
  cases h with
  | rows hl hn h => exact ⟨_, rfl, hl, hn, h⟩

/-- A reply that is handed to a law. -/
theorem Cells.rp {W : World} {ts : List T} {cs : List Value} (h : Cells W rpSh ts cs) : ∃ R : Rp, R.Ok ∧ ts = .int .i64 R.err :: .lst 1 false (Ns R.words) :: .lst 20 false (R.ths.map fun q => .agg (q.cells 1 false)) :: .lst 2 false (Ps R.out) :: Ns R.stop := by
  obtain ⟨_, _, _, _, rfl, rfl, f1, _, h⟩ := h.head
  obtain ⟨_, _, _, _, rfl, rfl, f2, _, h⟩ := h.head
  obtain ⟨_, _, _, _, rfl, rfl, f3, _, h⟩ := h.head
  obtain ⟨_, _, _, _, rfl, rfl, f4, _, h⟩ := h.head
  obtain ⟨_, _, _, _, rfl, rfl, g0, _, h⟩ := h.head
  obtain ⟨_, _, _, _, rfl, rfl, g1, _, h⟩ := h.head
  obtain ⟨_, _, _, _, rfl, rfl, g2, _, h⟩ := h.head
  obtain ⟨_, _, _, _, rfl, rfl, g3, _, h⟩ := h.head
  obtain ⟨_, _, _, _, rfl, rfl, g4, _, h⟩ := h.head
  obtain ⟨_, _, _, _, rfl, rfl, g5, _, h⟩ := h.head
  obtain ⟨_, _, _, _, rfl, rfl, g6, _, h⟩ := h.head
  obtain ⟨rfl, rfl⟩ := h.tail_nil
  obtain ⟨e, rfl, we⟩ := f1.int_inv
  obtain ⟨l, rfl, wl, hl⟩ := f2.ints_inv
  obtain ⟨cs3, rfl, hl3, hn3, hf3⟩ := rows_inv f3
  obtain ⟨cs4, rfl, hl4, hn4, hf4⟩ := rows_inv f4
  obtain ⟨n0, rfl, w0⟩ := g0.int_inv
  obtain ⟨n1, rfl, w1⟩ := g1.int_inv
  obtain ⟨n2, rfl, w2⟩ := g2.int_inv
  obtain ⟨n3, rfl, w3⟩ := g3.int_inv
  obtain ⟨n4, rfl, w4⟩ := g4.int_inv
  obtain ⟨n5, rfl, w5⟩ := g5.int_inv
  obtain ⟨n6, rfl, w6⟩ := g6.int_inv
  obtain ⟨ths, rfl, hths⟩ := list_inv (f := fun q : Th => q.cells 1 false) (p := Th.Ok) fun c hc => th_inv (hn3 c hc) (hf3 c hc)
  obtain ⟨out, rfl, hout⟩ := list_inv (f := fun q : Int × Int => [T.int .i64 q.1, .int .i64 q.2]) (p := fun q => I64 q.1 ∧ I64 q.2) fun c hc => pr_inv (hn4 c hc) (hf4 c hc)
  have hm : maxLen = 2 ^ 63 - 1 := rfl
  rw [List.length_map] at hl3 hl4
  refine ⟨⟨e, l, ths, out, [n0, n1, n2, n3, n4, n5, n6]⟩, ⟨i64_of we, fun x hx => i64_of (wl x hx), by simp only; omega, hths, by simp only; omega, ?_, by simp only; omega, ?_, rfl⟩, ?_⟩
  · intro x hx
    simp only [flatO, List.mem_flatMap, List.mem_cons, List.not_mem_nil, or_false] at hx
    obtain ⟨o, ho, rfl | rfl⟩ := hx
    · exact (hout o ho).1
    · exact (hout o ho).2
  · intro x hx
    simp only [List.mem_cons, List.not_mem_nil, or_false] at hx
    rcases hx with rfl | rfl | rfl | rfl | rfl | rfl | rfl
    · exact i64_of w0
    · exact i64_of w1
    · exact i64_of w2
    · exact i64_of w3
    · exact i64_of w4
    · exact i64_of w5
    · exact i64_of w6
  · simp [Ns, Ps, List.map_map, Function.comp_def]

theorem Rp.plain (R : Rp) : R.At (.int .i64 R.err :: .lst 1 false (Ns R.words) :: .lst 20 false (R.ths.map fun q => .agg (q.cells 1 false)) :: .lst 2 false (Ps R.out) :: Ns R.stop) :=
  ⟨1, false, 20, false, 2, false, _, .inl rfl, .inl rfl, .inl rfl, by simp, fun i h => ⟨1, false, .inl rfl, by simp [T.at, h]⟩, rfl⟩
end Go.Proofs.Ytljjabccgbakgaa

/- MessageFits. By the session itself. -/
namespace Go.Proofs.Ytljjabccgbakgaa
open Go Go.Abs
set_option maxRecDepth 100000
set_option maxHeartbeats 4000000
set_option linter.unusedSimpArgs false
set_option linter.unusedVariables false

theorem Th.cut_ok {q : Th} (h : q.Ok) : q.cut.Ok := by
  obtain ⟨h1, h2, h3, h4, h5, h6, h7⟩ := h
  exact ⟨h1, h2, h3, h4, h5, fun x hx => h6 x (List.mem_of_mem_take hx), by simp only [Th.cut, List.length_take]; omega⟩

theorem enI_pos (l : List Int) : 0 < (enI l).length := by
  have := groups_pos l.length
  rw [enI, List.length_append]; omega

/-- How long a reply is. -/
theorem Rp.enc_len {R : Rp} (hR : R.Ok) (hf : R.Fit) : 0 < R.enc.length ∧ R.enc.length ≤ 6000 := by
  obtain ⟨kerr, kwords, kwlen, kths, ktlen, kout, kolen, kstop, kslen⟩ := hR
  obtain ⟨f1, f2, f3, f4⟩ := hf
  have h1 := groups_le10 (zig_lt kerr)
  have h2 := enI_len kwords (by omega)
  have h3 := groups_le10 (v := R.ths.length) (by omega)
  have h4 := encs_len kths f4
  have h5 := enI_len kout (by rw [flatO_length]; omega)
  have h6 := enI_len kstop (by omega)
  have h7 := enI_pos R.stop
  rw [flatO_length] at h5
  simp only [Rp.enc, Rp.pre, List.length_append]
  omega

end Go.Proofs.Ytljjabccgbakgaa

/- Messages: the state of a thread is read. By the session itself. -/
namespace Go.Proofs.Ytljjabccgbakgaa
open Go Go.Abs
set_option maxRecDepth 100000
set_option maxHeartbeats 4000000
set_option linter.unusedSimpArgs false
set_option linter.unusedVariables false

theorem toTs_ts {H : Heap} {vs : List V} {ys : List T} {H1 : Heap} (h : toTs H vs = some (ys, H1)) : ∀ xs : List T, toTs H (xs.map V.t ++ vs) = some (xs ++ ys, H1)
  | [] => h
  | x :: xs => by
    rw [List.map_cons, List.cons_append, toTs_cons, toT_t]
    simp only [toTs_ts h xs, List.cons_append]

/-- The cells of a thread whose arguments may be new memory. -/
def vcells (st fn pc : Int) (r : List Int) (x : V) : List V := .t (.int .i64 st) :: ((Ns r).map V.t ++ [.t (.int .i64 pc), .t (.int .i64 fn), x])

theorem vfacts (st fn pc : Int) (r : List Int) (hr : r.length = 16) :
    (∀ x, (vcells st fn pc r x).length = 20) ∧ (∀ x, (vcells st fn pc r x).take 20 = vcells st fn pc r x) ∧ (∀ x y, putAt (vcells st fn pc r x) 19 [y] = vcells st fn pc r y) ∧ (∀ x, x.one = true → (vcells st fn pc r x).all V.one = true) ∧
      (∀ a0 a1 a2 a3 a4 a5 a6 a7 a8 a9 a10 a11 a12 a13 a14 a15 a16 a17 a18 a19 : V, ∀ x, putAt [a0, a1, a2, a3, a4, a5, a6, a7, a8, a9, a10, a11, a12, a13, a14, a15, a16, a17, a18, a19] 0 (vcells st fn pc r x) = vcells st fn pc r x) ∧
      (∀ z1 z2 z3 z4 z5 z6 z7 z8 z9 z10 z11 z12 z13 z14 z15 z16 : V, ∀ x, putAt [.t (.int .i64 st), z1, z2, z3, z4, z5, z6, z7, z8, z9, z10, z11, z12, z13, z14, z15, z16, .t (.int .i64 pc), .t (.int .i64 fn), x] 1 ((Ns r).map V.t) = vcells st fn pc r x) := by
  match r, hr with
  | [b0, b1, b2, b3, b4, b5, b6, b7, b8, b9, b10, b11, b12, b13, b14, b15], _ =>
  refine ⟨fun _ => rfl, fun _ => rfl, fun _ _ => rfl, fun x hx => ?_, ?_, ?_⟩
  · simp only [vcells, Ns, List.map_cons, List.map_nil, List.cons_append, List.nil_append, List.all_cons, List.all_nil, hx, Bool.and_true, vone_int]
  · intros; rfl
  · intros; rfl

theorem vcells_toTs {H H1 : Heap} {x : V} {y : T} (h : toT H x = some (y, H1)) (st fn pc : Int) (r : List Int) : toTs H (vcells st fn pc r x) = some (.int .i64 st :: (Ns r ++ [.int .i64 pc, .int .i64 fn, y]), H1) := by
  rw [vcells, toTs_cons, toT_t]
  have : toTs H [V.t (.int .i64 pc), .t (.int .i64 fn), x] = some ([.int .i64 pc, .int .i64 fn, y], H1) := by
    simp only [toTs_cons, toT_t, h, toTs_nil]
  simp only [toTs_ts this (Ns r)]

def zeroTh : Th := ⟨0, 0, 0, List.replicate 16 0, []⟩
/-- The state of a thread is read. -/
def rdTh (b : List Int) (s : RS) : Th × RS :=
  (⟨(rdExact b 19 s).1.getD 0 0, (rdExact b 19 s).1.getD 1 0, (rdExact b 19 s).1.getD 2 0, (rdExact b 19 s).1.drop 3, (rdInts b 4 (rdExact b 19 s).2).1⟩, (rdInts b 4 (rdExact b 19 s).2).2)
def RTh (b : List Int) (x : Th × RS) (r : V) (F : Heap) : Prop := ∃ sz t, (sz = 1 ∨ x.1.args = []) ∧ r = .t (.agg (x.1.cells sz t)) ∧ F = [rbox b x.2]

theorem rdTh_ok {b : List Int} (hb : Bytes b) {s : RS} (h : SOk b s) : SOk b (rdTh b s).2 ∧ (rdTh b s).1.Ok ∧ (rdTh b s).1.args.length ≤ 4 := by
  obtain ⟨h1, h2, h3⟩ := rdExact_ok hb 19 h
  obtain ⟨k1, k2, k3⟩ := rdInts_ok hb 4 h1
  have hz : ∀ (l : List Int) i, I64s l → I64 (l.getD i 0) := by
    intro l i hl
    rw [List.getD_eq_getElem?_getD]
    cases e : l[i]? with
    | none => exact ⟨by decide, by decide⟩
    | some y => exact hl y (List.mem_of_getElem? e)
  refine ⟨k1, ⟨hz _ _ h2, hz _ _ h2, hz _ _ h2, by simp only [rdTh, List.length_drop, h3], fun x hx => h2 x (List.mem_of_mem_drop hx), k2, ?_⟩, ?_⟩
  · simp only [rdTh]; omega
  · simp only [rdTh]; omega

theorem kcopy_bsl {H : Heap} {m id off len : Nat} {ys : List T} : kcopy H m (.bsl id off len) ys = (match H[id]? with
    | some (.box cs) => if m = 1 ∧ ys.all T.one = true then some (off + len ≤ cs.length, .int .i64 ((min ys.length len : Nat) : Int), H.set id (.box (putAt cs off ((ys.take len).map .t)))) else none
    | _ => none) := (rfl)

theorem thread_sc (b : List Int) (hb : Bytes b) (hl : b.length ≤ 2 ^ 40) (s : RS) (hs : SOk b s) : SCall PP N.message_reader_thread [.ref 0 0] [rbox b s] (RTh b (rdTh b s)) := by
  refine message_reader_thread.intro (by simp) ?_
  have c1 := exactly_sc b hb hl s hs 19 (by decide)
  obtain ⟨k1, k2, k3⟩ := rdExact_ok hb 19 hs
  have c2 := ints_sc b hb hl (rdExact b 19 s).2 k1 4 (by decide)
  unfold rdTh
  generalize rdExact b 19 s = x at *
  obtain ⟨l, s1⟩ := x
  simp only at k1 k2 k3 c2 ⊢
  generalize rdInts b 4 s1 = z at *
  obtain ⟨y, s2⟩ := z
  simp only at c2 ⊢
  obtain ⟨l0, l1, l2, r, rfl⟩ : ∃ l0 l1 l2 r, l = l0 :: l1 :: l2 :: r := by
    match l, k3 with
    | l0 :: l1 :: l2 :: r, _ => exact ⟨l0, l1, l2, r, rfl⟩
  have hr : r.length = 16 := by simpa using k3
  obtain ⟨f1, f2, f3, f4, f5, f6⟩ := vfacts l0 l1 l2 r hr
  have c1' : SCall PP N.message_reader_exactly [.ref 0 0, .t (.int .i64 19)] [rbox b s] (RNew b (l0 :: l1 :: l2 :: r, s1)) := c1
  simp only [List.getD_cons_zero, List.getD_cons_succ, List.drop_succ_cons, List.drop_zero]
  simp (maxSteps := 4000000) -implicitDefEqProofs (disch := omega) only [↓sxPre, sxPost, sxLib, if_true, if_false, Nat.reduceEqDiff, ↓reduceIte, Nat.reduceAdd, Nat.reduceSub, Nat.reduceMul, Nat.reduceLT, Nat.reduceLeDiff, reduceCtorEq, eq_self, K.isEff, List.reduceReplicate]
  refine step_new (b := b) (x := (l0 :: l1 :: l2 :: r, s1)) 0 (by simp) ?_ (fun g => ?_)
  · simpa [V.ren, V.renL, idx, Abs.get, ev, sub, rbox, Obj.ren] using c1'
  have a0 := at_Ns (l := l0 :: l1 :: l2 :: r) (i := 0) (by simp)
  have a1 := at_Ns (l := l0 :: l1 :: l2 :: r) (i := 1) (by simp)
  have a2 := at_Ns (l := l0 :: l1 :: l2 :: r) (i := 2) (by simp)
  simp only [List.getElem_cons_zero, List.getElem_cons_succ] at a0 a1 a2
  have hL : (l0 :: l1 :: l2 :: r).length = 19 := k3
  obtain ⟨X, hX⟩ : ∃ X, X = Ns (l0 :: l1 :: l2 :: r) := ⟨_, rfl⟩
  have hXd : (X.drop 3).take 16 = Ns r := by
    rw [hX]
    show (Ns r).take 16 = Ns r
    exact List.take_of_length_le (by rw [Ns_length]; omega)
  have hrt : (Ns r).take 16 = Ns r := List.take_of_length_le (by rw [Ns_length]; omega)
  rw [← hX] at a0 a1 a2
  simp only [← hX]
  rw [hL]
  clear hX
  simp (maxSteps := 4000000) -implicitDefEqProofs (disch := omega) only [kload1_elt, Int.reduceToNat, a0, a1, a2, at_zero, stepK_build', fillV, putAt_zero, putAt_succ, ksliceA_ref, kcopy_bsl, elems_sl, hXd, hrt, Ns_one, Ns_length, hr, f6, ↓sxPre, sxPost, sxLib, if_true, if_false, Nat.reduceEqDiff, ↓reduceIte, Nat.reduceAdd, Nat.reduceSub, Nat.reduceMul, Nat.reduceLT, Nat.reduceLeDiff, reduceCtorEq, eq_self, K.isEff, List.reduceReplicate]
  refine ⟨⟨by omega, by omega⟩, ⟨by omega, by omega⟩, ⟨by omega, by omega⟩, ⟨by omega, by omega⟩, ⟨by omega, by omega⟩, ⟨by omega, by omega⟩, ⟨by omega, by omega⟩, ?_⟩
  refine step_ints (b := b) (x := (y, s2)) 0 (by simp) ?_ (fun hy => ?_) (fun g2 => ?_)
  · simpa [V.ren, V.renL, idx, Abs.get, ev, sub, rbox, Obj.ren] using c2
  · simp (maxSteps := 4000000) -implicitDefEqProofs (disch := omega) only [f1, f2, f3, f4, f5, ↓sxPre, sxPost, sxLib, if_true, if_false, Nat.reduceEqDiff, ↓reduceIte, Nat.reduceAdd, Nat.reduceSub, Nat.reduceMul, Nat.reduceLT, Nat.reduceLeDiff, reduceCtorEq, eq_self, K.isEff, List.reduceReplicate]
    refine ⟨f4 _ rfl, ?_⟩
    refine finK_one (n := 1) [0] (c := True) (v := .agg (vcells l0 l1 l2 r (.t (.lst 0 true [])))) (x := .agg (Th.cells ⟨l0, l1, l2, r, y⟩ 0 true)) (H1 := [rbox b s2, .box (vcells l0 l1 l2 r (.t (.lst 0 true []))), .row 1 g X, .box (vcells l0 l1 l2 r (.t (.lst 0 true [])))]) ?_ trivial ?_ (by simp [keepOk]) ?_
    · simp [resV, resOne, get_cons, kloadN_ref, f1, f2]
    · rw [toElem_agg, vcells_toTs (toT_t (x := .lst 0 true []))]
      rw [show y = [] from hy]; rfl
    · exact ⟨0, true, .inr hy, rfl, rfl⟩
  · have hyt : (Ns y).take y.length = Ns y := List.take_of_length_le (by rw [Ns_length]; omega)
    simp (maxSteps := 4000000) -implicitDefEqProofs (disch := omega) only [f1, f2, f3, f4, f5, ↓sxPre, sxPost, sxLib, if_true, if_false, Nat.reduceEqDiff, ↓reduceIte, Nat.reduceAdd, Nat.reduceSub, Nat.reduceMul, Nat.reduceLT, Nat.reduceLeDiff, reduceCtorEq, eq_self, K.isEff, List.reduceReplicate]
    refine ⟨f4 _ rfl, ?_⟩
    refine finK_one (n := 1) [0] (c := True) (v := .agg (vcells l0 l1 l2 r (.sl 4 0 y.length g2 1))) (x := .agg (Th.cells ⟨l0, l1, l2, r, y⟩ 1 false)) (H1 := [rbox b s2, .box (vcells l0 l1 l2 r (.sl 4 0 y.length g2 1)), .row 1 g X, .box (vcells l0 l1 l2 r (.sl 4 0 y.length g2 1)), .frz 1 g2 (Ns y)]) ?_ trivial ?_ (by simp [keepOk]) ?_
    · simp [resV, resOne, get_cons, kloadN_ref, f1, f2]
    · rw [toElem_agg, vcells_toTs (y := .lst 1 false (Ns y)) (H1 := [rbox b s2, .box (vcells l0 l1 l2 r (.sl 4 0 y.length g2 1)), .row 1 g X, .box (vcells l0 l1 l2 r (.sl 4 0 y.length g2 1)), .frz 1 g2 (Ns y)])]
      · rfl
      · rw [toT_sl]; simp [rowOf, hyt]
    · exact ⟨1, false, .inl rfl, rfl, rfl⟩
end Go.Proofs.Ytljjabccgbakgaa

/- Messages: replies are read; the second half. By the session itself. -/
namespace Go.Proofs.Ytljjabccgbakgaa
open Go Go.Abs
set_option maxRecDepth 100000
set_option maxHeartbeats 4000000
set_option linter.unusedSimpArgs false
set_option linter.unusedVariables false

/-- A list of numbers that is frozen, and the reader has moved. -/
def RIntsT (b : List Int) (x : List Int × RS) (r : V) (F : Heap) : Prop := ∃ sz t, (sz = 1 ∨ x.1 = []) ∧ r = .t (.lst sz t (Ns x.1)) ∧ F = [rbox b x.2]

theorem frz_row {b : List Int} {s : RS} {g : Nat} {l : List Int} : Weak 1 ⟨[(0, .sl 1 0 l.length g 1)], [rbox b s, .row 1 g (Ns l)]⟩ ⟨[(0, .t (.lst 1 false (Ns l)))], [rbox b s]⟩ := by
  have hlt : (Ns l).take l.length = Ns l := List.take_of_length_le (by rw [Ns_length]; omega)
  refine (weak_frz (t := 0) (x := .lst 1 false (Ns l)) (H1 := [rbox b s, .frz 1 g (Ns l)]) ?_).trans (weak_to [0] [0] rfl (Nat.le_refl _) (by simp) (by simp) ?_)
  · show toT _ (V.sl 1 0 l.length g 1) = _
    rw [toT_sl]; simp [rowOf, hlt]
  · simp [gcSt, put, get_cons, idx, V.ren, rbox, Obj.ren, V.renL]

theorem ints_scT (b : List Int) (hb : Bytes b) (hl : b.length ≤ 2 ^ 40) (s : RS) (hs : SOk b s) (most : Int) (hm : 0 ≤ most ∧ most ≤ 2 ^ 20) :
    SCall PP N.message_reader_ints [.ref 0 0, .t (.int .i64 most)] [rbox b s] (RIntsT b (rdInts b most s)) := by
  refine (ints_sc b hb hl s hs most hm).weak ?_
  rintro r F (⟨rfl, h0, rfl⟩ | ⟨g, rfl, rfl⟩)
  · exact ⟨_, _, Weak.refl _ _, 0, true, .inr h0, by rw [h0]; rfl, rfl⟩
  · exact ⟨_, _, frz_row, 1, false, .inl rfl, rfl, rfl⟩

theorem exactly_scT (b : List Int) (hb : Bytes b) (hl : b.length ≤ 2 ^ 40) (s : RS) (hs : SOk b s) (n : Nat) (hn : 0 < n ∧ n ≤ 2 ^ 20) :
    SCall PP N.message_reader_exactly [.ref 0 0, .t (.int .i64 n)] [rbox b s] (RIntsT b (rdExact b n s)) := by
  refine (exactly_sc b hb hl s hs n hn).weak ?_
  rintro r F ⟨g, rfl, rfl⟩
  exact ⟨_, _, frz_row, 1, false, .inl rfl, rfl, rfl⟩

theorem step_intsT {P : Program} {f : FuncId} {H : Heap} {K : St → Prop} {vs : List (Nat × V)} {r : List Ins} {d : Nat} {xs : List Opnd} {b : List Int} {x : List Int × RS} (id : Nat) (hid : id < H.length)
    (h : SCall P f ((xs.map (ev vs)).map (V.ren (idx [id]))) (sub H [id]) (RIntsT b x))
    (hk : ∀ sz t, (sz = 1 ∨ x.1 = []) → wpR (SCall P) r K ⟨(d, .t (.lst sz t (Ns x.1))) :: vs, H.set id (rbox b x.2)⟩) : wpR (SCall P) (⟨some d, none, .call f xs⟩ :: r) K ⟨vs, H⟩ := by
  refine step_call (call_frame [id] (by simp) (by simpa using hid) h ?_)
  rintro r F ⟨sz, t, hs, rfl, rfl⟩
  simpa [merge, setAll, V.ren, Obj.ren, rbox, V.renL] using hk sz t hs

theorem step_th {P : Program} {f : FuncId} {H : Heap} {K : St → Prop} {vs : List (Nat × V)} {r : List Ins} {d : Nat} {xs : List Opnd} {b : List Int} {x : Th × RS} (id : Nat) (hid : id < H.length)
    (h : SCall P f ((xs.map (ev vs)).map (V.ren (idx [id]))) (sub H [id]) (RTh b x))
    (hk : ∀ sz t, (sz = 1 ∨ x.1.args = []) → wpR (SCall P) r K ⟨(d, .t (.agg (x.1.cells sz t))) :: vs, H.set id (rbox b x.2)⟩) : wpR (SCall P) (⟨some d, none, .call f xs⟩ :: r) K ⟨vs, H⟩ := by
  refine step_call (call_frame [id] (by simp) (by simpa using hid) h ?_)
  rintro r F ⟨sz, t, hs, rfl, rfl⟩
  simpa [merge, setAll, V.ren, Obj.ren, rbox, V.renL] using hk sz t hs

def pairs : List Int → List (Int × Int)
  | a :: b :: r => (a, b) :: pairs r
  | _ => []
theorem pairs_length : ∀ l : List Int, (pairs l).length = l.length / 2
  | [] => rfl
  | [_] => by simp [pairs]
  | a :: b :: r => by
    have := pairs_length r
    simp only [pairs, List.length_cons]; omega
theorem pairs_get : ∀ (l : List Int) (j : Nat) (h : j < (pairs l).length), (pairs l)[j]'h = (l.getD (2 * j) 0, l.getD (2 * j + 1) 0)
  | [], j, h => by simp [pairs] at h
  | [_], j, h => by simp [pairs] at h
  | a :: b :: r, 0, h => by simp [pairs]
  | a :: b :: r, j + 1, h => by
    have h' : j < (pairs r).length := by simpa [pairs] using h
    have := pairs_get r j h'
    have e1 : 2 * (j + 1) = 2 * j + 1 + 1 := by omega
    simp only [pairs, List.getElem_cons_succ, e1, List.getD_cons_succ]
    exact this

def zeroRp : Rp := ⟨0, [], [], [], [0, 0, 0, 0, 0, 0, 0]⟩
def RDecR (D : Rp × Int) (r : V) (F : Heap) : Prop := ∃ cs, D.1.At cs ∧ r = .tup [.t (.agg cs), .t (.int .i64 D.2)] ∧ F = []

abbrev drTail : Cd := (.seq (.rgn message_DecodeReply.r15) (.seq (.rgnD message_DecodeReply.d2) (.seq (.seq (.rgn message_DecodeReply.r16) (.cond (.tmp 103) (.seq (.rgn message_DecodeReply.r17) .ret) .skip)) (.seq (.rgn message_DecodeReply.r18) .ret))))

/-- What comes of a reply when the rest is read. -/
def decEnd (b : List Int) (err : Int) (words : List Int) (ths : List Th) (o : List Int) (s : RS) : Rp × Int :=
  if (rdExact b 7 s).2.2 = false ∧ (rdExact b 7 s).2.1 = b.length then (⟨err, words, ths, pairs o, (rdExact b 7 s).1⟩, 0) else (zeroRp, 4)

theorem zeroRp_at : zeroRp.At [.int .i64 0, .lst 0 true [], .lst 0 true [], .lst 0 true [], .int .i64 0, .int .i64 0, .int .i64 0, .int .i64 0, .int .i64 0, .int .i64 0, .int .i64 0] :=
  ⟨0, true, 0, true, 0, true, [], .inr rfl, .inr rfl, .inr rfl, rfl, fun i h => absurd h (by simp [zeroRp]), rfl⟩

theorem DecodeReply_l1 (b : List Int) (hb : Bytes b) (hl : b.length ≤ 2 ^ 40) (s : RS) (hs : SOk b s) (err : Int) (words : List Int) (ths : List Th) (o : List Int) (ho : o.length ≤ 2 ^ 20)
    (s1 : Nat) (t1 : Bool) (s2 : Nat) (t2 : Bool) (so : Nat) (to : Bool) (xs : List T) (h1 : s1 = 1 ∨ words = []) (h2 : s2 = 20 ∨ ths = []) (hso : so = 1 ∨ o = []) (hx : xs.length = ths.length) (ha : ∀ i (h : i < ths.length), (ths[i]'h).At (T.at xs i)) (st s0 : St) (hw : Weak 0 st s0)
    (hs0 : s0 = ⟨[(2, .ref 0 0), (4, .ref 1 0), (5, .ref 2 0), (8, .t (.lst so to (Ns o))), (9, .t (.int .i64 0))], [.box [.t (.int .i64 0), .t (.lst 0 true []), .t (.lst 0 true []), .t (.lst 0 true []), .t (.int .i64 0), .t (.int .i64 0), .t (.int .i64 0), .t (.int .i64 0), .t (.int .i64 0), .t (.int .i64 0), .t (.int .i64 0)], rbox b s,
      .box [.t (.int .i64 err), .t (.lst s1 t1 (Ns words)), .t (.lst s2 t2 xs), .t (.lst 0 true []), .t (.int .i64 0), .t (.int .i64 0), .t (.int .i64 0), .t (.int .i64 0), .t (.int .i64 0), .t (.int .i64 0), .t (.int .i64 0)]]⟩) :
    wpC (SCall PP) 0 (.loop message_DecodeReply.l1) (blockK 2 (thenK (wpC (SCall PP) 0 drTail (exitK 0 [.cell 2 11 false, .tmp 3] (RDecR (decEnd b err words ths o s)))) (exitK 0 [.cell 2 11 false, .tmp 3] (RDecR (decEnd b err words ths o s))))) st := by
  refine wpC_loop (fun m st => ∃ (j : Nat) (x : V) (H : Heap), m + j = o.length / 2 ∧
      ((j = 0 ∧ x = .t (.lst 0 true []) ∧ H = []) ∨ ∃ g', x = .sl 3 0 j g' 2 ∧ H = [.row 2 g' (Ps ((pairs o).take j))]) ∧
      st = ⟨[(2, .ref 0 0), (4, .ref 1 0), (5, .ref 2 0), (8, .t (.lst so to (Ns o))), (9, .t (.int .i64 (2 * j : Nat)))], .box [.t (.int .i64 0), .t (.lst 0 true []), .t (.lst 0 true []), .t (.lst 0 true []), .t (.int .i64 0), .t (.int .i64 0), .t (.int .i64 0), .t (.int .i64 0), .t (.int .i64 0), .t (.int .i64 0), .t (.int .i64 0)] :: rbox b s ::
        .box [.t (.int .i64 err), .t (.lst s1 t1 (Ns words)), .t (.lst s2 t2 xs), x, .t (.int .i64 0), .t (.int .i64 0), .t (.int .i64 0), .t (.int .i64 0), .t (.int .i64 0), .t (.int .i64 0), .t (.int .i64 0)] :: H⟩) (o.length / 2) s0 hw
    ⟨0, _, [], by omega, .inl ⟨rfl, rfl, rfl⟩, hs0⟩ ?_
  clear hw hs0 st s0
  have hpl := pairs_length o
  rintro m st ⟨j, x, H, hm, hxH, rfl⟩
  by_cases hj : 2 * j + 1 < o.length
  · have d1 : decide (((2 * j : Nat) : Int) + 1 < o.length) = true := decide_eq_true (by omega)
    have hso1 : so = 1 := hso.resolve_right (by rintro rfl; simp at hj)
    subst hso1
    have b1 : ((2 * j : Nat) : Int) < o.length := by omega
    have b2 : ((2 * j : Nat) : Int) + 1 < o.length := by omega
    have e2 : (((2 * j : Nat) : Int) + 1).toNat = 2 * j + 1 := by omega
    have a1 := at_Ns (l := o) (i := 2 * j) (by omega)
    have a2 := at_Ns (l := o) (i := 2 * j + 1) (by omega)
    have hpj : j < (pairs o).length := by omega
    have hpg := pairs_get o j hpj
    have hpt : (pairs o).take (j + 1) = (pairs o).take j ++ [(o[2 * j]'(by omega), o[2 * j + 1]'(by omega))] := by
      rw [List.take_succ_eq_append_getElem hpj, hpg]
      simp [List.getD_eq_getElem?_getD, show 2 * j < o.length by omega, hj]
    have hptl : ((pairs o).take j).length = j := by rw [List.length_take]; omega
    have e3 : ((2 * j : Nat) : Int) + 2 = ((2 * (j + 1) : Nat) : Int) := by omega
    rcases hxH with ⟨rfl, rfl, rfl⟩ | ⟨g', rfl, rfl⟩
    · simp (maxSteps := 4000000) -implicitDefEqProofs (disch := omega) only [Ns_length, d1, b1, b2, e2, a1, a2, e3, Int.toNat_natCast, at_zero, fillV, putAt_zero, putAt_succ, keff_buildSlice, toElems_cons, toElems_nil, toElem_agg, toTs_cons, toTs_nil, toT_t, setElems_cons, setElems_nil, ↓sxPre, sxPost, sxLib, if_true, if_false, Nat.reduceEqDiff, ↓reduceIte, Nat.reduceAdd, Nat.reduceSub, Nat.reduceMul, Nat.reduceLT, Nat.reduceLeDiff, reduceCtorEq, eq_self, K.isEff, List.reduceReplicate]
      refine ⟨by omega, by omega, by omega, m - 1, _, by omega, weak_keep (slots := [2, 4, 5, 8, 9]) (keep := [0, 1, 2, 3]) (by simp [keepOk]), 1, _, _, by omega, .inr ⟨0, rfl, rfl⟩, ?_⟩
      rw [hpt]
      simp [Ps, rbox, gcSt, keepOk, finG, resV, resOne, resAll, idx, V.ren, V.renL, Obj.ren, get_cons, get_nil, RTree, RTup, RRow]
    · simp (maxSteps := 4000000) -implicitDefEqProofs (disch := omega) only [Ns_length, d1, b1, b2, e2, a1, a2, e3, Int.toNat_natCast, at_zero, fillV, putAt_zero, putAt_succ, keff_buildSlice, toElems_cons, toElems_nil, toElem_agg, toTs_cons, toTs_nil, toT_t, setElems_cons, setElems_nil, Ps_length, hptl, ↓sxPre, sxPost, sxLib, if_true, if_false, Nat.reduceEqDiff, ↓reduceIte, Nat.reduceAdd, Nat.reduceSub, Nat.reduceMul, Nat.reduceLT, Nat.reduceLeDiff, reduceCtorEq, eq_self, K.isEff, List.reduceReplicate]
      refine ⟨by omega, by omega, by omega, m - 1, _, by omega, weak_keep (slots := [2, 4, 5, 8, 9]) (keep := [0, 1, 2, 3]) (by simp [keepOk]), j + 1, _, _, by omega, .inr ⟨g' + 1, rfl, rfl⟩, ?_⟩
      rw [hpt]
      simp [Ps, rbox, gcSt, keepOk, finG, resV, resOne, resAll, idx, V.ren, V.renL, Obj.ren, get_cons, get_nil, RTree, RTup, RRow]
  · have d1 : decide (((2 * j : Nat) : Int) + 1 < o.length) = false := decide_eq_false (by omega)
    obtain rfl : j = o.length / 2 := by
      rcases hxH with ⟨h, _⟩ | ⟨g', _⟩ <;> omega
    have hpt : (pairs o).take (o.length / 2) = pairs o := List.take_of_length_le (by omega)
    rw [hpt] at hxH
    have c7 := exactly_scT b hb hl s hs 7 (by decide)
    obtain ⟨k1, k2, k3⟩ := rdExact_ok hb 7 hs
    have cd := done_sc b (rdExact b 7 s).2
    unfold decEnd
    generalize rdExact b 7 s = z at *
    obtain ⟨l, s7⟩ := z
    simp only at k1 k2 k3 cd ⊢
    have c7' : SCall PP N.message_reader_exactly [.ref 0 0, .t (.int .i64 7)] [rbox b s] (RIntsT b (l, s7)) := c7
    obtain ⟨q0, q1, q2, q3, q4, q5, q6, rfl⟩ := seven k3
    obtain ⟨X, hX⟩ : ∃ X, X = Ns [q0, q1, q2, q3, q4, q5, q6] := ⟨_, rfl⟩
    have A0 : T.at X 0 = .int .i64 q0 := by rw [hX]; rfl
    have A1 : T.at X 1 = .int .i64 q1 := by rw [hX]; rfl
    have A2 : T.at X 2 = .int .i64 q2 := by rw [hX]; rfl
    have A3 : T.at X 3 = .int .i64 q3 := by rw [hX]; rfl
    have A4 : T.at X 4 = .int .i64 q4 := by rw [hX]; rfl
    have A5 : T.at X 5 = .int .i64 q5 := by rw [hX]; rfl
    have A6 : T.at X 6 = .int .i64 q6 := by rw [hX]; rfl
    have hXl : X.length = 7 := by rw [hX]; rfl
    have hNx : Ns [q0, q1, q2, q3, q4, q5, q6] = X := hX.symm
    have fin : ∀ (x : V) (so : Nat) (to : Bool), toT [] (.t (.lst so to (Ps (pairs o)))) = some (.lst so to (Ps (pairs o)), []) → (so = 2 ∨ pairs o = []) →
        (⟨err, words, ths, pairs o, [q0, q1, q2, q3, q4, q5, q6]⟩ : Rp).At [.int .i64 err, .lst s1 t1 (Ns words), .lst s2 t2 xs, .lst so to (Ps (pairs o)), .int .i64 q0, .int .i64 q1, .int .i64 q2, .int .i64 q3, .int .i64 q4, .int .i64 q5, .int .i64 q6] :=
      fun x so to _ hso => ⟨s1, t1, s2, t2, so, to, xs, h1, h2, hso, hx, ha, rfl⟩
    clear hX c7 k1 k2 k3
    have hPt : (Ps (pairs o)).take (o.length / 2) = Ps (pairs o) := List.take_of_length_le (by rw [Ps_length]; omega)
    rcases hxH with ⟨h0, rfl, rfl⟩ | ⟨g', rfl, rfl⟩
    · have hp0 : pairs o = [] := List.length_eq_zero_iff.1 (by omega)
      rw [hp0] at fin hPt ⊢
      simp (maxSteps := 4000000) -implicitDefEqProofs (disch := omega) only [d1, Ns_length, ↓sxPre, sxPost, sxLib, if_true, if_false, Nat.reduceEqDiff, ↓reduceIte, Nat.reduceAdd, Nat.reduceSub, Nat.reduceMul, Nat.reduceLT, Nat.reduceLeDiff, reduceCtorEq, eq_self, K.isEff, List.reduceReplicate]
      refine step_intsT (b := b) (x := ([q0, q1, q2, q3, q4, q5, q6], s7)) 1 (by simp) ?_ (fun sz t hsz => ?_)
      · simpa [V.ren, V.renL, idx, Abs.get, ev, sub, rbox, Obj.ren] using c7'
      obtain rfl : sz = 1 := hsz.resolve_right (by simp)
      simp only [hNx]
      simp (maxSteps := 4000000) -implicitDefEqProofs (disch := omega) only [Int.reduceToNat, hXl, A0, A1, A2, A3, A4, A5, A6, at_zero, fillV, putAt_zero, putAt_succ, ↓sxPre, sxPost, sxLib, if_true, if_false, Nat.reduceEqDiff, ↓reduceIte, Nat.reduceAdd, Nat.reduceSub, Nat.reduceMul, Nat.reduceLT, Nat.reduceLeDiff, reduceCtorEq, eq_self, K.isEff, List.reduceReplicate]
      refine ⟨⟨by omega, by omega⟩, ⟨by omega, by omega⟩, ⟨by omega, by omega⟩, ⟨by omega, by omega⟩, ⟨by omega, by omega⟩, ⟨by omega, by omega⟩, ⟨by omega, by omega⟩, ?_⟩
      refine step_done (b := b) (s := s7) 1 (by simp) rfl ?_ ?_
      · simpa [V.ren, V.renL, idx, Abs.get, ev, sub, rbox, Obj.ren] using cd
      obtain ⟨sa, sbad⟩ := s7
      by_cases hok : sbad = false ∧ sa = (b.length : Int)
      · obtain ⟨rfl, rfl⟩ := hok
        rw [if_pos ⟨rfl, rfl⟩]
        simp (maxSteps := 4000000) -implicitDefEqProofs (disch := omega) only [putAt_zero, putAt_succ, ↓sxPre, sxPost, sxLib, if_true, if_false, Nat.reduceEqDiff, ↓reduceIte, Nat.reduceAdd, Nat.reduceSub, Nat.reduceMul, Nat.reduceLT, Nat.reduceLeDiff, reduceCtorEq, eq_self, K.isEff, List.reduceReplicate]
        refine finK_tup (n := 0) [] (c := True) (vs := [.agg [.t (.int .i64 err), .t (.lst s1 t1 (Ns words)), .t (.lst s2 t2 xs), .t (.lst 0 true []), .t (.int .i64 q0), .t (.int .i64 q1), .t (.int .i64 q2), .t (.int .i64 q3), .t (.int .i64 q4), .t (.int .i64 q5), .t (.int .i64 q6)], .t (.int .i64 0)]) (xs := [.agg [.int .i64 err, .lst s1 t1 (Ns words), .lst s2 t2 xs, .lst 0 true (Ps []), .int .i64 q0, .int .i64 q1, .int .i64 q2, .int .i64 q3, .int .i64 q4, .int .i64 q5, .int .i64 q6], .int .i64 0])
          (H1 := .box [.t (.int .i64 err), .t (.lst s1 t1 (Ns words)), .t (.lst s2 t2 xs), .t (.lst 0 true []), .t (.int .i64 q0), .t (.int .i64 q1), .t (.int .i64 q2), .t (.int .i64 q3), .t (.int .i64 q4), .t (.int .i64 q5), .t (.int .i64 q6)] :: rbox b ((b.length : Int), false) :: .box [.t (.int .i64 err), .t (.lst s1 t1 (Ns words)), .t (.lst s2 t2 xs), .t (.lst 0 true []), .t (.int .i64 q0), .t (.int .i64 q1), .t (.int .i64 q2), .t (.int .i64 q3), .t (.int .i64 q4), .t (.int .i64 q5), .t (.int .i64 q6)] :: []) ?_ trivial ?_ (by simp [keepOk]) ⟨_, fin .undef _ _ rfl (.inr rfl), rfl, rfl⟩
        · simp [resV, resAll, resOne, get_cons, kloadN_ref]
        · simp only [toElems_cons, toElems_nil, toElem_agg, toElem_t, toTs_cons, toTs_nil, toT_t, toT_sl]
          simp [rowOf, hPt, toT_t]
          try rfl
      · rw [if_neg hok]
        have hv : (!((sa, sbad) : RS).2 && decide (((sa, sbad) : RS).1 = (b.length : Int))) = false := by
          cases sbad with
          | true => rfl
          | false =>
            have : ¬ sa = (b.length : Int) := fun h => hok ⟨rfl, h⟩
            simp [this]
        rw [hv]
        simp (maxSteps := 4000000) -implicitDefEqProofs (disch := omega) only [fillV, putAt_zero, putAt_succ, ↓sxPre, sxPost, sxLib, if_true, if_false, Nat.reduceEqDiff, ↓reduceIte, Nat.reduceAdd, Nat.reduceSub, Nat.reduceMul, Nat.reduceLT, Nat.reduceLeDiff, reduceCtorEq, eq_self, K.isEff, List.reduceReplicate]
        refine finK_tup (n := 0) [] (c := True) (vs := [.agg [.t (.int .i64 0), .t (.lst 0 true []), .t (.lst 0 true []), .t (.lst 0 true []), .t (.int .i64 0), .t (.int .i64 0), .t (.int .i64 0), .t (.int .i64 0), .t (.int .i64 0), .t (.int .i64 0), .t (.int .i64 0)], .t (.int .i64 4)]) (xs := [.agg [.int .i64 0, .lst 0 true [], .lst 0 true [], .lst 0 true [], .int .i64 0, .int .i64 0, .int .i64 0, .int .i64 0, .int .i64 0, .int .i64 0, .int .i64 0], .int .i64 4])
          (H1 := .box [.t (.int .i64 0), .t (.lst 0 true []), .t (.lst 0 true []), .t (.lst 0 true []), .t (.int .i64 0), .t (.int .i64 0), .t (.int .i64 0), .t (.int .i64 0), .t (.int .i64 0), .t (.int .i64 0), .t (.int .i64 0)] :: rbox b (sa, sbad) :: .box [.t (.int .i64 err), .t (.lst s1 t1 (Ns words)), .t (.lst s2 t2 xs), .t (.lst 0 true []), .t (.int .i64 q0), .t (.int .i64 q1), .t (.int .i64 q2), .t (.int .i64 q3), .t (.int .i64 q4), .t (.int .i64 q5), .t (.int .i64 q6)] :: []) ?_ trivial ?_ (by simp [keepOk]) ⟨_, zeroRp_at, rfl, rfl⟩
        · simp [resV, resAll, resOne, get_cons, kloadN_ref]
        · simp only [toElems_cons, toElems_nil, toElem_agg, toElem_t, toTs_cons, toTs_nil, toT_t]
    · simp (maxSteps := 4000000) -implicitDefEqProofs (disch := omega) only [d1, Ns_length, ↓sxPre, sxPost, sxLib, if_true, if_false, Nat.reduceEqDiff, ↓reduceIte, Nat.reduceAdd, Nat.reduceSub, Nat.reduceMul, Nat.reduceLT, Nat.reduceLeDiff, reduceCtorEq, eq_self, K.isEff, List.reduceReplicate]
      refine step_intsT (b := b) (x := ([q0, q1, q2, q3, q4, q5, q6], s7)) 1 (by simp) ?_ (fun sz t hsz => ?_)
      · simpa [V.ren, V.renL, idx, Abs.get, ev, sub, rbox, Obj.ren] using c7'
      obtain rfl : sz = 1 := hsz.resolve_right (by simp)
      simp only [hNx]
      simp (maxSteps := 4000000) -implicitDefEqProofs (disch := omega) only [Int.reduceToNat, hXl, A0, A1, A2, A3, A4, A5, A6, at_zero, fillV, putAt_zero, putAt_succ, ↓sxPre, sxPost, sxLib, if_true, if_false, Nat.reduceEqDiff, ↓reduceIte, Nat.reduceAdd, Nat.reduceSub, Nat.reduceMul, Nat.reduceLT, Nat.reduceLeDiff, reduceCtorEq, eq_self, K.isEff, List.reduceReplicate]
      refine ⟨⟨by omega, by omega⟩, ⟨by omega, by omega⟩, ⟨by omega, by omega⟩, ⟨by omega, by omega⟩, ⟨by omega, by omega⟩, ⟨by omega, by omega⟩, ⟨by omega, by omega⟩, ?_⟩
      refine step_done (b := b) (s := s7) 1 (by simp) rfl ?_ ?_
      · simpa [V.ren, V.renL, idx, Abs.get, ev, sub, rbox, Obj.ren] using cd
      obtain ⟨sa, sbad⟩ := s7
      by_cases hok : sbad = false ∧ sa = (b.length : Int)
      · obtain ⟨rfl, rfl⟩ := hok
        rw [if_pos ⟨rfl, rfl⟩]
        simp (maxSteps := 4000000) -implicitDefEqProofs (disch := omega) only [putAt_zero, putAt_succ, ↓sxPre, sxPost, sxLib, if_true, if_false, Nat.reduceEqDiff, ↓reduceIte, Nat.reduceAdd, Nat.reduceSub, Nat.reduceMul, Nat.reduceLT, Nat.reduceLeDiff, reduceCtorEq, eq_self, K.isEff, List.reduceReplicate]
        refine finK_tup (n := 0) [] (c := True) (vs := [.agg [.t (.int .i64 err), .t (.lst s1 t1 (Ns words)), .t (.lst s2 t2 xs), (.sl 3 0 (o.length / 2) g' 2), .t (.int .i64 q0), .t (.int .i64 q1), .t (.int .i64 q2), .t (.int .i64 q3), .t (.int .i64 q4), .t (.int .i64 q5), .t (.int .i64 q6)], .t (.int .i64 0)]) (xs := [.agg [.int .i64 err, .lst s1 t1 (Ns words), .lst s2 t2 xs, .lst 2 false (Ps (pairs o)), .int .i64 q0, .int .i64 q1, .int .i64 q2, .int .i64 q3, .int .i64 q4, .int .i64 q5, .int .i64 q6], .int .i64 0])
          (H1 := .box [.t (.int .i64 err), .t (.lst s1 t1 (Ns words)), .t (.lst s2 t2 xs), (.sl 3 0 (o.length / 2) g' 2), .t (.int .i64 q0), .t (.int .i64 q1), .t (.int .i64 q2), .t (.int .i64 q3), .t (.int .i64 q4), .t (.int .i64 q5), .t (.int .i64 q6)] :: rbox b ((b.length : Int), false) :: .box [.t (.int .i64 err), .t (.lst s1 t1 (Ns words)), .t (.lst s2 t2 xs), (.sl 3 0 (o.length / 2) g' 2), .t (.int .i64 q0), .t (.int .i64 q1), .t (.int .i64 q2), .t (.int .i64 q3), .t (.int .i64 q4), .t (.int .i64 q5), .t (.int .i64 q6)] :: [.frz 2 g' (Ps (pairs o))]) ?_ trivial ?_ (by simp [keepOk]) ⟨_, fin .undef _ _ rfl (.inl rfl), rfl, rfl⟩
        · simp [resV, resAll, resOne, get_cons, kloadN_ref]
        · simp only [toElems_cons, toElems_nil, toElem_agg, toElem_t, toTs_cons, toTs_nil, toT_t, toT_sl]
          simp [rowOf, hPt, toT_t]
          try rfl
      · rw [if_neg hok]
        have hv : (!((sa, sbad) : RS).2 && decide (((sa, sbad) : RS).1 = (b.length : Int))) = false := by
          cases sbad with
          | true => rfl
          | false =>
            have : ¬ sa = (b.length : Int) := fun h => hok ⟨rfl, h⟩
            simp [this]
        rw [hv]
        simp (maxSteps := 4000000) -implicitDefEqProofs (disch := omega) only [fillV, putAt_zero, putAt_succ, ↓sxPre, sxPost, sxLib, if_true, if_false, Nat.reduceEqDiff, ↓reduceIte, Nat.reduceAdd, Nat.reduceSub, Nat.reduceMul, Nat.reduceLT, Nat.reduceLeDiff, reduceCtorEq, eq_self, K.isEff, List.reduceReplicate]
        refine finK_tup (n := 0) [] (c := True) (vs := [.agg [.t (.int .i64 0), .t (.lst 0 true []), .t (.lst 0 true []), .t (.lst 0 true []), .t (.int .i64 0), .t (.int .i64 0), .t (.int .i64 0), .t (.int .i64 0), .t (.int .i64 0), .t (.int .i64 0), .t (.int .i64 0)], .t (.int .i64 4)]) (xs := [.agg [.int .i64 0, .lst 0 true [], .lst 0 true [], .lst 0 true [], .int .i64 0, .int .i64 0, .int .i64 0, .int .i64 0, .int .i64 0, .int .i64 0, .int .i64 0], .int .i64 4])
          (H1 := .box [.t (.int .i64 0), .t (.lst 0 true []), .t (.lst 0 true []), .t (.lst 0 true []), .t (.int .i64 0), .t (.int .i64 0), .t (.int .i64 0), .t (.int .i64 0), .t (.int .i64 0), .t (.int .i64 0), .t (.int .i64 0)] :: rbox b (sa, sbad) :: .box [.t (.int .i64 err), .t (.lst s1 t1 (Ns words)), .t (.lst s2 t2 xs), (.sl 3 0 (o.length / 2) g' 2), .t (.int .i64 q0), .t (.int .i64 q1), .t (.int .i64 q2), .t (.int .i64 q3), .t (.int .i64 q4), .t (.int .i64 q5), .t (.int .i64 q6)] :: [.row 2 g' (Ps (pairs o))]) ?_ trivial ?_ (by simp [keepOk]) ⟨_, zeroRp_at, rfl, rfl⟩
        · simp [resV, resAll, resOne, get_cons, kloadN_ref]
        · simp only [toElems_cons, toElems_nil, toElem_agg, toElem_t, toTs_cons, toTs_nil, toT_t]
end Go.Proofs.Ytljjabccgbakgaa

/- Messages: replies are read. By the session itself. -/
namespace Go.Proofs.Ytljjabccgbakgaa
open Go Go.Abs
set_option maxRecDepth 100000
set_option maxHeartbeats 4000000
set_option linter.unusedSimpArgs false
set_option linter.unusedVariables false

def rdThs (b : List Int) : Nat → RS → List Th × RS
  | 0, s => ([], s)
  | k + 1, s => if s.2 then ([], s) else ((rdTh b s).1 :: (rdThs b k (rdTh b s).2).1, (rdThs b k (rdTh b s).2).2)
def afterThs (b : List Int) (err : Int) (words : List Int) (x : List Th × RS) : Rp × Int :=
  decEnd b err words x.1 (rdInts b 256 x.2).1 (if (rdInts b 256 x.2).1.length % 2 = 0 then (rdInts b 256 x.2).2 else ((rdInts b 256 x.2).2.1, true))

theorem rem2 (a : Nat) : (a : Int).tmod 2 = ((a % 2 : Nat) : Int) := by rw [Int.tmod_eq_emod_of_nonneg (by omega)]; omega
theorem Th.cells_one {q : Th} (sz : Nat) (t : Bool) : (q.cells sz t).all T.one = true := by
  simp [Th.cells, Ns, T.one]

abbrev drTail0 : Cd := (.seq (.rgn message_DecodeReply.r9) (.seq (.seq (.rgn message_DecodeReply.r10) (.cond (.tmp 50) (.rgn message_DecodeReply.r11) .skip)) (.seq (.seq (.rgn message_DecodeReply.r12) (.block 2 (.loop message_DecodeReply.l1))) drTail)))

theorem DecodeReply_l0 (b : List Int) (hb : Bytes b) (hl : b.length ≤ 2 ^ 40) (s : RS) (hs : SOk b s) (n : Int) (hn : n ≤ 8 ∨ s.2 = true) (hn0 : 0 ≤ n) (err : Int) (words : List Int) (s1 : Nat) (t1 : Bool) (h1 : s1 = 1 ∨ words = []) (st : St)
    (hk : keepOk 0 [0, 1, 2] st.h.length) (hst : gcSt [2, 4, 5, 6, 7] [0, 1, 2] st = ⟨[(2, .ref 0 0), (4, .ref 1 0), (5, .ref 2 0), (6, .t (.int .i64 n)), (7, .t (.int .i64 0))], [.box [.t (.int .i64 0), .t (.lst 0 true []), .t (.lst 0 true []), .t (.lst 0 true []), .t (.int .i64 0), .t (.int .i64 0), .t (.int .i64 0), .t (.int .i64 0), .t (.int .i64 0), .t (.int .i64 0), .t (.int .i64 0)], rbox b s, .box [.t (.int .i64 err), .t (.lst s1 t1 (Ns words)), .t (.lst 0 true []), .t (.lst 0 true []), .t (.int .i64 0), .t (.int .i64 0), .t (.int .i64 0), .t (.int .i64 0), .t (.int .i64 0), .t (.int .i64 0), .t (.int .i64 0)]]⟩) :
    wpC (SCall PP) 0 (.loop message_DecodeReply.l0) (blockK 0 (thenK (wpC (SCall PP) 0 drTail0 (exitK 0 [.cell 2 11 false, .tmp 3] (RDecR (afterThs b err words (rdThs b n.toNat s))))) (exitK 0 [.cell 2 11 false, .tmp 3] (RDecR (afterThs b err words (rdThs b n.toNat s)))))) st := by
  refine wpC_loop (fun m st => ∃ (i : Nat) (l : List Th) (ys : List T) (t : RS) (x : V) (H : Heap), m + i = n.toNat ∧ l.length = i ∧ ys.length = l.length ∧ (∀ j (h : j < l.length), (l[j]'h).At (T.at ys j)) ∧ SOk b t ∧ (n ≤ 8 ∨ t.2 = true) ∧
      rdThs b n.toNat s = (l ++ (rdThs b m t).1, (rdThs b m t).2) ∧
      ((l = [] ∧ x = .t (.lst 0 true []) ∧ H = []) ∨ ∃ g', x = .sl 3 0 i g' 20 ∧ H = [.row 20 g' ys]) ∧
      st = ⟨[(2, .ref 0 0), (4, .ref 1 0), (5, .ref 2 0), (6, .t (.int .i64 n)), (7, .t (.int .i64 i))], .box [.t (.int .i64 0), .t (.lst 0 true []), .t (.lst 0 true []), .t (.lst 0 true []), .t (.int .i64 0), .t (.int .i64 0), .t (.int .i64 0), .t (.int .i64 0), .t (.int .i64 0), .t (.int .i64 0), .t (.int .i64 0)] :: rbox b t :: .box [.t (.int .i64 err), .t (.lst s1 t1 (Ns words)), x, .t (.lst 0 true []), .t (.int .i64 0), .t (.int .i64 0), .t (.int .i64 0), .t (.int .i64 0), .t (.int .i64 0), .t (.int .i64 0), .t (.int .i64 0)] :: H⟩) n.toNat _ (weak_keep hk)
    ⟨0, [], [], s, _, [], by simp, rfl, rfl, fun j h => absurd h (by simp), hs, hn, by simp, .inl ⟨rfl, rfl, rfl⟩, hst⟩ ?_
  clear hst hk st
  rintro m st ⟨i, l, ys, t, x, H, hm, hli, hyl, hya, ht, hnt, hrd, hxH, rfl⟩
  have hend : (m = 0 ∨ t.2 = true) → rdThs b n.toNat s = (l, t) := by
    intro h
    rw [hrd]
    rcases h with rfl | h
    · simp [rdThs]
    · cases m <;> simp [rdThs, h]
  obtain ⟨ta, tb⟩ := t
  by_cases hgo : (i : Int) < n ∧ tb = false
  · obtain ⟨hlt, rfl⟩ := hgo
    clear hend
    have d1 : decide ((i : Int) < n) = true := decide_eq_true hlt
    have hn8 : n ≤ 8 := hnt.resolve_right (by simp)
    obtain ⟨m, rfl⟩ : ∃ m', m = m' + 1 := ⟨m - 1, by omega⟩
    obtain ⟨j1, j2, j3⟩ := rdTh_ok hb ht
    have cT := thread_sc b hb hl (ta, false) ht
    simp only [rdThs, if_neg Bool.false_ne_true] at hrd
    generalize rdTh b (ta, false) = w at *
    obtain ⟨q, wt⟩ := w
    simp only at j1 j2 j3 hrd cT
    have hstep : ∀ (C : List T) (sz : Nat) (tt : Bool), (sz = 1 ∨ q.args = []) → C = q.cells sz tt → ∀ j (h : j < (l ++ [q]).length), ((l ++ [q])[j]'h).At (T.at (ys ++ [.agg C]) j) := by
      intro C sz tt hsz hC j h
      by_cases hj : j < l.length
      · have e : T.at (ys ++ [.agg C]) j = T.at ys j := by simp [T.at, List.getD_eq_getElem?_getD, List.getElem?_append_left (show j < ys.length by omega)]
        rw [List.getElem_append_left hj, e]
        exact hya j hj
      · have hj2 : j = l.length := by simp at h; omega
        have e : T.at (ys ++ [.agg C]) j = .agg C := by simp [T.at, List.getD_eq_getElem?_getD, hj2, ← hyl]
        rw [e]
        subst hj2
        rw [List.getElem_append_right (Nat.le_refl _)]
        simp only [Nat.sub_self, List.getElem_cons_zero]
        exact ⟨sz, tt, hsz, by rw [hC]⟩
    rcases hxH with ⟨hl0, rfl, rfl⟩ | ⟨g', rfl, rfl⟩
    · have hy0 : ys = [] := List.length_eq_zero_iff.1 (by rw [hyl, hl0]; rfl)
      have hyl2 := hyl
      have hyX := hy0
      unfold rbox
      simp (maxSteps := 4000000) -implicitDefEqProofs (disch := omega) only [d1, ↓sxPre, sxPost, sxLib, if_true, if_false, Nat.reduceEqDiff, ↓reduceIte, Nat.reduceAdd, Nat.reduceSub, Nat.reduceMul, Nat.reduceLT, Nat.reduceLeDiff, reduceCtorEq, eq_self, K.isEff, List.reduceReplicate]
      refine step_eff (step_th (b := b) (x := (q, wt)) 1 (by simp) ?_ (fun sz tt hsz => ?_))
      · simpa [V.ren, V.renL, idx, Abs.get, ev, sub, rbox, Obj.ren] using cT
      have k1 := (q.facts2 j2 sz tt _ rfl).1
      have kone := Th.cells_one (q := q) sz tt
      have hst2 := hstep _ sz tt hsz rfl
      generalize q.cells sz tt = C at *
      simp (maxSteps := 4000000) -implicitDefEqProofs (disch := omega) only [k1, kone, putAt_zero, putAt_succ, keff_buildSlice, toElems_cons, toElems_nil, toElem_t, setElems_cons, setElems_nil, kappend_nil, hyl2, ↓sxPre, sxPost, sxLib, if_true, if_false, Nat.reduceEqDiff, ↓reduceIte, Nat.reduceAdd, Nat.reduceSub, Nat.reduceMul, Nat.reduceLT, Nat.reduceLeDiff, reduceCtorEq, eq_self, K.isEff, List.reduceReplicate]
      rw [hy0] at hst2
      refine ⟨by omega, m, _, by omega, weak_keep (slots := [2, 4, 5, 6, 7]) (keep := [0, 1, 2, 3]) (by simp [keepOk]), i + 1, l ++ [q], [.agg C], wt, _, _, by omega, by simp [hli], by simp [hl0], hst2, j1, .inl hn8, by rw [hrd]; simp, .inr ⟨0, rfl, rfl⟩, ?_⟩
      simp [rbox, hyX, gcSt, keepOk, finG, resV, resOne, resAll, idx, V.ren, V.renL, Obj.ren, get_cons, get_nil, RTree, RTup, RRow]
      rw [← hli, hl0]; rfl
    · have hyl2 : ys.length = i := by omega
      have hyX := hyl2
      unfold rbox
      simp (maxSteps := 4000000) -implicitDefEqProofs (disch := omega) only [d1, ↓sxPre, sxPost, sxLib, if_true, if_false, Nat.reduceEqDiff, ↓reduceIte, Nat.reduceAdd, Nat.reduceSub, Nat.reduceMul, Nat.reduceLT, Nat.reduceLeDiff, reduceCtorEq, eq_self, K.isEff, List.reduceReplicate]
      refine step_eff (step_th (b := b) (x := (q, wt)) 1 (by simp) ?_ (fun sz tt hsz => ?_))
      · simpa [V.ren, V.renL, idx, Abs.get, ev, sub, rbox, Obj.ren] using cT
      have k1 := (q.facts2 j2 sz tt _ rfl).1
      have kone := Th.cells_one (q := q) sz tt
      have hst2 := hstep _ sz tt hsz rfl
      generalize q.cells sz tt = C at *
      simp (maxSteps := 4000000) -implicitDefEqProofs (disch := omega) only [k1, kone, putAt_zero, putAt_succ, keff_buildSlice, toElems_cons, toElems_nil, toElem_t, setElems_cons, setElems_nil, kappend_nil, hyl2, ↓sxPre, sxPost, sxLib, if_true, if_false, Nat.reduceEqDiff, ↓reduceIte, Nat.reduceAdd, Nat.reduceSub, Nat.reduceMul, Nat.reduceLT, Nat.reduceLeDiff, reduceCtorEq, eq_self, K.isEff, List.reduceReplicate]
      refine ⟨by omega, m, _, by omega, weak_keep (slots := [2, 4, 5, 6, 7]) (keep := [0, 1, 2, 3]) (by simp [keepOk]), i + 1, l ++ [q], ys ++ [.agg C], wt, _, _, by omega, by simp [hli], by simp [hyl], hst2, j1, .inl hn8, by rw [hrd]; simp, .inr ⟨g' + 1, rfl, rfl⟩, ?_⟩
      simp [rbox, hyX, gcSt, keepOk, finG, resV, resOne, resAll, idx, V.ren, V.renL, Obj.ren, get_cons, get_nil, RTree, RTup, RRow]
  · have hm0 : m = 0 ∨ tb = true := by
      cases tb with
      | true => exact .inr rfl
      | false => exact .inl (by simp at hgo; omega)
    rw [hend hm0]
    unfold afterThs
    simp only
    have cO := ints_scT b hb hl (ta, tb) ht 256 (by decide)
    obtain ⟨ko, _, klen⟩ := rdInts_ok hb 256 ht
    generalize rdInts b 256 (ta, tb) = z at *
    obtain ⟨o, so⟩ := z
    simp only at ko klen cO ⊢
    have hyt : ys.take i = ys := List.take_of_length_le (by omega)
    have dd : decide ((i : Int) < n) = false ∨ (decide ((i : Int) < n) = true ∧ tb = true) := by
      by_cases h : (i : Int) < n
      · right
        refine ⟨decide_eq_true h, ?_⟩
        cases tb with
        | true => rfl
        | false => exact absurd ⟨h, rfl⟩ hgo
      · exact .inl (decide_eq_false h)
    clear hend hgo hm0 hrd
    unfold rbox
    rcases dd with d1 | ⟨d1, rfl⟩ <;> rcases hxH with ⟨hl0, rfl, rfl⟩ | ⟨g', rfl, rfl⟩
    · have hy0 : ys = [] := List.length_eq_zero_iff.1 (by rw [hyl, hl0]; rfl)
      have hyX := hy0
      simp (maxSteps := 4000000) -implicitDefEqProofs (disch := omega) only [d1, ↓sxPre, sxPost, sxLib, if_true, if_false, Nat.reduceEqDiff, ↓reduceIte, Nat.reduceAdd, Nat.reduceSub, Nat.reduceMul, Nat.reduceLT, Nat.reduceLeDiff, reduceCtorEq, eq_self, K.isEff, List.reduceReplicate]
      refine step_intsT (b := b) (x := (o, so)) 1 (by simp) ?_ (fun sz tt hsz => ?_)
      · simpa [V.ren, V.renL, idx, Abs.get, ev, sub, rbox, Obj.ren] using cO
      by_cases hpar : o.length % 2 = 0
      · have d2 : decide (((o.length % 2 : Nat) : Int) = 0) = true := decide_eq_true (by omega)
        rw [if_pos hpar]
        simp (maxSteps := 4000000) -implicitDefEqProofs (disch := omega) only [Ns_length, rem2, d2, ↓sxPre, sxPost, sxLib, if_true, if_false, Nat.reduceEqDiff, ↓reduceIte, Nat.reduceAdd, Nat.reduceSub, Nat.reduceMul, Nat.reduceLT, Nat.reduceLeDiff, reduceCtorEq, eq_self, K.isEff, List.reduceReplicate]
        refine ⟨by decide, DecodeReply_l1 b hb hl so ko err words l o (by omega) s1 t1 0 true sz tt ys h1 (.inr hl0) hsz hyl hya _ _ (weak_keep (slots := [2, 4, 5, 8, 9]) (keep := [0, 1, 2]) (by simp [keepOk])) ?_⟩
        simp [rbox, hyX, gcSt, keepOk, finG, resV, resOne, resAll, idx, V.ren, V.renL, Obj.ren, get_cons, get_nil, RTree, RTup, RRow]
        try rfl
      · have d2 : decide (((o.length % 2 : Nat) : Int) = 0) = false := decide_eq_false (by omega)
        rw [if_neg hpar]
        obtain ⟨oa, ob⟩ := so
        unfold rbox
        simp (maxSteps := 4000000) -implicitDefEqProofs (disch := omega) only [Ns_length, rem2, d2, putAt_zero, putAt_succ, ↓sxPre, sxPost, sxLib, if_true, if_false, Nat.reduceEqDiff, ↓reduceIte, Nat.reduceAdd, Nat.reduceSub, Nat.reduceMul, Nat.reduceLT, Nat.reduceLeDiff, reduceCtorEq, eq_self, K.isEff, List.reduceReplicate]
        refine ⟨by decide, DecodeReply_l1 b hb hl (oa, true) ko err words l o (by omega) s1 t1 0 true sz tt ys h1 (.inr hl0) hsz hyl hya _ _ (weak_keep (slots := [2, 4, 5, 8, 9]) (keep := [0, 1, 2]) (by simp [keepOk])) ?_⟩
        simp [rbox, hyX, gcSt, keepOk, finG, resV, resOne, resAll, idx, V.ren, V.renL, Obj.ren, get_cons, get_nil, RTree, RTup, RRow]
        try rfl
    · have hyX := hyl
      simp (maxSteps := 4000000) -implicitDefEqProofs (disch := omega) only [d1, ↓sxPre, sxPost, sxLib, if_true, if_false, Nat.reduceEqDiff, ↓reduceIte, Nat.reduceAdd, Nat.reduceSub, Nat.reduceMul, Nat.reduceLT, Nat.reduceLeDiff, reduceCtorEq, eq_self, K.isEff, List.reduceReplicate]
      refine step_intsT (b := b) (x := (o, so)) 1 (by simp) ?_ (fun sz tt hsz => ?_)
      · simpa [V.ren, V.renL, idx, Abs.get, ev, sub, rbox, Obj.ren] using cO
      by_cases hpar : o.length % 2 = 0
      · have d2 : decide (((o.length % 2 : Nat) : Int) = 0) = true := decide_eq_true (by omega)
        rw [if_pos hpar]
        simp (maxSteps := 4000000) -implicitDefEqProofs (disch := omega) only [Ns_length, rem2, d2, ↓sxPre, sxPost, sxLib, if_true, if_false, Nat.reduceEqDiff, ↓reduceIte, Nat.reduceAdd, Nat.reduceSub, Nat.reduceMul, Nat.reduceLT, Nat.reduceLeDiff, reduceCtorEq, eq_self, K.isEff, List.reduceReplicate]
        refine ⟨by decide, DecodeReply_l1 b hb hl so ko err words l o (by omega) s1 t1 20 false sz tt ys h1 (.inl rfl) hsz hyl hya _ _ ((weak_cell (id := 2) (j := 2) (v := .sl 3 0 i g' 20) (x := .lst 20 false ys) (H1 := [.box [.t (.int .i64 0), .t (.lst 0 true []), .t (.lst 0 true []), .t (.lst 0 true []), .t (.int .i64 0), .t (.int .i64 0), .t (.int .i64 0), .t (.int .i64 0), .t (.int .i64 0), .t (.int .i64 0), .t (.int .i64 0)], rbox b so, .box [.t (.int .i64 err), .t (.lst s1 t1 (Ns words)), (.sl 3 0 i g' 20), .t (.lst 0 true []), .t (.int .i64 0), .t (.int .i64 0), .t (.int .i64 0), .t (.int .i64 0), .t (.int .i64 0), .t (.int .i64 0), .t (.int .i64 0)], .frz 20 g' ys]) rfl rfl (by rw [toT_sl]; simp [rowOf, hyt, rbox])).trans (weak_keep (slots := [2, 4, 5, 8, 9]) (keep := [0, 1, 2]) (by simp [keepOk]))) ?_⟩
        simp [rbox, hyX, gcSt, keepOk, finG, resV, resOne, resAll, idx, V.ren, V.renL, Obj.ren, get_cons, get_nil, RTree, RTup, RRow]
        try rfl
      · have d2 : decide (((o.length % 2 : Nat) : Int) = 0) = false := decide_eq_false (by omega)
        rw [if_neg hpar]
        obtain ⟨oa, ob⟩ := so
        unfold rbox
        simp (maxSteps := 4000000) -implicitDefEqProofs (disch := omega) only [Ns_length, rem2, d2, putAt_zero, putAt_succ, ↓sxPre, sxPost, sxLib, if_true, if_false, Nat.reduceEqDiff, ↓reduceIte, Nat.reduceAdd, Nat.reduceSub, Nat.reduceMul, Nat.reduceLT, Nat.reduceLeDiff, reduceCtorEq, eq_self, K.isEff, List.reduceReplicate]
        refine ⟨by decide, DecodeReply_l1 b hb hl (oa, true) ko err words l o (by omega) s1 t1 20 false sz tt ys h1 (.inl rfl) hsz hyl hya _ _ ((weak_cell (id := 2) (j := 2) (v := .sl 3 0 i g' 20) (x := .lst 20 false ys) (H1 := [.box [.t (.int .i64 0), .t (.lst 0 true []), .t (.lst 0 true []), .t (.lst 0 true []), .t (.int .i64 0), .t (.int .i64 0), .t (.int .i64 0), .t (.int .i64 0), .t (.int .i64 0), .t (.int .i64 0), .t (.int .i64 0)], rbox b (oa, true), .box [.t (.int .i64 err), .t (.lst s1 t1 (Ns words)), (.sl 3 0 i g' 20), .t (.lst 0 true []), .t (.int .i64 0), .t (.int .i64 0), .t (.int .i64 0), .t (.int .i64 0), .t (.int .i64 0), .t (.int .i64 0), .t (.int .i64 0)], .frz 20 g' ys]) rfl rfl (by rw [toT_sl]; simp [rowOf, hyt, rbox])).trans (weak_keep (slots := [2, 4, 5, 8, 9]) (keep := [0, 1, 2]) (by simp [keepOk]))) ?_⟩
        simp [rbox, hyX, gcSt, keepOk, finG, resV, resOne, resAll, idx, V.ren, V.renL, Obj.ren, get_cons, get_nil, RTree, RTup, RRow]
        try rfl
    · have hy0 : ys = [] := List.length_eq_zero_iff.1 (by rw [hyl, hl0]; rfl)
      have hyX := hy0
      simp (maxSteps := 4000000) -implicitDefEqProofs (disch := omega) only [d1, ↓sxPre, sxPost, sxLib, if_true, if_false, Nat.reduceEqDiff, ↓reduceIte, Nat.reduceAdd, Nat.reduceSub, Nat.reduceMul, Nat.reduceLT, Nat.reduceLeDiff, reduceCtorEq, eq_self, K.isEff, List.reduceReplicate]
      refine step_intsT (b := b) (x := (o, so)) 1 (by simp) ?_ (fun sz tt hsz => ?_)
      · simpa [V.ren, V.renL, idx, Abs.get, ev, sub, rbox, Obj.ren] using cO
      by_cases hpar : o.length % 2 = 0
      · have d2 : decide (((o.length % 2 : Nat) : Int) = 0) = true := decide_eq_true (by omega)
        rw [if_pos hpar]
        simp (maxSteps := 4000000) -implicitDefEqProofs (disch := omega) only [Ns_length, rem2, d2, ↓sxPre, sxPost, sxLib, if_true, if_false, Nat.reduceEqDiff, ↓reduceIte, Nat.reduceAdd, Nat.reduceSub, Nat.reduceMul, Nat.reduceLT, Nat.reduceLeDiff, reduceCtorEq, eq_self, K.isEff, List.reduceReplicate]
        refine ⟨by decide, DecodeReply_l1 b hb hl so ko err words l o (by omega) s1 t1 0 true sz tt ys h1 (.inr hl0) hsz hyl hya _ _ (weak_keep (slots := [2, 4, 5, 8, 9]) (keep := [0, 1, 2]) (by simp [keepOk])) ?_⟩
        simp [rbox, hyX, gcSt, keepOk, finG, resV, resOne, resAll, idx, V.ren, V.renL, Obj.ren, get_cons, get_nil, RTree, RTup, RRow]
        try rfl
      · have d2 : decide (((o.length % 2 : Nat) : Int) = 0) = false := decide_eq_false (by omega)
        rw [if_neg hpar]
        obtain ⟨oa, ob⟩ := so
        unfold rbox
        simp (maxSteps := 4000000) -implicitDefEqProofs (disch := omega) only [Ns_length, rem2, d2, putAt_zero, putAt_succ, ↓sxPre, sxPost, sxLib, if_true, if_false, Nat.reduceEqDiff, ↓reduceIte, Nat.reduceAdd, Nat.reduceSub, Nat.reduceMul, Nat.reduceLT, Nat.reduceLeDiff, reduceCtorEq, eq_self, K.isEff, List.reduceReplicate]
        refine ⟨by decide, DecodeReply_l1 b hb hl (oa, true) ko err words l o (by omega) s1 t1 0 true sz tt ys h1 (.inr hl0) hsz hyl hya _ _ (weak_keep (slots := [2, 4, 5, 8, 9]) (keep := [0, 1, 2]) (by simp [keepOk])) ?_⟩
        simp [rbox, hyX, gcSt, keepOk, finG, resV, resOne, resAll, idx, V.ren, V.renL, Obj.ren, get_cons, get_nil, RTree, RTup, RRow]
        try rfl
    · have hyX := hyl
      simp (maxSteps := 4000000) -implicitDefEqProofs (disch := omega) only [d1, ↓sxPre, sxPost, sxLib, if_true, if_false, Nat.reduceEqDiff, ↓reduceIte, Nat.reduceAdd, Nat.reduceSub, Nat.reduceMul, Nat.reduceLT, Nat.reduceLeDiff, reduceCtorEq, eq_self, K.isEff, List.reduceReplicate]
      refine step_intsT (b := b) (x := (o, so)) 1 (by simp) ?_ (fun sz tt hsz => ?_)
      · simpa [V.ren, V.renL, idx, Abs.get, ev, sub, rbox, Obj.ren] using cO
      by_cases hpar : o.length % 2 = 0
      · have d2 : decide (((o.length % 2 : Nat) : Int) = 0) = true := decide_eq_true (by omega)
        rw [if_pos hpar]
        simp (maxSteps := 4000000) -implicitDefEqProofs (disch := omega) only [Ns_length, rem2, d2, ↓sxPre, sxPost, sxLib, if_true, if_false, Nat.reduceEqDiff, ↓reduceIte, Nat.reduceAdd, Nat.reduceSub, Nat.reduceMul, Nat.reduceLT, Nat.reduceLeDiff, reduceCtorEq, eq_self, K.isEff, List.reduceReplicate]
        refine ⟨by decide, DecodeReply_l1 b hb hl so ko err words l o (by omega) s1 t1 20 false sz tt ys h1 (.inl rfl) hsz hyl hya _ _ ((weak_cell (id := 2) (j := 2) (v := .sl 3 0 i g' 20) (x := .lst 20 false ys) (H1 := [.box [.t (.int .i64 0), .t (.lst 0 true []), .t (.lst 0 true []), .t (.lst 0 true []), .t (.int .i64 0), .t (.int .i64 0), .t (.int .i64 0), .t (.int .i64 0), .t (.int .i64 0), .t (.int .i64 0), .t (.int .i64 0)], rbox b so, .box [.t (.int .i64 err), .t (.lst s1 t1 (Ns words)), (.sl 3 0 i g' 20), .t (.lst 0 true []), .t (.int .i64 0), .t (.int .i64 0), .t (.int .i64 0), .t (.int .i64 0), .t (.int .i64 0), .t (.int .i64 0), .t (.int .i64 0)], .frz 20 g' ys]) rfl rfl (by rw [toT_sl]; simp [rowOf, hyt, rbox])).trans (weak_keep (slots := [2, 4, 5, 8, 9]) (keep := [0, 1, 2]) (by simp [keepOk]))) ?_⟩
        simp [rbox, hyX, gcSt, keepOk, finG, resV, resOne, resAll, idx, V.ren, V.renL, Obj.ren, get_cons, get_nil, RTree, RTup, RRow]
        try rfl
      · have d2 : decide (((o.length % 2 : Nat) : Int) = 0) = false := decide_eq_false (by omega)
        rw [if_neg hpar]
        obtain ⟨oa, ob⟩ := so
        unfold rbox
        simp (maxSteps := 4000000) -implicitDefEqProofs (disch := omega) only [Ns_length, rem2, d2, putAt_zero, putAt_succ, ↓sxPre, sxPost, sxLib, if_true, if_false, Nat.reduceEqDiff, ↓reduceIte, Nat.reduceAdd, Nat.reduceSub, Nat.reduceMul, Nat.reduceLT, Nat.reduceLeDiff, reduceCtorEq, eq_self, K.isEff, List.reduceReplicate]
        refine ⟨by decide, DecodeReply_l1 b hb hl (oa, true) ko err words l o (by omega) s1 t1 20 false sz tt ys h1 (.inl rfl) hsz hyl hya _ _ ((weak_cell (id := 2) (j := 2) (v := .sl 3 0 i g' 20) (x := .lst 20 false ys) (H1 := [.box [.t (.int .i64 0), .t (.lst 0 true []), .t (.lst 0 true []), .t (.lst 0 true []), .t (.int .i64 0), .t (.int .i64 0), .t (.int .i64 0), .t (.int .i64 0), .t (.int .i64 0), .t (.int .i64 0), .t (.int .i64 0)], rbox b (oa, true), .box [.t (.int .i64 err), .t (.lst s1 t1 (Ns words)), (.sl 3 0 i g' 20), .t (.lst 0 true []), .t (.int .i64 0), .t (.int .i64 0), .t (.int .i64 0), .t (.int .i64 0), .t (.int .i64 0), .t (.int .i64 0), .t (.int .i64 0)], .frz 20 g' ys]) rfl rfl (by rw [toT_sl]; simp [rowOf, hyt, rbox])).trans (weak_keep (slots := [2, 4, 5, 8, 9]) (keep := [0, 1, 2]) (by simp [keepOk]))) ?_⟩
        simp [rbox, hyX, gcSt, keepOk, finG, resV, resOne, resAll, idx, V.ren, V.renL, Obj.ren, get_cons, get_nil, RTree, RTup, RRow]
        try rfl

/-- What DecodeReply makes of bytes. -/
def decR (b : List Int) : Rp × Int :=
  afterThs b (rdN (RI b) (0, false)).1 (rdInts b 128 (rdN (RI b) (0, false)).2).1
    (rdThs b (rdN (RU b) (rdInts b 128 (rdN (RI b) (0, false)).2).2).1.toNat
      (if 8 < (rdN (RU b) (rdInts b 128 (rdN (RI b) (0, false)).2).2).1 then ((rdN (RU b) (rdInts b 128 (rdN (RI b) (0, false)).2).2).2.1, true) else (rdN (RU b) (rdInts b 128 (rdN (RI b) (0, false)).2).2).2))

theorem DecodeReply_sc (b : List Int) (hb : Bytes b) (hl : b.length ≤ 2 ^ 40) : SCall PP N.message_DecodeReply [.t (.lst 1 false (B b))] [] (RDecR (decR b)) := by
  refine message_DecodeReply.intro (by simp) ?_
  have h0 : SOk b (0, false) := ⟨by simp, by simp⟩
  have c1 := numI_sc b hb hl (0, false) h0
  obtain ⟨k1, _⟩ := rdI_ok hb h0
  unfold decR
  generalize rdN (RI b) (0, false) = x1 at *
  obtain ⟨err, t1⟩ := x1
  simp only at k1 ⊢
  have c2 := ints_scT b hb hl t1 k1 128 (by decide)
  obtain ⟨k2, _⟩ := rdInts_ok hb 128 k1
  generalize rdInts b 128 t1 = x2 at *
  obtain ⟨words, t2⟩ := x2
  simp only at k2 ⊢
  have c3 := numU_sc b hb hl t2 k2
  obtain ⟨k3, k4, k5⟩ := rdU_ok hb k2
  generalize rdN (RU b) t2 = x3 at *
  obtain ⟨n, t3⟩ := x3
  simp only at k3 k4 k5 ⊢
  have c1' : SCall PP N.message_reader_number [.ref 0 0, .fn N.wire_Int []] [rbox b (0, false)] (RNum b (err, t1)) := c1
  simp (maxSteps := 4000000) -implicitDefEqProofs (disch := omega) only [stepK_build', fillV, putAt_zero, putAt_succ, ↓sxPre, sxPost, sxLib, if_true, if_false, Nat.reduceEqDiff, ↓reduceIte, Nat.reduceAdd, Nat.reduceSub, Nat.reduceMul, Nat.reduceLT, Nat.reduceLeDiff, reduceCtorEq, eq_self, K.isEff, List.reduceReplicate]
  refine step_num (b := b) (x := (err, t1)) 1 (by simp) ?_ ?_
  · simpa [V.ren, V.renL, idx, Abs.get, ev, sub, rbox, Obj.ren] using c1'
  simp (maxSteps := 4000000) -implicitDefEqProofs (disch := omega) only [↓sxPre, sxPost, sxLib, if_true, if_false, Nat.reduceEqDiff, ↓reduceIte, Nat.reduceAdd, Nat.reduceSub, Nat.reduceMul, Nat.reduceLT, Nat.reduceLeDiff, reduceCtorEq, eq_self, K.isEff, List.reduceReplicate]
  refine step_intsT (b := b) (x := (words, t2)) 1 (by simp) ?_ (fun sz t hsz => ?_)
  · simpa [V.ren, V.renL, idx, Abs.get, ev, sub, rbox, Obj.ren] using c2
  simp (maxSteps := 4000000) -implicitDefEqProofs (disch := omega) only [stepK_build', fillV, putAt_zero, putAt_succ, ↓sxPre, sxPost, sxLib, if_true, if_false, Nat.reduceEqDiff, ↓reduceIte, Nat.reduceAdd, Nat.reduceSub, Nat.reduceMul, Nat.reduceLT, Nat.reduceLeDiff, reduceCtorEq, eq_self, K.isEff, List.reduceReplicate]
  refine step_num (b := b) (x := (n, t3)) 1 (by simp) ?_ ?_
  · simpa [V.ren, V.renL, idx, Abs.get, ev, sub, rbox, Obj.ren] using c3
  by_cases hn : 8 < n
  · have d1 : decide ((8 : Int) < n) = true := decide_eq_true hn
    rw [if_pos hn]
    obtain ⟨ta, tb⟩ := t3
    unfold rbox
    simp (maxSteps := 4000000) -implicitDefEqProofs (disch := omega) only [d1, putAt_zero, putAt_succ, ↓sxPre, sxPost, sxLib, if_true, if_false, Nat.reduceEqDiff, ↓reduceIte, Nat.reduceAdd, Nat.reduceSub, Nat.reduceMul, Nat.reduceLT, Nat.reduceLeDiff, reduceCtorEq, eq_self, K.isEff, List.reduceReplicate]
    refine DecodeReply_l0 b hb hl (ta, true) k3 n (.inr rfl) k4 err words sz t hsz _ (by simp [keepOk]) ?_
    simp [rbox, gcSt, keepOk, finG, resV, resOne, resAll, idx, V.ren, V.renL, Obj.ren, get_cons, get_nil, RTree, RTup, RRow]
  · have d1 : decide ((8 : Int) < n) = false := decide_eq_false hn
    rw [if_neg hn]
    simp (maxSteps := 4000000) -implicitDefEqProofs (disch := omega) only [d1, ↓sxPre, sxPost, sxLib, if_true, if_false, Nat.reduceEqDiff, ↓reduceIte, Nat.reduceAdd, Nat.reduceSub, Nat.reduceMul, Nat.reduceLT, Nat.reduceLeDiff, reduceCtorEq, eq_self, K.isEff, List.reduceReplicate]
    refine DecodeReply_l0 b hb hl t3 k3 n (.inl (by omega)) k4 err words sz t hsz _ (by simp [keepOk]) ?_
    simp [rbox, gcSt, keepOk, finG, resV, resOne, resAll, idx, V.ren, V.renL, Obj.ren, get_cons, get_nil, RTree, RTup, RRow]
end Go.Proofs.Ytljjabccgbakgaa

/- Messages: replies that are compared. By the session itself. -/
namespace Go.Proofs.Ytljjabccgbakgaa
open Go Go.Abs
set_option maxRecDepth 100000
set_option maxHeartbeats 4000000
set_option linter.unusedSimpArgs false
set_option linter.unusedVariables false

theorem Out_sc (a b : List (Int × Int)) (s1 s2 : Nat) (t1 t2 : Bool) (h1 : s1 = 2 ∨ a = []) (h2 : s2 = 2 ∨ b = []) (ha : I64s (flatO a)) (hb : I64s (flatO b)) (hl : a.length < 2 ^ 62) :
    SCall PP N.debuggerequal_SameOutput [.t (.lst s1 t1 (Ps a)), .t (.lst s2 t2 (Ps b))] [] (RTree (.bool (decide (a = b)))) := by
  refine debuggerequal_SameOutput.intro (by simp) ?_
  simp (maxSteps := 4000000) -implicitDefEqProofs (disch := omega) only [Ps_length, ↓sxPre, sxPost, sxLib, if_true, if_false, Nat.reduceEqDiff, ↓reduceIte, Nat.reduceAdd, Nat.reduceSub, Nat.reduceMul, Nat.reduceLT, Nat.reduceLeDiff, reduceCtorEq, eq_self, K.isEff, List.reduceReplicate]
  refine condV_ndec (fun h => ?_) fun h => ?_
  · refine finK_gc [] ?_
    have : ¬ a = b := by rintro rfl; exact h rfl
    simp [this, gcSt, keepOk, finG, resV, resOne, resAll, idx, V.ren, V.renL, Obj.ren, get_cons, get_nil, RTree, RTup, RRow]
  · have hll : a.length = b.length := by omega
    refine wpC_loop_gc [0, 1, 5] [] (fun m s => ∃ i : Nat, m + i = a.length ∧ a.take i = b.take i ∧ s = ⟨[(0, .t (.lst s1 t1 (Ps a))), (1, .t (.lst s2 t2 (Ps b))), (5, .t (.int .i64 i))], []⟩) a.length
      ⟨by simp [gcSt, keepOk, finG, resV, resOne, resAll, idx, V.ren, V.renL, Obj.ren, get_cons, get_nil, RTree, RTup, RRow], 0, by omega, by simp, by simp [gcSt, keepOk, finG, resV, resOne, resAll, idx, V.ren, V.renL, Obj.ren, get_cons, get_nil, RTree, RTup, RRow]⟩ ?_
    rintro m s ⟨i, hm, heq, rfl⟩
    by_cases hi : i < a.length
    · have hi' : (i : Int) < a.length := by omega
      have hib : i < b.length := by omega
      have hib' : (i : Int) < b.length := by omega
      have k1 : s1 = 2 := h1.resolve_right (by rintro rfl; simp at hi)
      have k2 : s2 = 2 := h2.resolve_right (by rintro rfl; simp at hib)
      subst k1 k2
      have m1 : ∀ x ∈ [(a[i]'hi).1, (a[i]'hi).2], -2 ^ 63 ≤ x ∧ x < 2 ^ 63 := fun x hx => ha x (List.mem_flatMap.2 ⟨_, List.getElem_mem hi, hx⟩)
      have m2 : ∀ x ∈ [(b[i]'hib).1, (b[i]'hib).2], -2 ^ 63 ≤ x ∧ x < 2 ^ 63 := fun x hx => hb x (List.mem_flatMap.2 ⟨_, List.getElem_mem hib, hx⟩)
      have hE : ∀ (H : Heap) (k : V → Heap → Prop), stepK H (.aggEq true [.int .i64, .int .i64]) [.agg [.t (.int .i64 (a[i]'hi).1), .t (.int .i64 (a[i]'hi).2)], .agg [.t (.int .i64 (b[i]'hib).1), .t (.int .i64 (b[i]'hib).2)]] k = k (.t (.bool (!decide (a[i]'hi = b[i]'hib)))) H := by
        intro H k
        have := kaggEq_ints (neg := true) (ss := [.int .i64, .int .i64]) (l := [(a[i]'hi).1, (a[i]'hi).2]) (m := [(b[i]'hib).1, (b[i]'hib).2]) rfl rfl (by simp) m1 m2 (H := H) (k := k)
        have e : decide ([(a[i]'hi).1, (a[i]'hi).2] = [(b[i]'hib).1, (b[i]'hib).2]) = decide (a[i]'hi = b[i]'hib) := by
          simp [Prod.ext_iff]
        rw [e] at this
        exact this
      simp (maxSteps := 4000000) -implicitDefEqProofs (disch := omega) only [Ps_length, hi', hib', Int.toNat_natCast, at_Ps hi, at_Ps hib, hE, ↓sxPre, sxPost, sxLib, if_true, if_false, Nat.reduceEqDiff, ↓reduceIte, Nat.reduceAdd, Nat.reduceSub, Nat.reduceMul, Nat.reduceLT, Nat.reduceLeDiff, reduceCtorEq, eq_self, K.isEff, List.reduceReplicate]
      refine ⟨by omega, by omega, condV_ndec (fun hne => ?_) fun he => ?_⟩
      · refine finK_gc [] ?_
        have : ¬ a = b := by rintro rfl; exact hne rfl
        simp [this, gcSt, keepOk, finG, resV, resOne, resAll, idx, V.ren, V.renL, Obj.ren, get_cons, get_nil, RTree, RTup, RRow]
      · refine ⟨m - 1, by omega, by simp [gcSt, keepOk, finG, resV, resOne, resAll, idx, V.ren, V.renL, Obj.ren, get_cons, get_nil, RTree, RTup, RRow], i + 1, by omega, ?_, by simp [gcSt, keepOk, finG, resV, resOne, resAll, idx, V.ren, V.renL, Obj.ren, get_cons, get_nil, RTree, RTup, RRow]⟩
        rw [List.take_succ_eq_append_getElem hi, List.take_succ_eq_append_getElem hib, heq, he]
    · have hi' : ¬ (i : Int) < a.length := by omega
      simp (maxSteps := 4000000) -implicitDefEqProofs (disch := omega) only [Ps_length, hi', ↓sxPre, sxPost, sxLib, if_true, if_false, Nat.reduceEqDiff, ↓reduceIte, Nat.reduceAdd, Nat.reduceSub, Nat.reduceMul, Nat.reduceLT, Nat.reduceLeDiff, reduceCtorEq, eq_self, K.isEff, List.reduceReplicate]
      refine finK_gc [] ?_
      rw [List.take_of_length_le (by omega), List.take_of_length_le (by omega)] at heq
      simp [heq, gcSt, keepOk, finG, resV, resOne, resAll, idx, V.ren, V.renL, Obj.ren, get_cons, get_nil, RTree, RTup, RRow]

theorem Th.facts4 {q : Th} (h : q.Ok) (sz : Nat) (t : Bool) (C : List T) (hC : C = q.cells sz t) :
    C.length = 20 ∧ T.at C 0 = .int .i64 q.st ∧ C.drop 18 = [.int .i64 q.fn, .lst sz t (Ns q.args)] ∧ (C.drop 1).take 17 = Ns (q.r ++ [q.pc]) ∧ C.drop 19 = [.lst sz t (Ns q.args)] ∧ I64s (q.r ++ [q.pc]) ∧ (q.r ++ [q.pc]).length = 17 := by
  obtain ⟨st, fn, pc, r, args⟩ := q
  have hr : r.length = 16 := h.2.2.2.1
  have hpc : I64 pc := h.2.2.1
  have hri : I64s r := h.2.2.2.2.1
  subst hC
  simp only [Th.cells]
  refine ⟨by simp [Ns, hr], rfl, ?_, ?_, ?_, ?_, by simp [hr]⟩
  · match r, hr with
    | [b0, b1, b2, b3, b4, b5, b6, b7, b8, b9, b10, b11, b12, b13, b14, b15], _ => rfl
  · match r, hr with
    | [b0, b1, b2, b3, b4, b5, b6, b7, b8, b9, b10, b11, b12, b13, b14, b15], _ => rfl
  · match r, hr with
    | [b0, b1, b2, b3, b4, b5, b6, b7, b8, b9, b10, b11, b12, b13, b14, b15], _ => rfl
  · intro x hx
    rcases List.mem_append.1 hx with hx | hx
    · exact hri x hx
    · rw [List.mem_singleton.1 hx]; exact hpc

theorem Ths_sc (a b : List Th) (s1 s2 : Nat) (t1 t2 : Bool) (xs ys : List T) (h1 : s1 = 20 ∨ a = []) (h2 : s2 = 20 ∨ b = []) (hxl : xs.length = a.length) (hyl : ys.length = b.length)
    (hxa : ∀ i (h : i < a.length), (a[i]'h).At (T.at xs i)) (hyb : ∀ i (h : i < b.length), (b[i]'h).At (T.at ys i)) (ha : ∀ q ∈ a, q.Ok ∧ q.args.length < 2 ^ 62) (hb : ∀ q ∈ b, q.Ok) (hl : a.length < 2 ^ 62) :
    SCall PP N.debuggerequal_SameThreads [.t (.lst s1 t1 xs), .t (.lst s2 t2 ys)] [] (RTree (.bool (decide (a = b)))) := by
  refine debuggerequal_SameThreads.intro (by simp) ?_
  simp (maxSteps := 4000000) -implicitDefEqProofs (disch := omega) only [hxl, hyl, ↓sxPre, sxPost, sxLib, if_true, if_false, Nat.reduceEqDiff, ↓reduceIte, Nat.reduceAdd, Nat.reduceSub, Nat.reduceMul, Nat.reduceLT, Nat.reduceLeDiff, reduceCtorEq, eq_self, K.isEff, List.reduceReplicate]
  refine condV_ndec (fun h => ?_) fun h => ?_
  · refine finK_gc [] ?_
    have : ¬ a = b := by rintro rfl; exact h rfl
    simp [this, gcSt, keepOk, finG, resV, resOne, resAll, idx, V.ren, V.renL, Obj.ren, get_cons, get_nil, RTree, RTup, RRow]
  · have hll : a.length = b.length := by omega
    refine wpC_loop_gc [0, 1, 5] [] (fun m s => ∃ i : Nat, m + i = a.length ∧ a.take i = b.take i ∧ s = ⟨[(0, .t (.lst s1 t1 xs)), (1, .t (.lst s2 t2 ys)), (5, .t (.int .i64 i))], []⟩) a.length
      ⟨by simp [gcSt, keepOk, finG, resV, resOne, resAll, idx, V.ren, V.renL, Obj.ren, get_cons, get_nil, RTree, RTup, RRow], 0, by omega, by simp, by simp [gcSt, keepOk, finG, resV, resOne, resAll, idx, V.ren, V.renL, Obj.ren, get_cons, get_nil, RTree, RTup, RRow]⟩ ?_
    rintro m s ⟨i, hm, heq, rfl⟩
    by_cases hi : i < a.length
    · have hi' : (i : Int) < a.length := by omega
      have hib : i < b.length := by omega
      have hib' : (i : Int) < b.length := by omega
      have d1 : decide ((i : Int) < a.length) = true := decide_eq_true hi'
      have k1 : s1 = 20 := h1.resolve_right (by rintro rfl; simp at hi)
      have k2 : s2 = 20 := h2.resolve_right (by rintro rfl; simp at hib)
      subst k1 k2
      obtain ⟨sz1, tt1, hz1, hat1⟩ := hxa i hi
      obtain ⟨sz2, tt2, hz2, hat2⟩ := hyb i hib
      have ok1 := ha _ (List.getElem_mem hi)
      have ok2 := hb _ (List.getElem_mem hib)
      have hne : a[i]'hi ≠ b[i]'hib → ¬ a = b := by intro h e; subst e; exact h rfl
      have heq' : a[i]'hi = b[i]'hib → a.take (i + 1) = b.take (i + 1) := by
        intro e; rw [List.take_succ_eq_append_getElem hi, List.take_succ_eq_append_getElem hib, heq, e]
      generalize a[i]'hi = q1 at *
      generalize b[i]'hib = q2 at *
      obtain ⟨f1, f2, f3, f4, f5, f6, f7⟩ := q1.facts4 ok1.1 sz1 tt1 _ rfl
      obtain ⟨e1, e2, e3, e4, e5, e6, e7⟩ := q2.facts4 ok2 sz2 tt2 _ rfl
      have cI := Ints_sc q1.args q2.args sz1 sz2 tt1 tt2 hz1 hz2 ok1.2
      have hE : ∀ (H : Heap) (k : V → Heap → Prop), stepK H (.aggEq true [.int .i64, .int .i64, .int .i64, .int .i64, .int .i64, .int .i64, .int .i64, .int .i64, .int .i64, .int .i64, .int .i64, .int .i64, .int .i64, .int .i64, .int .i64, .int .i64, .int .i64]) [.agg ((Ns (q1.r ++ [q1.pc])).map V.t), .agg ((Ns (q2.r ++ [q2.pc])).map V.t)] k = k (.t (.bool (!decide (q1.r ++ [q1.pc] = q2.r ++ [q2.pc])))) H := by
        intro H k
        exact kaggEq_ints (neg := true) (by rw [f7]; rfl) (by rw [e7]; rfl) (by simp) f6 e6
      have hqe : q1.st = q2.st ∧ q1.fn = q2.fn ∧ q1.r ++ [q1.pc] = q2.r ++ [q2.pc] ∧ q1.args = q2.args → q1 = q2 := by
        rintro ⟨g1, g2, g3, g4⟩
        obtain ⟨a1, a2, a3, a4, a5⟩ := q1
        obtain ⟨b1, b2, b3, b4, b5⟩ := q2
        have := List.append_inj' g3 rfl
        simp at g1 g2 g4 this
        simp [g1, g2, g4, this]
      generalize q1.cells sz1 tt1 = C1 at *
      generalize q2.cells sz2 tt2 = C2 at *
      have hd1 : 17 ≤ (C1.drop 1).length := by rw [List.length_drop, f1]; omega
      have hd2 : 17 ≤ (C2.drop 1).length := by rw [List.length_drop, e1]; omega
      by_cases g : q1.st = q2.st ∧ q1.fn = q2.fn ∧ q1.r ++ [q1.pc] = q2.r ++ [q2.pc]
      · obtain ⟨g1, g2, g3⟩ := g
        have d2 : decide (q1.st = q2.st) = true := decide_eq_true g1
        have d3 : decide (q1.fn = q2.fn) = true := decide_eq_true g2
        have d4 : decide (q1.r ++ [q1.pc] = q2.r ++ [q2.pc]) = true := decide_eq_true g3
        simp (maxSteps := 4000000) -implicitDefEqProofs (disch := omega) only [hxl, hyl, d1, Int.toNat_natCast, hat1, hat2, f1, f2, f3, f4, f5, e1, e2, e3, e4, e5, at_zero, d2, d3, d4, hE, ↓sxPre, sxPost, sxLib, if_true, if_false, Nat.reduceEqDiff, ↓reduceIte, Nat.reduceAdd, Nat.reduceSub, Nat.reduceMul, Nat.reduceLT, Nat.reduceLeDiff, reduceCtorEq, eq_self, K.isEff, List.reduceReplicate]
        refine ⟨⟨by omega, by omega⟩, ⟨by omega, by omega⟩, ⟨by omega, by omega⟩, ⟨by omega, by omega⟩, ⟨by omega, by omega⟩, hd1, ⟨by omega, by omega⟩, hd2, ⟨by omega, by omega⟩, ⟨by omega, by omega⟩, ?_⟩
        refine step_eff (step_guard rfl (fun _ => step_tree cI rfl ?_) (fun h => absurd rfl h))
        by_cases ga : q1.args = q2.args
        · have d5 : decide (q1.args = q2.args) = true := decide_eq_true ga
          have hq : q1 = q2 := hqe ⟨g1, g2, g3, ga⟩
          rw [d5]
          simp (maxSteps := 4000000) -implicitDefEqProofs (disch := omega) only [↓sxPre, sxPost, sxLib, if_true, if_false, Nat.reduceEqDiff, ↓reduceIte, Nat.reduceAdd, Nat.reduceSub, Nat.reduceMul, Nat.reduceLT, Nat.reduceLeDiff, reduceCtorEq, eq_self, K.isEff, List.reduceReplicate]
          exact ⟨m - 1, by omega, by simp [gcSt, keepOk, finG, resV, resOne, resAll, idx, V.ren, V.renL, Obj.ren, get_cons, get_nil, RTree, RTup, RRow], i + 1, by omega, heq' hq, by simp [gcSt, keepOk, finG, resV, resOne, resAll, idx, V.ren, V.renL, Obj.ren, get_cons, get_nil, RTree, RTup, RRow]⟩
        · have d5 : decide (q1.args = q2.args) = false := decide_eq_false ga
          have hq : ¬ a = b := hne (by rintro rfl; exact ga rfl)
          rw [d5]
          simp (maxSteps := 4000000) -implicitDefEqProofs (disch := omega) only [↓sxPre, sxPost, sxLib, if_true, if_false, Nat.reduceEqDiff, ↓reduceIte, Nat.reduceAdd, Nat.reduceSub, Nat.reduceMul, Nat.reduceLT, Nat.reduceLeDiff, reduceCtorEq, eq_self, K.isEff, List.reduceReplicate]
          refine finK_gc [] ?_
          simp [hq, gcSt, keepOk, finG, resV, resOne, resAll, idx, V.ren, V.renL, Obj.ren, get_cons, get_nil, RTree, RTup, RRow]
      · have hq : ¬ a = b := hne (by rintro rfl; exact g ⟨rfl, rfl, rfl⟩)
        clear heq' hne hqe
        cases d2 : decide (q1.st = q2.st) with
        | false =>
          simp (maxSteps := 4000000) -implicitDefEqProofs (disch := omega) only [hxl, hyl, d1, Int.toNat_natCast, hat1, hat2, f1, f2, f3, f4, f5, e1, e2, e3, e4, e5, at_zero, d2, hE, ↓sxPre, sxPost, sxLib, if_true, if_false, Nat.reduceEqDiff, ↓reduceIte, Nat.reduceAdd, Nat.reduceSub, Nat.reduceMul, Nat.reduceLT, Nat.reduceLeDiff, reduceCtorEq, eq_self, K.isEff, List.reduceReplicate]
          refine ⟨⟨by omega, by omega⟩, ⟨by omega, by omega⟩, step_eff (step_guard rfl (fun h => absurd h (by decide)) (fun _ => ?_))⟩
          simp (maxSteps := 4000000) -implicitDefEqProofs (disch := omega) only [↓sxPre, sxPost, sxLib, if_true, if_false, Nat.reduceEqDiff, ↓reduceIte, Nat.reduceAdd, Nat.reduceSub, Nat.reduceMul, Nat.reduceLT, Nat.reduceLeDiff, reduceCtorEq, eq_self, K.isEff, List.reduceReplicate]
          refine finK_gc [] ?_
          simp [hq, gcSt, keepOk, finG, resV, resOne, resAll, idx, V.ren, V.renL, Obj.ren, get_cons, get_nil, RTree, RTup, RRow]
        | true =>
          cases d3 : decide (q1.fn = q2.fn) with
          | false =>
            simp (maxSteps := 4000000) -implicitDefEqProofs (disch := omega) only [hxl, hyl, d1, Int.toNat_natCast, hat1, hat2, f1, f2, f3, f4, f5, e1, e2, e3, e4, e5, at_zero, d2, d3, hE, ↓sxPre, sxPost, sxLib, if_true, if_false, Nat.reduceEqDiff, ↓reduceIte, Nat.reduceAdd, Nat.reduceSub, Nat.reduceMul, Nat.reduceLT, Nat.reduceLeDiff, reduceCtorEq, eq_self, K.isEff, List.reduceReplicate]
            refine ⟨⟨by omega, by omega⟩, ⟨by omega, by omega⟩, ⟨by omega, by omega⟩, ⟨by omega, by omega⟩, step_eff (step_guard rfl (fun h => absurd h (by decide)) (fun _ => ?_))⟩
            simp (maxSteps := 4000000) -implicitDefEqProofs (disch := omega) only [↓sxPre, sxPost, sxLib, if_true, if_false, Nat.reduceEqDiff, ↓reduceIte, Nat.reduceAdd, Nat.reduceSub, Nat.reduceMul, Nat.reduceLT, Nat.reduceLeDiff, reduceCtorEq, eq_self, K.isEff, List.reduceReplicate]
            refine finK_gc [] ?_
            simp [hq, gcSt, keepOk, finG, resV, resOne, resAll, idx, V.ren, V.renL, Obj.ren, get_cons, get_nil, RTree, RTup, RRow]
          | true =>
            have d4 : decide (q1.r ++ [q1.pc] = q2.r ++ [q2.pc]) = false := decide_eq_false fun h => g ⟨of_decide_eq_true d2, of_decide_eq_true d3, h⟩
            simp (maxSteps := 4000000) -implicitDefEqProofs (disch := omega) only [hxl, hyl, d1, Int.toNat_natCast, hat1, hat2, f1, f2, f3, f4, f5, e1, e2, e3, e4, e5, at_zero, d2, d3, d4, hE, ↓sxPre, sxPost, sxLib, if_true, if_false, Nat.reduceEqDiff, ↓reduceIte, Nat.reduceAdd, Nat.reduceSub, Nat.reduceMul, Nat.reduceLT, Nat.reduceLeDiff, reduceCtorEq, eq_self, K.isEff, List.reduceReplicate]
            refine ⟨⟨by omega, by omega⟩, ⟨by omega, by omega⟩, ⟨by omega, by omega⟩, ⟨by omega, by omega⟩, ⟨by omega, by omega⟩, hd1, ⟨by omega, by omega⟩, hd2, step_eff (step_guard rfl (fun h => absurd h (by decide)) (fun _ => ?_))⟩
            simp (maxSteps := 4000000) -implicitDefEqProofs (disch := omega) only [↓sxPre, sxPost, sxLib, if_true, if_false, Nat.reduceEqDiff, ↓reduceIte, Nat.reduceAdd, Nat.reduceSub, Nat.reduceMul, Nat.reduceLT, Nat.reduceLeDiff, reduceCtorEq, eq_self, K.isEff, List.reduceReplicate]
            refine finK_gc [] ?_
            simp [hq, gcSt, keepOk, finG, resV, resOne, resAll, idx, V.ren, V.renL, Obj.ren, get_cons, get_nil, RTree, RTup, RRow]
    · have hi' : ¬ (i : Int) < a.length := by omega
      simp (maxSteps := 4000000) -implicitDefEqProofs (disch := omega) only [hxl, hi', ↓sxPre, sxPost, sxLib, if_true, if_false, Nat.reduceEqDiff, ↓reduceIte, Nat.reduceAdd, Nat.reduceSub, Nat.reduceMul, Nat.reduceLT, Nat.reduceLeDiff, reduceCtorEq, eq_self, K.isEff, List.reduceReplicate]
      refine finK_gc [] ?_
      rw [List.take_of_length_le (by omega), List.take_of_length_le (by omega)] at heq
      simp [heq, gcSt, keepOk, finG, resV, resOne, resAll, idx, V.ren, V.renL, Obj.ren, get_cons, get_nil, RTree, RTup, RRow]

/-- Two replies that are compared. -/
theorem SameReply_sc (R R' : Rp) (cs cs' : List T) (hA : R.At cs) (hA' : R'.At cs') (hR : R.Ok) (hR' : R'.Ok) (hw : R.words.length < 2 ^ 62) (ht : R.ths.length < 2 ^ 62) (hta : ∀ q ∈ R.ths, q.args.length < 2 ^ 62) (ho : R.out.length < 2 ^ 62) :
    SCall PP N.debuggerequal_SameReply [.agg (cs.map V.t), .agg (cs'.map V.t)] [] (RTree (.bool (decide (R = R')))) := by
  refine debuggerequal_SameReply.intro (by simp) ?_
  obtain ⟨s1, t1, s2, t2, s3, t3, xs, h1, h2, h3, hx, ha, rfl⟩ := hA
  obtain ⟨s1', t1', s2', t2', s3', t3', xs', h1', h2', h3', hx', ha', rfl⟩ := hA'
  obtain ⟨err, words, ths, out, stop⟩ := R
  obtain ⟨err', words', ths', out', stop'⟩ := R'
  simp only at h1 h2 h3 hx h1' h2' h3' hx' hw ht hta ho ⊢
  obtain ⟨q0, q1, q2, q3, q4, q5, q6, rfl⟩ := seven hR.slen
  obtain ⟨p0, p1, p2, p3, p4, p5, p6, rfl⟩ := seven hR'.slen
  have c1 := Ints_sc words words' s1 s1' t1 t1' h1 h1' hw
  have c2 := Ths_sc ths ths' s2 s2' t2 t2' xs xs' h2 h2' hx hx' ha ha' (fun q hq => ⟨hR.ths q hq, hta q hq⟩) hR'.ths ht
  have c3 := Out_sc out out' s3 s3' t3 t3' h3 h3' hR.out hR'.out ho
  have hE : ∀ (H : Heap) (k : V → Heap → Prop), stepK H (.aggEq false [.int .i64, .int .i64, .int .i64, .int .i64, .int .i64, .int .i64, .int .i64]) [.agg [.t (.int .i64 q0), .t (.int .i64 q1), .t (.int .i64 q2), .t (.int .i64 q3), .t (.int .i64 q4), .t (.int .i64 q5), .t (.int .i64 q6)], .agg [.t (.int .i64 p0), .t (.int .i64 p1), .t (.int .i64 p2), .t (.int .i64 p3), .t (.int .i64 p4), .t (.int .i64 p5), .t (.int .i64 p6)]] k =
      k (.t (.bool (decide ([q0, q1, q2, q3, q4, q5, q6] = [p0, p1, p2, p3, p4, p5, p6])))) H := by
    intro H k
    exact kaggEq_ints (neg := false) (l := [q0, q1, q2, q3, q4, q5, q6]) (m := [p0, p1, p2, p3, p4, p5, p6]) rfl rfl (by simp) hR.stop hR'.stop
  obtain ⟨D, hD⟩ : ∃ D, D = decide ((⟨err, words, ths, out, [q0, q1, q2, q3, q4, q5, q6]⟩ : Rp) = ⟨err', words', ths', out', [p0, p1, p2, p3, p4, p5, p6]⟩) := ⟨_, rfl⟩
  rw [← hD]
  have hNs : ∀ a b c d e f g : Int, Ns [a, b, c, d, e, f, g] = [.int .i64 a, .int .i64 b, .int .i64 c, .int .i64 d, .int .i64 e, .int .i64 f, .int .i64 g] := fun _ _ _ _ _ _ _ => rfl
  simp only [hNs]
  cases g1 : decide (err = err')
  · have g1' := of_decide_eq_false g1
    obtain rfl : D = false := by rw [hD]; exact decide_eq_false fun h => by injection h with a1 a2 a3 a4 a5; exact g1' a1
    simp (maxSteps := 4000000) -implicitDefEqProofs (disch := omega) only [g1, ↓sxPre, sxPost, sxLib, if_true, if_false, Nat.reduceEqDiff, ↓reduceIte, Nat.reduceAdd, Nat.reduceSub, Nat.reduceMul, Nat.reduceLT, Nat.reduceLeDiff, reduceCtorEq, eq_self, K.isEff, List.reduceReplicate]
    refine step_guard rfl (fun h => absurd h (by decide)) (fun _ => ?_)
    simp (maxSteps := 4000000) -implicitDefEqProofs (disch := omega) only [↓sxPre, sxPost, sxLib, if_true, if_false, Nat.reduceEqDiff, ↓reduceIte, Nat.reduceAdd, Nat.reduceSub, Nat.reduceMul, Nat.reduceLT, Nat.reduceLeDiff, reduceCtorEq, eq_self, K.isEff, List.reduceReplicate]
    refine step_guard rfl (fun h => absurd h (by decide)) (fun _ => ?_)
    simp (maxSteps := 4000000) -implicitDefEqProofs (disch := omega) only [↓sxPre, sxPost, sxLib, if_true, if_false, Nat.reduceEqDiff, ↓reduceIte, Nat.reduceAdd, Nat.reduceSub, Nat.reduceMul, Nat.reduceLT, Nat.reduceLeDiff, reduceCtorEq, eq_self, K.isEff, List.reduceReplicate]
    refine step_guard rfl (fun h => absurd h (by decide)) (fun _ => ?_)
    simp (maxSteps := 4000000) -implicitDefEqProofs (disch := omega) only [↓sxPre, sxPost, sxLib, if_true, if_false, Nat.reduceEqDiff, ↓reduceIte, Nat.reduceAdd, Nat.reduceSub, Nat.reduceMul, Nat.reduceLT, Nat.reduceLeDiff, reduceCtorEq, eq_self, K.isEff, List.reduceReplicate]
    refine finK_gc [] ?_
    simp [gcSt, keepOk, finG, resV, resOne, resAll, idx, V.ren, V.renL, Obj.ren, get_cons, get_nil, RTree, RTup, RRow]
  have g1' := of_decide_eq_true g1
  cases g2 : decide ([q0, q1, q2, q3, q4, q5, q6] = [p0, p1, p2, p3, p4, p5, p6])
  · have g2' := of_decide_eq_false g2
    obtain rfl : D = false := by rw [hD]; exact decide_eq_false fun h => by injection h with a1 a2 a3 a4 a5; exact g2' a5
    simp (maxSteps := 4000000) -implicitDefEqProofs (disch := omega) only [g1, hE, g2, ↓sxPre, sxPost, sxLib, if_true, if_false, Nat.reduceEqDiff, ↓reduceIte, Nat.reduceAdd, Nat.reduceSub, Nat.reduceMul, Nat.reduceLT, Nat.reduceLeDiff, reduceCtorEq, eq_self, K.isEff, List.reduceReplicate]
    refine step_guard rfl (fun h => absurd h (by decide)) (fun _ => ?_)
    simp (maxSteps := 4000000) -implicitDefEqProofs (disch := omega) only [↓sxPre, sxPost, sxLib, if_true, if_false, Nat.reduceEqDiff, ↓reduceIte, Nat.reduceAdd, Nat.reduceSub, Nat.reduceMul, Nat.reduceLT, Nat.reduceLeDiff, reduceCtorEq, eq_self, K.isEff, List.reduceReplicate]
    refine step_guard rfl (fun h => absurd h (by decide)) (fun _ => ?_)
    simp (maxSteps := 4000000) -implicitDefEqProofs (disch := omega) only [↓sxPre, sxPost, sxLib, if_true, if_false, Nat.reduceEqDiff, ↓reduceIte, Nat.reduceAdd, Nat.reduceSub, Nat.reduceMul, Nat.reduceLT, Nat.reduceLeDiff, reduceCtorEq, eq_self, K.isEff, List.reduceReplicate]
    refine step_guard rfl (fun h => absurd h (by decide)) (fun _ => ?_)
    simp (maxSteps := 4000000) -implicitDefEqProofs (disch := omega) only [↓sxPre, sxPost, sxLib, if_true, if_false, Nat.reduceEqDiff, ↓reduceIte, Nat.reduceAdd, Nat.reduceSub, Nat.reduceMul, Nat.reduceLT, Nat.reduceLeDiff, reduceCtorEq, eq_self, K.isEff, List.reduceReplicate]
    refine finK_gc [] ?_
    simp [gcSt, keepOk, finG, resV, resOne, resAll, idx, V.ren, V.renL, Obj.ren, get_cons, get_nil, RTree, RTup, RRow]
  have g2' := of_decide_eq_true g2
  simp (maxSteps := 4000000) -implicitDefEqProofs (disch := omega) only [g1, hE, g2, ↓sxPre, sxPost, sxLib, if_true, if_false, Nat.reduceEqDiff, ↓reduceIte, Nat.reduceAdd, Nat.reduceSub, Nat.reduceMul, Nat.reduceLT, Nat.reduceLeDiff, reduceCtorEq, eq_self, K.isEff, List.reduceReplicate]
  refine step_guard rfl (fun _ => step_tree c1 rfl ?_) (fun h => absurd rfl h)
  by_cases g3 : words = words'
  case neg =>
    obtain rfl : D = false := by rw [hD]; exact decide_eq_false fun h => by injection h with a1 a2 a3 a4 a5; exact g3 a2
    rw [decide_eq_false g3]
    simp (maxSteps := 4000000) -implicitDefEqProofs (disch := omega) only [↓sxPre, sxPost, sxLib, if_true, if_false, Nat.reduceEqDiff, ↓reduceIte, Nat.reduceAdd, Nat.reduceSub, Nat.reduceMul, Nat.reduceLT, Nat.reduceLeDiff, reduceCtorEq, eq_self, K.isEff, List.reduceReplicate]
    refine step_guard rfl (fun h => absurd h (by decide)) (fun _ => ?_)
    simp (maxSteps := 4000000) -implicitDefEqProofs (disch := omega) only [↓sxPre, sxPost, sxLib, if_true, if_false, Nat.reduceEqDiff, ↓reduceIte, Nat.reduceAdd, Nat.reduceSub, Nat.reduceMul, Nat.reduceLT, Nat.reduceLeDiff, reduceCtorEq, eq_self, K.isEff, List.reduceReplicate]
    refine step_guard rfl (fun h => absurd h (by decide)) (fun _ => ?_)
    simp (maxSteps := 4000000) -implicitDefEqProofs (disch := omega) only [↓sxPre, sxPost, sxLib, if_true, if_false, Nat.reduceEqDiff, ↓reduceIte, Nat.reduceAdd, Nat.reduceSub, Nat.reduceMul, Nat.reduceLT, Nat.reduceLeDiff, reduceCtorEq, eq_self, K.isEff, List.reduceReplicate]
    refine finK_gc [] ?_
    simp [gcSt, keepOk, finG, resV, resOne, resAll, idx, V.ren, V.renL, Obj.ren, get_cons, get_nil, RTree, RTup, RRow]
  rw [decide_eq_true g3]
  simp (maxSteps := 4000000) -implicitDefEqProofs (disch := omega) only [↓sxPre, sxPost, sxLib, if_true, if_false, Nat.reduceEqDiff, ↓reduceIte, Nat.reduceAdd, Nat.reduceSub, Nat.reduceMul, Nat.reduceLT, Nat.reduceLeDiff, reduceCtorEq, eq_self, K.isEff, List.reduceReplicate]
  refine step_guard rfl (fun _ => step_tree c2 rfl ?_) (fun h => absurd rfl h)
  by_cases g4 : ths = ths'
  case neg =>
    obtain rfl : D = false := by rw [hD]; exact decide_eq_false fun h => by injection h with a1 a2 a3 a4 a5; exact g4 a3
    rw [decide_eq_false g4]
    simp (maxSteps := 4000000) -implicitDefEqProofs (disch := omega) only [↓sxPre, sxPost, sxLib, if_true, if_false, Nat.reduceEqDiff, ↓reduceIte, Nat.reduceAdd, Nat.reduceSub, Nat.reduceMul, Nat.reduceLT, Nat.reduceLeDiff, reduceCtorEq, eq_self, K.isEff, List.reduceReplicate]
    refine step_guard rfl (fun h => absurd h (by decide)) (fun _ => ?_)
    simp (maxSteps := 4000000) -implicitDefEqProofs (disch := omega) only [↓sxPre, sxPost, sxLib, if_true, if_false, Nat.reduceEqDiff, ↓reduceIte, Nat.reduceAdd, Nat.reduceSub, Nat.reduceMul, Nat.reduceLT, Nat.reduceLeDiff, reduceCtorEq, eq_self, K.isEff, List.reduceReplicate]
    refine finK_gc [] ?_
    simp [gcSt, keepOk, finG, resV, resOne, resAll, idx, V.ren, V.renL, Obj.ren, get_cons, get_nil, RTree, RTup, RRow]
  rw [decide_eq_true g4]
  simp (maxSteps := 4000000) -implicitDefEqProofs (disch := omega) only [↓sxPre, sxPost, sxLib, if_true, if_false, Nat.reduceEqDiff, ↓reduceIte, Nat.reduceAdd, Nat.reduceSub, Nat.reduceMul, Nat.reduceLT, Nat.reduceLeDiff, reduceCtorEq, eq_self, K.isEff, List.reduceReplicate]
  refine step_guard rfl (fun _ => step_tree c3 rfl ?_) (fun h => absurd rfl h)
  by_cases g5 : out = out'
  case neg =>
    obtain rfl : D = false := by rw [hD]; exact decide_eq_false fun h => by injection h with a1 a2 a3 a4 a5; exact g5 a4
    rw [decide_eq_false g5]
    simp (maxSteps := 4000000) -implicitDefEqProofs (disch := omega) only [↓sxPre, sxPost, sxLib, if_true, if_false, Nat.reduceEqDiff, ↓reduceIte, Nat.reduceAdd, Nat.reduceSub, Nat.reduceMul, Nat.reduceLT, Nat.reduceLeDiff, reduceCtorEq, eq_self, K.isEff, List.reduceReplicate]
    refine finK_gc [] ?_
    simp [gcSt, keepOk, finG, resV, resOne, resAll, idx, V.ren, V.renL, Obj.ren, get_cons, get_nil, RTree, RTup, RRow]
  obtain rfl : D = true := by rw [hD]; exact decide_eq_true (by rw [g1', g2', g3, g4, g5])
  rw [decide_eq_true g5]
  simp (maxSteps := 4000000) -implicitDefEqProofs (disch := omega) only [↓sxPre, sxPost, sxLib, if_true, if_false, Nat.reduceEqDiff, ↓reduceIte, Nat.reduceAdd, Nat.reduceSub, Nat.reduceMul, Nat.reduceLT, Nat.reduceLeDiff, reduceCtorEq, eq_self, K.isEff, List.reduceReplicate]
  refine finK_gc [] ?_
  simp [gcSt, keepOk, finG, resV, resOne, resAll, idx, V.ren, V.renL, Obj.ren, get_cons, get_nil, RTree, RTup, RRow]
end Go.Proofs.Ytljjabccgbakgaa

/- Messages: the specification's replies are written. By the session itself. -/
namespace Go.Proofs.Ytljjabccgbakgaa
open Go Go.Abs
set_option maxRecDepth 100000
set_option maxHeartbeats 4000000
set_option linter.unusedSimpArgs false
set_option linter.unusedVariables false

theorem rthread_sc (p : List Int) (hp : p.length ≤ 2 ^ 30) (t0 : Bool) (q : Th) (hq : q.Ok) (hql : q.args.length ≤ 2 ^ 20) (sz : Nat) (t : Bool) (hsz : sz = 1 ∨ q.args = []) :
    SCall PP N.debuggerref36_thread [.t (.lst 1 t0 (B p)), .agg ((q.cells sz t).map V.t)] [] (RRow 1 (B (p ++ q.enc))) := by
  refine debuggerref36_thread.intro (by simp) ?_
  obtain ⟨C, hC⟩ : ∃ C, C = (q.cells sz t).map V.t := ⟨_, rfl⟩
  obtain ⟨k1, k2, k3, k4, k5, k6, k7⟩ := q.facts hq sz t C hC
  rw [← hC]
  have hh := Th.head_len hq
  have hl1 := enI_len (Th.head_ok hq) (by omega)
  have c1 := rlist_sc p q.head (by omega) (Th.head_ok hq) (by omega) t0 1 false (.inl rfl)
  have c2 := rlist_sc (p ++ enI q.head) q.args (by simp; omega) hq.2.2.2.2.2.1 (by omega) false sz t hsz
  unfold Th.enc
  rw [← List.append_assoc]
  generalize p ++ enI q.head = E1 at *
  generalize E1 ++ enI q.args = E2 at *
  have hr0 : ¬ Ns q.r = [] := by
    intro e
    have : (Ns q.r).length = 0 := by rw [e]; rfl
    rw [Ns_length, hq.2.2.2.1] at this
    omega
  have hr1 : q.r.length = 16 := hq.2.2.2.1
  have hr2 : (Ns q.head).take q.head.length = Ns q.head := List.take_of_length_le (by rw [Ns_length]; omega)
  have hNh : T.int IntKind.i64 q.st :: T.int IntKind.i64 q.fn :: T.int IntKind.i64 q.pc :: Ns q.r = Ns q.head := rfl
  have hl3 : 3 + q.r.length = q.head.length := by omega
  simp (maxSteps := 4000000) -implicitDefEqProofs (disch := omega) only [k1, k2, k3, k4, k5, k6, k7, ksliceA_ref, elems_bsl, Ns_one, Ns_length, ↓sxPre, sxPost, sxLib, if_true, if_false, Nat.reduceEqDiff, ↓reduceIte, Nat.reduceAdd, Nat.reduceSub, Nat.reduceMul, Nat.reduceLT, Nat.reduceLeDiff, reduceCtorEq, eq_self, K.isEff, List.reduceReplicate]
  rw [hNh, hl3]
  refine ⟨⟨hr0, by omega⟩, step_eff (step_row (sz := 1) (ys := B E1) ?_ (B_flat _) fun ga => ?_)⟩
  · simpa [Abs.view, viewL, rowOf, Abs.get, ev, hr2] using c1
  simp (maxSteps := 4000000) -implicitDefEqProofs (disch := omega) only [k1, k2, k3, k4, k5, k6, k7, B_length, ↓sxPre, sxPost, sxLib, if_true, if_false, Nat.reduceEqDiff, ↓reduceIte, Nat.reduceAdd, Nat.reduceSub, Nat.reduceMul, Nat.reduceLT, Nat.reduceLeDiff, reduceCtorEq, eq_self, K.isEff, List.reduceReplicate]
  refine step_eff (step_row (sz := 1) (ys := B E2) ?_ (B_flat _) fun gb => ?_)
  · simpa [Abs.view, viewL, rowOf, Abs.get, ev, B_all] using c2
  simp (maxSteps := 4000000) -implicitDefEqProofs (disch := omega) only [B_length, ↓sxPre, sxPost, sxLib, if_true, if_false, Nat.reduceEqDiff, ↓reduceIte, Nat.reduceAdd, Nat.reduceSub, Nat.reduceMul, Nat.reduceLT, Nat.reduceLeDiff, reduceCtorEq, eq_self, K.isEff, List.reduceReplicate]
  refine finK_gc [3] ?_
  simp [RRow, B_length, gcSt, keepOk, finG, resV, resOne, resAll, idx, V.ren, V.renL, Obj.ren, get_cons, get_nil, RTree, RTup, RRow]

theorem routput_sc (p : List Int) (hp : p.length ≤ 2 ^ 30) (t0 : Bool) (o : List (Int × Int)) (ho : I64s (flatO o)) (hol : o.length ≤ 2 ^ 20) (sz : Nat) (t : Bool) (hsz : sz = 2 ∨ o = []) :
    SCall PP N.debuggerref36_output [.t (.lst 1 t0 (B p)), .t (.lst sz t (Ps o))] [] (RRow 1 (B (p ++ enI (flatO o)))) := by
  refine debuggerref36_output.intro (by simp) ?_
  have cO := rlist_sc p (flatO o) (by omega) ho (by rw [flatO_length]; omega) t0 1 false (.inl rfl)
  have cO0 := fun (h : o = []) => rlist_sc p (flatO o) (by omega) ho (by rw [flatO_length]; omega) t0 0 true (.inr (by rw [h]; rfl))
  generalize p ++ enI (flatO o) = E at *
  simp (maxSteps := 4000000) -implicitDefEqProofs (disch := omega) only [↓sxPre, sxPost, sxLib, if_true, if_false, Nat.reduceEqDiff, ↓reduceIte, Nat.reduceAdd, Nat.reduceSub, Nat.reduceMul, Nat.reduceLT, Nat.reduceLeDiff, reduceCtorEq, eq_self, K.isEff, List.reduceReplicate]
  refine wpC_loop_any [0, 1, 5, 6] (fun m s => ∃ (i : Nat) (x : V) (H : Heap), m + i = o.length ∧
      ((i = 0 ∧ x = .t (.lst 0 true []) ∧ H = []) ∨ ∃ g', x = .sl 0 0 (2 * i) g' 1 ∧ H = [.row 1 g' (Ns (flatO (o.take i)))]) ∧
      s = ⟨[(0, .t (.lst 1 t0 (B p))), (1, .t (.lst sz t (Ps o))), (5, x), (6, .t (.int .i64 i))], H⟩) o.length
    ⟨[], by simp [gcSt, keepOk, finG, resV, resOne, resAll, idx, V.ren, V.renL, Obj.ren, get_cons, get_nil, RTree, RTup, RRow], 0, .t (.lst 0 true []), [], by omega, .inl ⟨rfl, rfl, rfl⟩, by simp [gcSt, keepOk, finG, resV, resOne, resAll, idx, V.ren, V.renL, Obj.ren, get_cons, get_nil, RTree, RTup, RRow]⟩ ?_
  rintro m s ⟨i, x, H, hm, hxH, rfl⟩
  by_cases hi : i < o.length
  · have hi' : decide ((i : Int) < o.length) = true := decide_eq_true (by omega)
    have hio : (i : Int) < o.length := by omega
    have hs2 : sz = 2 := hsz.resolve_right (by intro e; rw [e] at hi; simp at hi)
    subst hs2
    have hft := flatO_take hi
    have hfl := flatO_length (o.take i)
    have hfl2 : (o.take i).length = i := by rw [List.length_take]; omega
    rw [hfl2] at hfl
    rcases hxH with ⟨rfl, rfl, rfl⟩ | ⟨g', rfl, rfl⟩
    · simp (maxSteps := 4000000) -implicitDefEqProofs (disch := omega) only [hi', hio, Ps_length, at_Ps hi, Int.toNat_natCast, at_zero, keff_buildSlice, toElems_cons, toElems_nil, toElem_t, setElems_cons, setElems_nil, ↓sxPre, sxPost, sxLib, if_true, if_false, Nat.reduceEqDiff, ↓reduceIte, Nat.reduceAdd, Nat.reduceSub, Nat.reduceMul, Nat.reduceLT, Nat.reduceLeDiff, reduceCtorEq, eq_self, K.isEff, List.reduceReplicate]
      refine ⟨by omega, by omega, by omega, m - 1, by omega, [0], by simp [gcSt, keepOk, finG, resV, resOne, resAll, idx, V.ren, V.renL, Obj.ren, get_cons, get_nil, RTree, RTup, RRow], 1, _, _, by omega, .inr ⟨0, rfl, rfl⟩, ?_⟩
      rw [hft]
      simp [flatO, Ns, gcSt, keepOk, finG, resV, resOne, resAll, idx, V.ren, V.renL, Obj.ren, get_cons, get_nil, RTree, RTup, RRow]
    · simp (maxSteps := 4000000) -implicitDefEqProofs (disch := omega) only [hi', hio, Ps_length, at_Ps hi, Int.toNat_natCast, at_zero, keff_buildSlice, toElems_cons, toElems_nil, toElem_t, setElems_cons, setElems_nil, Ns_length, hfl, ↓sxPre, sxPost, sxLib, if_true, if_false, Nat.reduceEqDiff, ↓reduceIte, Nat.reduceAdd, Nat.reduceSub, Nat.reduceMul, Nat.reduceLT, Nat.reduceLeDiff, reduceCtorEq, eq_self, K.isEff, List.reduceReplicate]
      refine ⟨by omega, by omega, by omega, m - 1, by omega, [0], by simp [gcSt, keepOk, finG, resV, resOne, resAll, idx, V.ren, V.renL, Obj.ren, get_cons, get_nil, RTree, RTup, RRow], i + 1, _, _, by omega, .inr ⟨g' + 1, rfl, rfl⟩, ?_⟩
      rw [hft, Ns_append]
      simp [Ns, Nat.mul_add, gcSt, keepOk, finG, resV, resOne, resAll, idx, V.ren, V.renL, Obj.ren, get_cons, get_nil, RTree, RTup, RRow]
  · have hi' : decide ((i : Int) < o.length) = false := decide_eq_false (by omega)
    obtain rfl : i = o.length := by omega
    rw [List.take_length] at hxH
    rcases hxH with ⟨h0, rfl, rfl⟩ | ⟨g', rfl, rfl⟩
    · have ho0 : o = [] := List.length_eq_zero_iff.1 h0
      have := cO0 ho0
      rw [ho0] at this
      simp (maxSteps := 4000000) -implicitDefEqProofs (disch := omega) only [hi', Ps_length, ↓sxPre, sxPost, sxLib, if_true, if_false, Nat.reduceEqDiff, ↓reduceIte, Nat.reduceAdd, Nat.reduceSub, Nat.reduceMul, Nat.reduceLT, Nat.reduceLeDiff, reduceCtorEq, eq_self, K.isEff, List.reduceReplicate]
      refine step_row (sz := 1) (ys := B E) ?_ (B_flat _) fun ga => ?_
      · simpa [Abs.view, viewL, rowOf, Abs.get, ev, flatO, Ns] using this
      simp (maxSteps := 4000000) -implicitDefEqProofs (disch := omega) only [B_length, ↓sxPre, sxPost, sxLib, if_true, if_false, Nat.reduceEqDiff, ↓reduceIte, Nat.reduceAdd, Nat.reduceSub, Nat.reduceMul, Nat.reduceLT, Nat.reduceLeDiff, reduceCtorEq, eq_self, K.isEff, List.reduceReplicate]
      refine finK_gc [0] ?_
      simp [RRow, B_length, gcSt, keepOk, finG, resV, resOne, resAll, idx, V.ren, V.renL, Obj.ren, get_cons, get_nil, RTree, RTup, RRow]
    · have hON : (Ns (flatO o)).take (2 * o.length) = Ns (flatO o) := List.take_of_length_le (by rw [Ns_length, flatO_length]; omega)
      simp (maxSteps := 4000000) -implicitDefEqProofs (disch := omega) only [hi', Ps_length, ↓sxPre, sxPost, sxLib, if_true, if_false, Nat.reduceEqDiff, ↓reduceIte, Nat.reduceAdd, Nat.reduceSub, Nat.reduceMul, Nat.reduceLT, Nat.reduceLeDiff, reduceCtorEq, eq_self, K.isEff, List.reduceReplicate]
      refine step_row (sz := 1) (ys := B E) ?_ (B_flat _) fun ga => ?_
      · simpa [Abs.view, viewL, rowOf, Abs.get, ev, hON] using cO
      simp (maxSteps := 4000000) -implicitDefEqProofs (disch := omega) only [B_length, ↓sxPre, sxPost, sxLib, if_true, if_false, Nat.reduceEqDiff, ↓reduceIte, Nat.reduceAdd, Nat.reduceSub, Nat.reduceMul, Nat.reduceLT, Nat.reduceLeDiff, reduceCtorEq, eq_self, K.isEff, List.reduceReplicate]
      refine finK_gc [1] ?_
      simp [RRow, B_length, gcSt, keepOk, finG, resV, resOne, resAll, idx, V.ren, V.renL, Obj.ren, get_cons, get_nil, RTree, RTup, RRow]

theorem rEncodeReply_sc (R : Rp) (cs : List T) (hR : R.Ok) (hA : R.At cs) : SCall PP N.debuggerref36_EncodeReply [.agg (cs.map V.t)] [] (REncR R) := by
  refine debuggerref36_EncodeReply.intro (by simp) ?_
  obtain ⟨s1, t1, s2, t2, s3, t3, xs, h1, h2, h3, hx, ha, rfl⟩ := hA
  obtain ⟨kerr, kwords, kwlen, kths, ktlen, kout, kolen, kstop, kslen⟩ := hR
  obtain ⟨q0, q1, q2, q3, q4, q5, q6, hs7⟩ := seven kslen
  have hNs : Ns R.stop = [.int .i64 q0, .int .i64 q1, .int .i64 q2, .int .i64 q3, .int .i64 q4, .int .i64 q5, .int .i64 q6] := by rw [hs7]; rfl
  have hst := hNs.symm
  rw [hNs]
  have hgz := groups_le10 (zig_lt kerr)
  by_cases hb : ¬ (R.words.length ≤ 128 ∧ R.out.length ≤ 128 ∧ R.ths.length ≤ 8)
  · have hnf : ¬ R.Fit := fun h => hb ⟨h.1, h.2.1, h.2.2.1⟩
    cases g1 : decide ((128 : Int) < R.words.length) <;> cases g2 : decide ((128 : Int) < R.out.length) <;> cases g3 : decide ((8 : Int) < R.ths.length)
    all_goals first
      | exfalso
        have g1 := of_decide_eq_false g1
        have g2 := of_decide_eq_false g2
        have g3 := of_decide_eq_false g3
        omega
      | simp (maxSteps := 4000000) -implicitDefEqProofs (disch := omega) only [Ns_length, Ps_length, hx, g1, g2, g3, ↓sxPre, sxPost, sxLib, if_true, if_false, Nat.reduceEqDiff, ↓reduceIte, Nat.reduceAdd, Nat.reduceSub, Nat.reduceMul, Nat.reduceLT, Nat.reduceLeDiff, reduceCtorEq, eq_self, K.isEff, List.reduceReplicate]
        refine finK_gc [] ?_
        simp [REncR, hnf, gcSt, keepOk, finG, resV, resOne, resAll, idx, V.ren, V.renL, Obj.ren, get_cons, get_nil, RTree, RTup, RRow]
  obtain ⟨hb1, hb2, hb3⟩ := Classical.not_not.1 hb
  have g1 : decide ((128 : Int) < R.words.length) = false := decide_eq_false (by omega)
  have g2 : decide ((128 : Int) < R.out.length) = false := decide_eq_false (by omega)
  have g3 : decide ((8 : Int) < R.ths.length) = false := decide_eq_false (by omega)
  have cI := rAppendInt_sc [] true R.err kerr (by simp)
  rw [List.nil_append] at cI
  have hWl := enI_len kwords (by omega)
  have cW := rlist_sc (groups (zig R.err)) R.words (by omega) kwords (by omega) false s1 t1 h1
  have hE1 : (groups (zig R.err) ++ enI R.words).length = (groups (zig R.err)).length + (enI R.words).length := by simp
  have cU := rAppendUint_sc (groups (zig R.err) ++ enI R.words) false R.ths.length (by omega) (by omega)
  rw [if_neg (by omega), Int.toNat_natCast] at cU
  have g10 := groups_le10 (v := R.ths.length) (by omega)
  have hpre : groups (zig R.err) ++ enI R.words ++ groups R.ths.length = R.pre := rfl
  have hEl : R.pre.length = (groups (zig R.err) ++ enI R.words).length + (groups R.ths.length).length := by rw [← hpre, List.length_append]
  have henc0 : R.enc = R.pre ++ encs R.ths ++ enI (flatO R.out) ++ enI R.stop := rfl
  rw [hpre] at cU
  generalize groups (zig R.err) = Z at *
  generalize Z ++ enI R.words = E1 at *
  generalize R.pre = E0 at *
  simp (maxSteps := 4000000) -implicitDefEqProofs (disch := omega) only [Ns_length, Ps_length, hx, g1, g2, g3, ↓sxPre, sxPost, sxLib, if_true, if_false, Nat.reduceEqDiff, ↓reduceIte, Nat.reduceAdd, Nat.reduceSub, Nat.reduceMul, Nat.reduceLT, Nat.reduceLeDiff, reduceCtorEq, eq_self, K.isEff, List.reduceReplicate]
  refine step_row (sz := 1) (ys := B Z) (nil_at 0 1 rfl cI) (B_flat _) fun ga => ?_
  simp (maxSteps := 4000000) -implicitDefEqProofs (disch := omega) only [Ns_length, Ps_length, hx, B_length, ↓sxPre, sxPost, sxLib, if_true, if_false, Nat.reduceEqDiff, ↓reduceIte, Nat.reduceAdd, Nat.reduceSub, Nat.reduceMul, Nat.reduceLT, Nat.reduceLeDiff, reduceCtorEq, eq_self, K.isEff, List.reduceReplicate]
  refine step_row (sz := 1) (ys := B E1) ?_ (B_flat _) fun gb => ?_
  · simpa [Abs.view, viewL, rowOf, Abs.get, ev, B_all] using cW
  simp (maxSteps := 4000000) -implicitDefEqProofs (disch := omega) only [Ns_length, Ps_length, hx, B_length, ↓sxPre, sxPost, sxLib, if_true, if_false, Nat.reduceEqDiff, ↓reduceIte, Nat.reduceAdd, Nat.reduceSub, Nat.reduceMul, Nat.reduceLT, Nat.reduceLeDiff, reduceCtorEq, eq_self, K.isEff, List.reduceReplicate]
  refine step_row (sz := 1) (ys := B E0) ?_ (B_flat _) fun gc => ?_
  · simpa [Abs.view, viewL, rowOf, Abs.get, ev, B_all] using cU
  simp (maxSteps := 4000000) -implicitDefEqProofs (disch := omega) only [B_length, ↓sxPre, sxPost, sxLib, if_true, if_false, Nat.reduceEqDiff, ↓reduceIte, Nat.reduceAdd, Nat.reduceSub, Nat.reduceMul, Nat.reduceLT, Nat.reduceLeDiff, reduceCtorEq, eq_self, K.isEff, List.reduceReplicate]
  refine wpC_loop_any [1, 4, 5] (fun m s => ∃ (i g : Nat), m + i = R.ths.length ∧ (∀ q ∈ R.ths.take i, q.args.length ≤ 4) ∧
      s = ⟨[(1, .ref 0 0), (4, .sl 1 0 (E0 ++ encs (R.ths.take i)).length g 1), (5, .t (.int .i64 i))], [.box [.t (.int .i64 R.err), .t (.lst s1 t1 (Ns R.words)), .t (.lst s2 t2 xs), .t (.lst s3 t3 (Ps R.out)), .t (.int .i64 q0), .t (.int .i64 q1), .t (.int .i64 q2), .t (.int .i64 q3), .t (.int .i64 q4), .t (.int .i64 q5), .t (.int .i64 q6)], .row 1 g (B (E0 ++ encs (R.ths.take i)))]⟩) R.ths.length
    ⟨[0, 3], by simp [gcSt, keepOk, finG, resV, resOne, resAll, idx, V.ren, V.renL, Obj.ren, get_cons, get_nil, RTree, RTup, RRow], 0, gc, by omega, by simp, by simp [encs, gcSt, keepOk, finG, resV, resOne, resAll, idx, V.ren, V.renL, Obj.ren, get_cons, get_nil, RTree, RTup, RRow]⟩ ?_
  rintro m s ⟨i, g, hm, hle, rfl⟩
  have htk : ∀ q ∈ R.ths.take i, q.Ok := fun q hq => kths q (List.mem_of_mem_take hq)
  have hel := encs_len htk hle
  have hel2 : (R.ths.take i).length ≤ 8 := by rw [List.length_take]; omega
  by_cases hi : i < R.ths.length
  · have hi' : decide ((i : Int) < R.ths.length) = true := decide_eq_true (by omega)
    have hix : (i : Int) < R.ths.length := by omega
    obtain ⟨sz, t, hsz, hat⟩ := ha i hi
    have hqk := kths _ (List.getElem_mem hi)
    have hs20 : s2 = 20 := h2.resolve_right (by intro e; rw [e] at hi; simp at hi)
    obtain ⟨C, hC⟩ : ∃ C, C = (R.ths[i]'hi).cells sz t := ⟨_, rfl⟩
    obtain ⟨k1, k2, k3, k4, k5, k6, k7, k8⟩ := (R.ths[i]'hi).facts2 hqk sz t C hC
    obtain ⟨_, k9, _⟩ := (R.ths[i]'hi).facts3 hqk sz t C hC
    rw [← hC] at hat
    subst hs20
    have hP1 : E0 ++ encs (R.ths.take (i + 1)) = E0 ++ encs (R.ths.take i) ++ (R.ths[i]'hi).enc := by rw [encs_take hi, List.append_assoc]
    have hPl : (E0 ++ encs (R.ths.take i)).length ≤ 2 ^ 20 := by rw [List.length_append]; omega
    by_cases hargs : (R.ths[i]'hi).args.length ≤ 4
    · have ga4 : decide ((4 : Int) < (R.ths[i]'hi).args.length) = false := decide_eq_false (by omega)
      have cT := rthread_sc (E0 ++ encs (R.ths.take i)) (by omega) false (R.ths[i]'hi) hqk (by omega) sz t hsz
      rw [← hC, ← hP1] at cT
      generalize E0 ++ encs (R.ths.take i) = P0 at *
      simp (maxSteps := 4000000) -implicitDefEqProofs (disch := omega) only [hi', hix, hx, hat, Int.toNat_natCast, k1, k2, k3, k4, k5, k6, k7, k8, k9, at_zero, Ns_length, ga4, ↓sxPre, sxPost, sxLib, if_true, if_false, Nat.reduceEqDiff, ↓reduceIte, Nat.reduceAdd, Nat.reduceSub, Nat.reduceMul, Nat.reduceLT, Nat.reduceLeDiff, reduceCtorEq, eq_self, K.isEff, List.reduceReplicate]
      generalize hP2 : E0 ++ encs (R.ths.take (i + 1)) = P2 at *
      have hP2l : P2.length = E0.length + (encs (R.ths.take (i + 1))).length := by rw [← hP2, List.length_append]
      refine ⟨by omega, by omega, step_row (sz := 1) (ys := B P2) ?_ (B_flat _) fun gd => ?_⟩
      · simpa [Abs.view, viewL, viewL_eq, rowOf, Abs.get, ev, B_all, Function.comp_def] using cT
      simp (maxSteps := 4000000) -implicitDefEqProofs (disch := omega) only [B_length, ↓sxPre, sxPost, sxLib, if_true, if_false, Nat.reduceEqDiff, ↓reduceIte, Nat.reduceAdd, Nat.reduceSub, Nat.reduceMul, Nat.reduceLT, Nat.reduceLeDiff, reduceCtorEq, eq_self, K.isEff, List.reduceReplicate]
      refine ⟨m - 1, by omega, [0, 2], by simp [gcSt, keepOk, finG, resV, resOne, resAll, idx, V.ren, V.renL, Obj.ren, get_cons, get_nil, RTree, RTup, RRow], i + 1, gd, by omega, ?_, ?_⟩
      · intro q hq
        rw [List.take_succ_eq_append_getElem hi, List.mem_append] at hq
        rcases hq with hq | hq
        · exact hle q hq
        · rw [List.mem_singleton.1 hq]; exact hargs
      · rw [hP2]
        simp [hP2l, gcSt, keepOk, finG, resV, resOne, resAll, idx, V.ren, V.renL, Obj.ren, get_cons, get_nil, RTree, RTup, RRow]
    · have ga4 : decide ((4 : Int) < (R.ths[i]'hi).args.length) = true := decide_eq_true (by omega)
      have hnf : ¬ R.Fit := fun h => hargs (h.2.2.2 _ (List.getElem_mem hi))
      generalize E0 ++ encs (R.ths.take i) = P0 at *
      simp (maxSteps := 4000000) -implicitDefEqProofs (disch := omega) only [hi', hix, hx, hat, Int.toNat_natCast, k1, k2, k3, k4, k5, k6, k7, k8, k9, at_zero, Ns_length, ga4, ↓sxPre, sxPost, sxLib, if_true, if_false, Nat.reduceEqDiff, ↓reduceIte, Nat.reduceAdd, Nat.reduceSub, Nat.reduceMul, Nat.reduceLT, Nat.reduceLeDiff, reduceCtorEq, eq_self, K.isEff, List.reduceReplicate]
      refine ⟨by omega, finK_gc [] ?_⟩
      simp [REncR, hnf, gcSt, keepOk, finG, resV, resOne, resAll, idx, V.ren, V.renL, Obj.ren, get_cons, get_nil, RTree, RTup, RRow]
  · have hi' : decide ((i : Int) < R.ths.length) = false := decide_eq_false (by omega)
    obtain rfl : i = R.ths.length := by omega
    rw [List.take_length] at hle hel hel2 ⊢
    have hfit : R.Fit := ⟨hb1, hb2, hb3, hle⟩
    have hE2l : (E0 ++ encs R.ths).length ≤ 2 ^ 20 := by rw [List.length_append]; omega
    generalize E0 ++ encs R.ths = E2 at *
    have cO := routput_sc E2 (by omega) false R.out kout (by omega) s3 t3 h3
    have hOl := enI_len kout (by rw [flatO_length]; omega)
    rw [flatO_length] at hOl
    have cS := rlist_sc (E2 ++ enI (flatO R.out)) R.stop (by rw [List.length_append]; omega) kstop (by omega) false 1 true (.inl rfl)
    rw [← henc0] at cS
    generalize E2 ++ enI (flatO R.out) = E3 at *
    simp (maxSteps := 4000000) -implicitDefEqProofs (disch := omega) only [hi', hx, ↓sxPre, sxPost, sxLib, if_true, if_false, Nat.reduceEqDiff, ↓reduceIte, Nat.reduceAdd, Nat.reduceSub, Nat.reduceMul, Nat.reduceLT, Nat.reduceLeDiff, reduceCtorEq, eq_self, K.isEff, List.reduceReplicate]
    refine step_row (sz := 1) (ys := B E3) ?_ (B_flat _) fun gd => ?_
    · simpa [Abs.view, viewL, rowOf, Abs.get, ev, B_all] using cO
    simp (maxSteps := 4000000) -implicitDefEqProofs (disch := omega) only [B_length, putAt_zero, keff_buildSlice, toElems_cons, toElems_nil, toElem_t, setElems_cons, setElems_nil, ↓sxPre, sxPost, sxLib, if_true, if_false, Nat.reduceEqDiff, ↓reduceIte, Nat.reduceAdd, Nat.reduceSub, Nat.reduceMul, Nat.reduceLT, Nat.reduceLeDiff, reduceCtorEq, eq_self, K.isEff, List.reduceReplicate]
    simp only [hst]
    refine step_row (sz := 1) (ys := B R.enc) ?_ (B_flat _) fun ge => ?_
    · simpa [Abs.view, viewL, rowOf, Abs.get, ev, B_all] using cS
    simp (maxSteps := 4000000) -implicitDefEqProofs (disch := omega) only [B_length, ↓sxPre, sxPost, sxLib, if_true, if_false, Nat.reduceEqDiff, ↓reduceIte, Nat.reduceAdd, Nat.reduceSub, Nat.reduceMul, Nat.reduceLT, Nat.reduceLeDiff, reduceCtorEq, eq_self, K.isEff, List.reduceReplicate]
    refine finK_gc [4] ?_
    simp [REncR, REnc, hfit, gcSt, keepOk, finG, resV, resOne, resAll, idx, V.ren, V.renL, Obj.ren, get_cons, get_nil, RTree, RTup, RRow]
end Go.Proofs.Ytljjabccgbakgaa

/- Messages: what is written is read again. By the session itself. -/
namespace Go.Proofs.Ytljjabccgbakgaa
open Go Go.Abs
set_option maxRecDepth 100000
set_option maxHeartbeats 4000000
set_option linter.unusedSimpArgs false
set_option linter.unusedVariables false

end Go.Proofs.Ytljjabccgbakgaa

/- MessageReplies. By the session itself. -/
namespace Go.Proofs.Ytljjabccgbakgaa
open Go Go.Abs
set_option maxRecDepth 100000
set_option maxHeartbeats 4000000
set_option linter.unusedSimpArgs false
set_option linter.unusedVariables false

/-- A reply that may be encoded, mostly. -/
def Rp.near (R : Rp) (which : Int) : Rp :=
  ⟨R.err, if which % 8 = 0 then List.replicate (128 + (which % 2).toNat) 0 else R.words, (R.ths.map Th.cut).take 8, if which % 8 = 1 then List.replicate (128 + (which.tdiv 8 % 2).toNat) (0, 0) else R.out, R.stop⟩
def RNearT (R : Rp) (which : Int) (r : V) (F : Heap) : Prop := ∃ cs, (R.near which).At cs ∧ r = .t (.agg cs) ∧ F = []

theorem Rp.near_ok {R : Rp} (h : R.Ok) (which : Int) : (R.near which).Ok := by
  obtain ⟨kerr, kwords, kwlen, kths, ktlen, kout, kolen, kstop, kslen⟩ := h
  refine ⟨kerr, ?_, ?_, fun q hq => ?_, ?_, ?_, ?_, kstop, kslen⟩
  · simp only [Rp.near]
    split
    · intro x hx; rw [List.eq_of_mem_replicate hx]; exact ⟨by decide, by decide⟩
    · exact kwords
  · simp only [Rp.near]
    split
    · rw [List.length_replicate]; omega
    · exact kwlen
  · obtain ⟨q', hq', rfl⟩ := List.mem_map.1 (List.mem_of_mem_take hq)
    exact Th.cut_ok (kths q' hq')
  · simp only [Rp.near, List.length_take]; omega
  · simp only [Rp.near]
    split
    · intro x hx
      obtain ⟨o, ho, hx⟩ := List.mem_flatMap.1 hx
      rw [List.eq_of_mem_replicate ho] at hx
      simp only [List.mem_cons, List.not_mem_nil, or_false, or_self] at hx
      rw [hx]; exact ⟨by decide, by decide⟩
    · exact kout
  · simp only [Rp.near]
    split
    · rw [List.length_replicate]; omega
    · exact kolen

theorem nearT_sc (R : Rp) (cs : List T) (hR : R.Ok) (hA : R.At cs) (hsm : R.Small) (which : Int) (hw : I64 which) : SCall PP N.debuggerlaw36_near [.agg (cs.map V.t), .t (.int .i64 which)] [] (RNearT R which) := by
  refine (near36_sc R cs hR hA hsm which hw).weak ?_
  rintro r F ⟨g, ys, w, o, F', hyl, hya, rfl, rfl, s1, t1, s3, t3, h1, h3, hrest⟩
  obtain ⟨q0, q1, q2, q3, q4, q5, q6, hs7⟩ := seven hR.slen
  have hNs : Ns R.stop = [.int .i64 q0, .int .i64 q1, .int .i64 q2, .int .i64 q3, .int .i64 q4, .int .i64 q5, .int .i64 q6] := by rw [hs7]; rfl
  have hths : ∀ i (h : i < ((R.ths.map Th.cut).take 8).length), (((R.ths.map Th.cut).take 8)[i]'h).At (T.at (ys.take (min R.ths.length 8)) i) := by
    intro i h
    simp only [List.length_take, List.length_map] at h
    simp only [List.getElem_take, List.getElem_map]
    have e2 : T.at (ys.take (min R.ths.length 8)) i = T.at ys i := by simp only [T.at, List.getD_eq_getElem?_getD, List.getElem?_take]; rw [if_pos (by omega)]
    rw [e2]
    exact hya i (by omega)
  have hthl : (ys.take (min R.ths.length 8)).length = ((R.ths.map Th.cut).take 8).length := by simp only [List.length_take, List.length_map]; omega
  have fin : ∀ (c : V) (F1 : Heap) (sw : Nat) (tw : Bool) (so : Nat) (to : Bool), (sw = 1 ∨ (R.near which).words = []) → (so = 2 ∨ (R.near which).out = []) →
      toElem (.row 20 g ys :: F') (.agg (.t (.int .i64 R.err) :: w :: .sl 0 0 (min R.ths.length 8) g 20 :: o :: (Ns R.stop).map V.t)) = some (.agg (.int .i64 R.err :: .lst sw tw (Ns (R.near which).words) :: .lst 20 false (ys.take (min R.ths.length 8)) :: .lst so to (Ps (R.near which).out) :: Ns R.stop), F1) →
      ∃ r' F2, Weak ([] : Heap).length ⟨[(0, .agg (.t (.int .i64 R.err) :: w :: .sl 0 0 (min R.ths.length 8) g 20 :: o :: (Ns R.stop).map V.t))], .row 20 g ys :: F'⟩ ⟨[(0, r')], F2⟩ ∧ RNearT R which r' F2 := by
    intro c F1 sw tw so to hsw hso he
    refine ⟨_, _, (weak_one he).trans (weak_to [0] [] rfl (Nat.le_refl _) (by simp) (by simp) rfl), ?_⟩
    exact ⟨_, ⟨sw, tw, 20, false, so, to, _, hsw, .inl rfl, hso, hthl, hths, rfl⟩, by simp only [get_cons, if_true, V.ren]; rfl, rfl⟩
  have hdr : ∀ (xs : List T) (n : Nat), (xs.drop 0).take n = xs.take n := fun xs n => by rw [List.drop_zero]
  rcases hrest with ⟨g0, g1, rfl, rfl, rfl⟩ | ⟨g0, k, hk, rfl, rfl, rfl⟩ | ⟨g1, k, hk, rfl, rfl, rfl⟩
  · have e1 : (R.near which).words = R.words := by simp only [Rp.near, if_neg g0]
    have e2 : (R.near which).out = R.out := by simp only [Rp.near, if_neg g1]
    refine fin .undef [.frz 20 g ys] s1 t1 s3 t3 (by rw [e1]; exact h1) (by rw [e2]; exact h3) ?_
    rw [hNs, e1, e2]
    simp only [List.map_cons, List.map_nil, toElem_agg, toTs_cons, toTs_nil, toT_t, toT_sl]
    simp [rowOf]
  · have e1 : (R.near which).words = List.replicate k 0 := by simp only [Rp.near, if_pos g0, hk]
    have e2 : (R.near which).out = R.out := by simp only [Rp.near, if_neg (show ¬ which % 8 = 1 by omega)]
    have e3 : (Ns (List.replicate k 0)).take k = Ns (List.replicate k 0) := List.take_of_length_le (by rw [Ns_length, List.length_replicate]; omega)
    refine fin .undef [.frz 20 g ys, .frz 1 0 (Ns (List.replicate k 0))] 1 false s3 t3 (.inl rfl) (by rw [e2]; exact h3) ?_
    rw [hNs, e1, e2]
    simp only [List.map_cons, List.map_nil, toElem_agg, toTs_cons, toTs_nil, toT_t, toT_sl]
    simp [rowOf, e3]
  · have e1 : (R.near which).words = R.words := by simp only [Rp.near, if_neg (show ¬ which % 8 = 0 by omega)]
    have e2 : (R.near which).out = List.replicate k (0, 0) := by simp only [Rp.near, if_pos g1, hk]
    have e3 : (Ps (List.replicate k (0, 0))).take k = Ps (List.replicate k (0, 0)) := List.take_of_length_le (by rw [Ps_length, List.length_replicate]; omega)
    refine fin .undef [.frz 20 g ys, .frz 2 0 (Ps (List.replicate k (0, 0)))] s1 t1 2 false (by rw [e1]; exact h1) (.inl rfl) ?_
    rw [hNs, e1, e2]
    simp only [List.map_cons, List.map_nil, toElem_agg, toTs_cons, toTs_nil, toT_t, toT_sl]
    simp [rowOf, e3]

theorem step_nearT {P : Program} {f : FuncId} {H : Heap} {K : St → Prop} {vs : List (Nat × V)} {r : List Ins} {d : Nat} {xs : List Opnd} {R : Rp} {which : Int}
    (h : SCall P f ((xs.map (ev vs)).map (V.ren (idx []))) [] (RNearT R which)) (hk : ∀ cs, (R.near which).At cs → wpR (SCall P) r K ⟨(d, .t (.agg cs)) :: vs, H⟩) : wpR (SCall P) (⟨some d, none, .call f xs⟩ :: r) K ⟨vs, H⟩ := by
  refine step_call (call_own h ?_)
  rintro r N ⟨cs, h1, rfl, rfl⟩
  simpa [V.ren] using hk cs h1

theorem Rp.At.facts {R : Rp} {cs : List T} (h : R.At cs) (hs : R.stop.length = 7) : cs.length = 11 ∧ cs.take 11 = cs ∧ (cs.map V.t).take 11 = cs.map V.t ∧ (cs.map V.t).all V.one = true ∧ cs.all T.one = true ∧
    (∀ a0 a1 a2 a3 a4 a5 a6 a7 a8 a9 a10 : V, putAt [a0, a1, a2, a3, a4, a5, a6, a7, a8, a9, a10] 0 (cs.map V.t) = cs.map V.t) := by
  obtain ⟨s1, t1, s2, t2, s3, t3, xs, h1, h2, h3, hx, ha, rfl⟩ := h
  obtain ⟨q0, q1, q2, q3, q4, q5, q6, hs7⟩ := seven hs
  rw [hs7]
  refine ⟨rfl, rfl, rfl, rfl, rfl, ?_⟩
  intros; rfl

end Go.Proofs.Ytljjabccgbakgaa

