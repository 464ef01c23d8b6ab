/- Messages: the reader of numbers. By the session itself. -/
import Derived.Test.YtljjabccgbakgaaPack6
import Derived.Test.YtljjabccgbakgaaFmessage
namespace Go.Proofs.Ytljjabccgbakgaa
open Go Go.Abs
set_option maxRecDepth 100000
set_option maxHeartbeats 4000000
set_option linter.unusedSimpArgs false
set_option linter.unusedVariables false

/-- A call that may write to the objects that are named. -/
theorem call_frame {P : Program} {f : FuncId} {args : List V} {H : Heap} {k Q : V → Heap → Prop} (fp : List Nat) (hnd : fp.Nodup) (hlt : ∀ id ∈ fp, id < H.length) (h : SCall P f (args.map (V.ren (idx fp))) (sub H fp) Q)
    (hk : ∀ r F, Q r F → k (r.ren (tau fp H.length)) (merge H fp F)) : SCall P f args H k :=
  (SCall.frame fp hnd hlt h).mono fun r H' ⟨r0, F, hq, e1, e2⟩ => by
    subst e1 e2
    exact hk r0 F hq

/-- The state of a reader: the place, and whether something was wrong. -/
abbrev RS := Int × Bool
def rbox (b : List Int) (s : RS) : Abs.Obj := .box [.t (.lst 1 false (B b)), .t (.int .i64 s.1), .t (.bool s.2)]
/-- A number that is read. -/
def rdN (R : Int → Int × Int × Int) (s : RS) : Int × RS := if s.2 then (0, s) else if (R s.1).2.2 ≠ 0 then (0, (s.1, true)) else ((R s.1).1, ((R s.1).2.1, false))
def RU (b : List Int) (at_ : Int) : Int × Int × Int := ((readAt 8 127 b at_).1, (readAt 8 127 b at_).2.1, (readAt 8 127 b at_).2.2)
def RI (b : List Int) (at_ : Int) : Int × Int × Int := (unzig (readAt 9 1 b at_).1, (readAt 9 1 b at_).2.1, (readAt 9 1 b at_).2.2)

/-- Where a reader may stand. -/
def SOk (b : List Int) (s : RS) : Prop := 0 ≤ s.1 ∧ s.1 ≤ b.length

theorem rdU_ok {b : List Int} (hb : Bytes b) {s : RS} (h : SOk b s) : SOk b (rdN (RU b) s).2 ∧ 0 ≤ (rdN (RU b) s).1 ∧ (rdN (RU b) s).1 < 2 ^ 63 := by
  obtain ⟨hv, hn, hp⟩ := readAt_bounds (last := 8) (mx := 127) (by decide) hb (at_ := s.1)
  change (readAt 8 127 b s.1).1 < (127 + 1) * 128 ^ 8 at hv
  change (readAt 8 127 b s.1).2.2 = 0 → 0 ≤ s.1 ∧ s.1 < (readAt 8 127 b s.1).2.1 ∧ (readAt 8 127 b s.1).2.1 ≤ b.length at hn
  have h8 : (127 + 1) * 128 ^ 8 = 2 ^ 63 := by decide
  unfold rdN
  split
  · exact ⟨h, by simp, by simp⟩
  split
  · exact ⟨h, by simp, by simp⟩
  · rename_i he
    have := hn (by simpa [RU] using he)
    refine ⟨⟨?_, ?_⟩, ?_, ?_⟩ <;> simp only [RU] <;> omega

theorem rdI_ok {b : List Int} (hb : Bytes b) {s : RS} (h : SOk b s) : SOk b (rdN (RI b) s).2 ∧ I64 (rdN (RI b) s).1 := by
  obtain ⟨hv, hn, hp⟩ := readAt_bounds (last := 9) (mx := 1) (by decide) hb (at_ := s.1)
  change (readAt 9 1 b s.1).1 < (1 + 1) * 128 ^ 9 at hv
  change (readAt 9 1 b s.1).2.2 = 0 → 0 ≤ s.1 ∧ s.1 < (readAt 9 1 b s.1).2.1 ∧ (readAt 9 1 b s.1).2.1 ≤ b.length at hn
  have h8 : (1 + 1) * 128 ^ 9 = 2 ^ 64 := by decide
  unfold rdN
  split
  · exact ⟨h, by unfold I64; simp⟩
  split
  · exact ⟨h, by unfold I64; simp⟩
  · rename_i he
    have := hn (by simpa [RI] using he)
    refine ⟨⟨?_, ?_⟩, ?_⟩
    · simp only [RI]; omega
    · simp only [RI]; omega
    · simp only [RI, I64, unzig]
      split <;> omega

/-- The result is a number, and the reader has moved. -/
def RNum (b : List Int) (x : Int × RS) (r : V) (F : Heap) : Prop := r = .t (.int .i64 x.1) ∧ F = [rbox b x.2]

theorem num_sc (f : FuncId) (R : Int → Int × Int × Int) (b : List Int) (hf : ∀ at_ : Int, -2 ^ 63 ≤ at_ ∧ at_ < 2 ^ 63 → SCall PP f [.t (.lst 1 false (B b)), .t (.int .i64 at_)] [] (RTup [.int .i64 (R at_).1, .int .i64 (R at_).2.1, .int .i64 (R at_).2.2]))
    (hl : b.length ≤ 2 ^ 40) (s : RS) (hs : SOk b s) : SCall PP N.message_reader_number [.ref 0 0, .fn f []] [rbox b s] (RNum b (rdN R s)) := by
  refine message_reader_number.intro (by simp) ?_
  obtain ⟨at_, bad⟩ := s
  obtain ⟨h1, h2⟩ := hs
  simp only at h1 h2
  have c := hf at_ (by omega)
  unfold rbox rdN
  generalize R at_ = q at *
  obtain ⟨v, n, e⟩ := q
  simp only at c ⊢
  cases bad with
  | true =>
    simp (maxSteps := 4000000) -implicitDefEqProofs (disch := omega) only [↓sxPre, sxPost, sxLib, if_true, if_false, Nat.reduceEqDiff, ↓reduceIte, Nat.reduceAdd, Nat.reduceSub, Nat.reduceMul, Nat.reduceLT, Nat.reduceLeDiff, reduceCtorEq, eq_self, K.isEff, List.reduceReplicate]
    refine finK_gc [0] ?_
    simp [RNum, rbox, gcSt, keepOk, finG, resV, resOne, resAll, idx, V.ren, V.renL, Obj.ren, get_cons, get_nil, RTree, RTup, RRow]
  | false =>
    simp (maxSteps := 4000000) -implicitDefEqProofs (disch := omega) only [↓sxPre, sxPost, sxLib, if_true, if_false, Nat.reduceEqDiff, ↓reduceIte, Nat.reduceAdd, Nat.reduceSub, Nat.reduceMul, Nat.reduceLT, Nat.reduceLeDiff, reduceCtorEq, eq_self, K.isEff, List.reduceReplicate]
    refine step_eff (step_callv rfl (call_tup (xs := [.int .i64 v, .int .i64 n, .int .i64 e]) ?_ rfl ?_))
    · simpa [Abs.view, viewL, Abs.get, ev] using c
    simp (maxSteps := 4000000) -implicitDefEqProofs (disch := omega) only [↓sxPre, sxPost, sxLib, if_true, if_false, Nat.reduceEqDiff, ↓reduceIte, Nat.reduceAdd, Nat.reduceSub, Nat.reduceMul, Nat.reduceLT, Nat.reduceLeDiff, reduceCtorEq, eq_self, K.isEff, List.reduceReplicate]
    refine condV_ndec (fun he => ?_) fun he => ?_
    · rw [if_pos he]
      simp (maxSteps := 4000000) -implicitDefEqProofs (disch := omega) only [kstore_ref, putAt_zero, putAt_succ, ↓sxPre, sxPost, sxLib, if_true, if_false, Nat.reduceEqDiff, ↓reduceIte, Nat.reduceAdd, Nat.reduceSub, Nat.reduceMul, Nat.reduceLT, Nat.reduceLeDiff, reduceCtorEq, eq_self, K.isEff, List.reduceReplicate]
      refine finK_gc [0] ?_
      simp [RNum, rbox, gcSt, keepOk, finG, resV, resOne, resAll, idx, V.ren, V.renL, Obj.ren, get_cons, get_nil, RTree, RTup, RRow]
    · rw [if_neg (by simpa using he)]
      simp (maxSteps := 4000000) -implicitDefEqProofs (disch := omega) only [kstore_ref, putAt_zero, putAt_succ, ↓sxPre, sxPost, sxLib, if_true, if_false, Nat.reduceEqDiff, ↓reduceIte, Nat.reduceAdd, Nat.reduceSub, Nat.reduceMul, Nat.reduceLT, Nat.reduceLeDiff, reduceCtorEq, eq_self, K.isEff, List.reduceReplicate]
      refine finK_gc [0] ?_
      simp [RNum, rbox, gcSt, keepOk, finG, resV, resOne, resAll, idx, V.ren, V.renL, Obj.ren, get_cons, get_nil, RTree, RTup, RRow]

theorem numU_sc (b : List Int) (hb : Bytes b) (hl : b.length ≤ 2 ^ 40) (s : RS) (hs : SOk b s) : SCall PP N.message_reader_number [.ref 0 0, .fn N.wire_Uint []] [rbox b s] (RNum b (rdN (RU b) s)) :=
  num_sc _ _ b (fun at_ ha => Uint_sc b hb hl false at_ ha) hl s hs
theorem numI_sc (b : List Int) (hb : Bytes b) (hl : b.length ≤ 2 ^ 40) (s : RS) (hs : SOk b s) : SCall PP N.message_reader_number [.ref 0 0, .fn N.wire_Int []] [rbox b s] (RNum b (rdN (RI b) s)) :=
  num_sc _ _ b (fun at_ ha => Int_sc b hb hl false at_ ha) hl s hs
end Go.Proofs.Ytljjabccgbakgaa
