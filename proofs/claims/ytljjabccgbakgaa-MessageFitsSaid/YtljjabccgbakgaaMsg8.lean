/- Messages: replies are written. By the session itself. -/
import Derived.Test.YtljjabccgbakgaaMsg7
namespace Go.Proofs.Ytljjabccgbakgaa
open Go Go.Abs
set_option maxRecDepth 100000
set_option maxHeartbeats 4000000
set_option linter.unusedSimpArgs false
set_option linter.unusedVariables false

/-- A reply. -/
structure Rp where
  err : Int
  words : List Int
  ths : List Th
  out : List (Int × Int)
  stop : List Int
  deriving DecidableEq
def Ps (l : List (Int × Int)) : List T := l.map fun o => .agg [.int .i64 o.1, .int .i64 o.2]
def flatO (l : List (Int × Int)) : List Int := l.flatMap fun o => [o.1, o.2]
def encs (l : List Th) : List Int := l.flatMap Th.enc
theorem Ps_length (l : List (Int × Int)) : (Ps l).length = l.length := by simp [Ps]
theorem at_Ps {l : List (Int × Int)} {i : Nat} (h : i < l.length) : T.at (Ps l) i = .agg [.int .i64 (l[i]'h).1, .int .i64 (l[i]'h).2] := by simp [T.at, Ps, h]
theorem flatO_length (l : List (Int × Int)) : (flatO l).length = 2 * l.length := by
  induction l with
  | nil => rfl
  | cons x l ih => simp only [flatO, List.flatMap_cons, List.length_append, List.length_cons, List.length_nil] at *; omega
theorem flatO_take {l : List (Int × Int)} {i : Nat} (h : i < l.length) : flatO (l.take (i + 1)) = flatO (l.take i) ++ [(l[i]'h).1, (l[i]'h).2] := by
  rw [List.take_succ_eq_append_getElem h]; simp only [flatO, List.flatMap_append, List.flatMap_cons, List.flatMap_nil, List.append_nil]
theorem encs_take {l : List Th} {i : Nat} (h : i < l.length) : encs (l.take (i + 1)) = encs (l.take i) ++ (l[i]'h).enc := by
  rw [List.take_succ_eq_append_getElem h]; simp only [encs, List.flatMap_append, List.flatMap_cons, List.flatMap_nil, List.append_nil]

/-- A thread as data. -/
def Th.At (q : Th) (x : T) : Prop := ∃ sz t, (sz = 1 ∨ q.args = []) ∧ x = .agg (q.cells sz t)
inductive Rp.At (R : Rp) (cs : List T) : Prop
  | mk (s1 : Nat) (t1 : Bool) (s2 : Nat) (t2 : Bool) (s3 : Nat) (t3 : Bool) (xs : List T)
      (h1 : s1 = 1 ∨ R.words = []) (h2 : s2 = 20 ∨ R.ths = []) (h3 : s3 = 2 ∨ R.out = []) (hx : xs.length = R.ths.length)
      (ha : ∀ i (h : i < R.ths.length), (R.ths[i]'h).At (T.at xs i))
      (eq : cs = .int .i64 R.err :: .lst s1 t1 (Ns R.words) :: .lst s2 t2 xs :: .lst s3 t3 (Ps R.out) :: Ns R.stop)
structure Rp.Ok (R : Rp) : Prop where
  err : I64 R.err
  words : I64s R.words
  wlen : R.words.length < 2 ^ 63
  ths : ∀ q ∈ R.ths, q.Ok
  tlen : R.ths.length < 2 ^ 63
  out : I64s (flatO R.out)
  olen : R.out.length < 2 ^ 63
  stop : I64s R.stop
  slen : R.stop.length = 7
def Rp.Fit (R : Rp) : Prop := R.words.length ≤ 128 ∧ R.out.length ≤ 128 ∧ R.ths.length ≤ 8 ∧ ∀ q ∈ R.ths, q.args.length ≤ 4
instance (R : Rp) : Decidable R.Fit := by unfold Rp.Fit; exact inferInstance
def Rp.pre (R : Rp) : List Int := groups (zig R.err) ++ enI R.words ++ groups R.ths.length
def Rp.enc (R : Rp) : List Int := R.pre ++ encs R.ths ++ enI (flatO R.out) ++ enI R.stop
def REncR (R : Rp) (r : V) (H : Heap) : Prop := if R.Fit then REnc R.enc r H else RTup [.lst 0 true [], .int .i64 5] r H

theorem Th.enc_len {q : Th} (h : q.Ok) (ha : q.args.length ≤ 4) : q.enc.length ≤ 250 := by
  have h1 := enI_len (Th.head_ok h) (by rw [Th.head_len h]; decide)
  have h2 := enI_len h.2.2.2.2.2.1 (by omega)
  rw [Th.head_len h] at h1
  rw [Th.enc, List.length_append]; omega
theorem encs_len : ∀ {l : List Th}, (∀ q ∈ l, q.Ok) → (∀ q ∈ l, q.args.length ≤ 4) → (encs l).length ≤ 250 * l.length
  | [], _, _ => by simp [encs]
  | q :: l, h, ha => by
    have := encs_len (l := l) (fun q hq => h q (by simp [hq])) (fun q hq => ha q (by simp [hq]))
    have h1 := Th.enc_len (h q (by simp)) (ha q (by simp))
    simp only [encs, List.flatMap_cons, List.length_append, List.length_cons] at *
    omega

theorem Th.facts2 {q : Th} (h : q.Ok) (sz : Nat) (t : Bool) (C : List T) (hC : C = q.cells sz t) :
    C.length = 20 ∧ C.take 20 = C ∧ (C.map V.t).all V.one = true ∧ (C.map V.t).getD 19 .undef = .t (.lst sz t (Ns q.args)) ∧ (C.map V.t).take 20 = C.map V.t ∧ (∀ ρ, V.renL ρ (C.map V.t) = C.map V.t) ∧
      (∀ a0 a1 a2 a3 a4 a5 a6 a7 a8 a9 a10 a11 a12 a13 a14 a15 a16 a17 a18 a19 : V, putAt [a0, a1, a2, a3, a4, a5, a6, a7, a8, a9, a10, a11, a12, a13, a14, a15, a16, a17, a18, a19] 0 (C.map V.t) = C.map V.t) ∧ T.at C 19 = .lst sz t (Ns q.args) := by
  obtain ⟨st, fn, pc, r, args⟩ := q
  have hr : r.length = 16 := h.2.2.2.1
  subst hC
  simp only [Th.cells]
  match r, hr with
  | [b0, b1, b2, b3, b4, b5, b6, b7, b8, b9, b10, b11, b12, b13, b14, b15], _ =>
  refine ⟨rfl, rfl, rfl, rfl, rfl, fun ρ => renL_t ρ _, ?_, rfl⟩
  intros
  rfl

theorem seven {l : List Int} (h : l.length = 7) : ∃ a b c d e f g, l = [a, b, c, d, e, f, g] := by
  match l, h with
  | [a, b, c, d, e, f, g], _ => exact ⟨a, b, c, d, e, f, g, rfl⟩
theorem EncodeReply_sc (R : Rp) (cs : List T) (hR : R.Ok) (hA : R.At cs) : SCall PP N.message_EncodeReply [.agg (cs.map V.t)] [] (REncR R) := by
  refine message_EncodeReply.intro (by simp) ?_
  obtain ⟨s1, t1, s2, t2, s3, t3, xs, h1, h2, h3, hx, ha, rfl⟩ := hA
  obtain ⟨kerr, kwords, kwlen, kths, ktlen, kout, kolen, kstop, kslen⟩ := hR
  obtain ⟨q0, q1, q2, q3, q4, q5, q6, hs7⟩ := seven kslen
  have hNs : Ns R.stop = [.int .i64 q0, .int .i64 q1, .int .i64 q2, .int .i64 q3, .int .i64 q4, .int .i64 q5, .int .i64 q6] := by rw [hs7]; rfl
  have hst := hNs.symm
  rw [hNs]
  obtain ⟨E0, hE0⟩ : ∃ E0, E0 = R.pre := ⟨_, rfl⟩
  have hgz := groups_le10 (zig_lt kerr)
  by_cases hb : ¬ (R.words.length ≤ 128 ∧ R.out.length ≤ 128 ∧ R.ths.length ≤ 8)
  · have hnf : ¬ R.Fit := fun h => hb ⟨h.1, h.2.1, h.2.2.1⟩
    cases g1 : decide ((128 : Int) < R.words.length) <;> cases g2 : decide ((128 : Int) < R.out.length) <;> cases g3 : decide ((8 : Int) < R.ths.length)
    all_goals first
      | exfalso
        have g1 := of_decide_eq_false g1
        have g2 := of_decide_eq_false g2
        have g3 := of_decide_eq_false g3
        omega
      | simp (maxSteps := 4000000) -implicitDefEqProofs (disch := omega) only [Ns_length, Ps_length, hx, g1, g2, g3, ↓sxPre, sxPost, sxLib, if_true, if_false, Nat.reduceEqDiff, ↓reduceIte, Nat.reduceAdd, Nat.reduceSub, Nat.reduceMul, Nat.reduceLT, Nat.reduceLeDiff, reduceCtorEq, eq_self, K.isEff, List.reduceReplicate]
        refine finK_gc [] ?_
        simp [REncR, hnf, gcSt, keepOk, finG, resV, resOne, resAll, idx, V.ren, V.renL, Obj.ren, get_cons, get_nil, RTree, RTup, RRow]
  obtain ⟨hb1, hb2, hb3⟩ := Classical.not_not.1 hb
  have g1 : decide ((128 : Int) < R.words.length) = false := decide_eq_false (by omega)
  have g2 : decide ((128 : Int) < R.out.length) = false := decide_eq_false (by omega)
  have g3 : decide ((8 : Int) < R.ths.length) = false := decide_eq_false (by omega)
  have cI := AppendInt_sc [] true R.err kerr (by simp)
  rw [List.nil_append] at cI
  have cW := fun g => app_row (groups (zig R.err)) R.words (by omega) kwords (by omega) s1 t1 h1 g
  have cU := AppendUint_sc [] true R.ths.length (by omega) (by simp)
  rw [if_neg (by omega), Int.toNat_natCast, List.nil_append] at cU
  have g10 := groups_le10 (v := R.ths.length) (by omega)
  have hWl := enI_len kwords (by omega)
  have hE1 : (groups (zig R.err) ++ enI R.words).length = (groups (zig R.err)).length + (enI R.words).length := by simp
  have hpre : R.pre = groups (zig R.err) ++ enI R.words ++ groups R.ths.length := rfl
  rw [← hE0] at hpre
  generalize groups (zig R.err) = Z at *
  generalize Z ++ enI R.words = E1 at *
  generalize groups R.ths.length = G at *
  have hEl : E0.length = E1.length + G.length := by rw [hpre]; simp
  have hBE : B E1 ++ B G = B E0 := by rw [hpre, B_append]
  simp (maxSteps := 4000000) -implicitDefEqProofs (disch := omega) only [Ns_length, Ps_length, hx, g1, g2, g3, ↓sxPre, sxPost, sxLib, if_true, if_false, Nat.reduceEqDiff, ↓reduceIte, Nat.reduceAdd, Nat.reduceSub, Nat.reduceMul, Nat.reduceLT, Nat.reduceLeDiff, reduceCtorEq, eq_self, K.isEff, List.reduceReplicate]
  refine step_row (sz := 1) (ys := B Z) (nil_at 0 1 rfl cI) (B_flat _) fun ga => ?_
  simp (maxSteps := 4000000) -implicitDefEqProofs (disch := omega) only [Ns_length, Ps_length, hx, g1, g2, g3, B_length, ↓sxPre, sxPost, sxLib, if_true, if_false, Nat.reduceEqDiff, ↓reduceIte, Nat.reduceAdd, Nat.reduceSub, Nat.reduceMul, Nat.reduceLT, Nat.reduceLeDiff, reduceCtorEq, eq_self, K.isEff, List.reduceReplicate]
  refine step_app (ys := B E1) 1 (by simp) ?_ fun gb => ?_
  · have := cW ga
    simpa [V.ren, V.renL, idx, Abs.get, ev, sub, Obj.ren] using this
  simp (maxSteps := 4000000) -implicitDefEqProofs (disch := omega) only [Ns_length, Ps_length, hx, g1, g2, g3, B_length, ↓sxPre, sxPost, sxLib, if_true, if_false, Nat.reduceEqDiff, ↓reduceIte, Nat.reduceAdd, Nat.reduceSub, Nat.reduceMul, Nat.reduceLT, Nat.reduceLeDiff, reduceCtorEq, eq_self, K.isEff, List.reduceReplicate]
  refine step_row (sz := 1) (ys := B G) (nil_at 0 1 rfl cU) (B_flat _) fun gc => ?_
  simp (maxSteps := 4000000) -implicitDefEqProofs (disch := omega) only [Ns_length, Ps_length, hx, B_length, elems_sl, B_all, hBE, ← hEl, ↓sxPre, sxPost, sxLib, if_true, if_false, Nat.reduceEqDiff, ↓reduceIte, Nat.reduceAdd, Nat.reduceSub, Nat.reduceMul, Nat.reduceLT, Nat.reduceLeDiff, reduceCtorEq, eq_self, K.isEff, List.reduceReplicate]
  refine ⟨by omega, ?_⟩
  refine wpC_loop_any [1, 4, 41, 42, 43] (fun m s => ∃ (i g : Nat), m + i = R.ths.length ∧ (∀ q ∈ R.ths.take i, q.args.length ≤ 4) ∧
      s = ⟨[(1, .ref 0 0), (4, .sl 1 0 (E0 ++ encs (R.ths.take i)).length g 1), (41, .t (.lst s2 t2 xs)), (42, .t (.int .i64 R.ths.length)), (43, .t (.int .i64 i))], [.box [.t (.int .i64 R.err), .t (.lst s1 t1 (Ns R.words)), .t (.lst s2 t2 xs), .t (.lst s3 t3 (Ps R.out)), .t (.int .i64 q0), .t (.int .i64 q1), .t (.int .i64 q2), .t (.int .i64 q3), .t (.int .i64 q4), .t (.int .i64 q5), .t (.int .i64 q6)], .row 1 g (B (E0 ++ encs (R.ths.take i)))]⟩) R.ths.length
    ⟨[0, 1], by simp [gcSt, keepOk, finG, resV, resOne, resAll, idx, V.ren, V.renL, Obj.ren, get_cons, get_nil, RTree, RTup, RRow], 0, gb + 1, by omega, by simp, by simp [encs, gcSt, keepOk, finG, resV, resOne, resAll, idx, V.ren, V.renL, Obj.ren, get_cons, get_nil, RTree, RTup, RRow]⟩ ?_
  rintro m s ⟨i, g, hm, hle, rfl⟩
  have htk : ∀ q ∈ R.ths.take i, q.Ok := fun q hq => kths q (List.mem_of_mem_take hq)
  have hel := encs_len htk hle
  have hel2 : (R.ths.take i).length ≤ 8 := by rw [List.length_take]; omega
  by_cases hi : i < R.ths.length
  · have hi' : decide ((i : Int) < R.ths.length) = true := decide_eq_true (by omega)
    have hix : (i : Int) < xs.length := by omega
    obtain ⟨sz, t, hsz, hat⟩ := ha i hi
    have hqk := kths _ (List.getElem_mem hi)
    have hs20 : s2 = 20 := h2.resolve_right (by intro e; rw [e] at hi; simp at hi)
    obtain ⟨C, hC⟩ : ∃ C, C = (R.ths[i]'hi).cells sz t := ⟨_, rfl⟩
    obtain ⟨k1, k2, k3, k4, k5, k6, k7, k8⟩ := (R.ths[i]'hi).facts2 hqk sz t C hC
    rw [← hC] at hat
    subst hs20
    have hP1 : E0 ++ encs (R.ths.take (i + 1)) = E0 ++ encs (R.ths.take i) ++ (R.ths[i]'hi).enc := by rw [encs_take hi, List.append_assoc]
    have hPl : (E0 ++ encs (R.ths.take i)).length ≤ 2 ^ 20 := by rw [List.length_append]; omega
    by_cases hargs : (R.ths[i]'hi).args.length ≤ 4
    · have ga4 : decide ((4 : Int) < (R.ths[i]'hi).args.length) = false := decide_eq_false (by omega)
      have cT := fun g => appendThread_sc (E0 ++ encs (R.ths.take i)) (by omega) (R.ths[i]'hi) hqk (by omega) sz t hsz g
      rw [← hC, ← hP1] at cT
      generalize E0 ++ encs (R.ths.take i) = P0 at *
      simp (maxSteps := 4000000) -implicitDefEqProofs (disch := omega) only [hi', hix, hat, Int.toNat_natCast, k1, k2, k3, k4, k5, k6, k7, Ns_length, ga4, ↓sxPre, sxPost, sxLib, if_true, if_false, Nat.reduceEqDiff, ↓reduceIte, Nat.reduceAdd, Nat.reduceSub, Nat.reduceMul, Nat.reduceLT, Nat.reduceLeDiff, reduceCtorEq, eq_self, K.isEff, List.reduceReplicate]
      generalize hP2 : E0 ++ encs (R.ths.take (i + 1)) = P2 at *
      have hP2l : P2.length = E0.length + (encs (R.ths.take (i + 1))).length := by rw [← hP2, List.length_append]
      refine ⟨by omega, step_app (ys := B P2) 1 (by simp) ?_ fun gd => ?_⟩
      · have := cT g
        simpa [V.ren, V.renL, idx, Abs.get, ev, sub, Obj.ren, k6] using this
      simp (maxSteps := 4000000) -implicitDefEqProofs (disch := omega) only [B_length, ↓sxPre, sxPost, sxLib, if_true, if_false, Nat.reduceEqDiff, ↓reduceIte, Nat.reduceAdd, Nat.reduceSub, Nat.reduceMul, Nat.reduceLT, Nat.reduceLeDiff, reduceCtorEq, eq_self, K.isEff, List.reduceReplicate]
      refine ⟨m - 1, by omega, [0, 1], by simp [gcSt, keepOk, finG, resV, resOne, resAll, idx, V.ren, V.renL, Obj.ren, get_cons, get_nil, RTree, RTup, RRow], i + 1, gd, by omega, ?_, ?_⟩
      · intro q hq
        rw [List.take_succ_eq_append_getElem hi, List.mem_append] at hq
        rcases hq with hq | hq
        · exact hle q hq
        · rw [List.mem_singleton.1 hq]; exact hargs
      · rw [hP2]
        simp [hP2l, gcSt, keepOk, finG, resV, resOne, resAll, idx, V.ren, V.renL, Obj.ren, get_cons, get_nil, RTree, RTup, RRow]
    · have ga4 : decide ((4 : Int) < (R.ths[i]'hi).args.length) = true := decide_eq_true (by omega)
      have hnf : ¬ R.Fit := fun h => hargs (h.2.2.2 _ (List.getElem_mem hi))
      generalize E0 ++ encs (R.ths.take i) = P0 at *
      simp (maxSteps := 4000000) -implicitDefEqProofs (disch := omega) only [hi', hix, hat, Int.toNat_natCast, k1, k2, k3, k4, k5, k6, k7, Ns_length, ga4, ↓sxPre, sxPost, sxLib, if_true, if_false, Nat.reduceEqDiff, ↓reduceIte, Nat.reduceAdd, Nat.reduceSub, Nat.reduceMul, Nat.reduceLT, Nat.reduceLeDiff, reduceCtorEq, eq_self, K.isEff, List.reduceReplicate]
      refine ⟨by omega, finK_gc [] ?_⟩
      simp [REncR, hnf, gcSt, keepOk, finG, resV, resOne, resAll, idx, V.ren, V.renL, Obj.ren, get_cons, get_nil, RTree, RTup, RRow]
  · have hi' : decide ((i : Int) < R.ths.length) = false := decide_eq_false (by omega)
    obtain rfl : i = R.ths.length := by omega
    rw [List.take_length] at hle hel hel2 ⊢
    have hfit : R.Fit := ⟨hb1, hb2, hb3, hle⟩
    have hE2l : (E0 ++ encs R.ths).length ≤ 2 ^ 20 := by rw [List.length_append]; omega
    have henc : R.enc = E0 ++ encs R.ths ++ enI (flatO R.out) ++ enI R.stop := by rw [Rp.enc, hE0]
    generalize E0 ++ encs R.ths = E2 at *
    have cO := fun g => app_row E2 (flatO R.out) (by omega) kout (by rw [flatO_length]; omega) 1 false (.inl rfl) g
    have cO0 := fun g (h : R.out = []) => app_row E2 (flatO R.out) (by omega) kout (by rw [flatO_length]; omega) 0 true (.inr (by rw [h]; rfl)) g
    have hOl := enI_len kout (by rw [flatO_length]; omega)
    rw [flatO_length] at hOl
    have cS := fun g => app_row (E2 ++ enI (flatO R.out)) R.stop (by rw [List.length_append]; omega) kstop (by omega) 1 true (.inl rfl) g
    rw [← henc] at cS
    generalize E2 ++ enI (flatO R.out) = E3 at *
    simp (maxSteps := 4000000) -implicitDefEqProofs (disch := omega) only [hi', Ps_length, ↓sxPre, sxPost, sxLib, if_true, if_false, Nat.reduceEqDiff, ↓reduceIte, Nat.reduceAdd, Nat.reduceSub, Nat.reduceMul, Nat.reduceLT, Nat.reduceLeDiff, reduceCtorEq, eq_self, K.isEff, List.reduceReplicate]
    refine wpC_loop_any [1, 4, 7, 56, 57, 58] (fun m s => ∃ (i : Nat) (x : V) (H : Heap), m + i = R.out.length ∧
        ((i = 0 ∧ x = .t (.lst 0 true []) ∧ H = []) ∨ ∃ g', x = .sl 2 0 (2 * i) g' 1 ∧ H = [.row 1 g' (Ns (flatO (R.out.take i)))]) ∧
        s = ⟨[(1, .ref 0 0), (4, .sl 1 0 E2.length g 1), (7, x), (56, .t (.lst s3 t3 (Ps R.out))), (57, .t (.int .i64 R.out.length)), (58, .t (.int .i64 i))], .box [.t (.int .i64 R.err), .t (.lst s1 t1 (Ns R.words)), .t (.lst s2 t2 xs), .t (.lst s3 t3 (Ps R.out)), .t (.int .i64 q0), .t (.int .i64 q1), .t (.int .i64 q2), .t (.int .i64 q3), .t (.int .i64 q4), .t (.int .i64 q5), .t (.int .i64 q6)] :: .row 1 g (B E2) :: H⟩) R.out.length
      ⟨[0, 1], by simp [gcSt, keepOk, finG, resV, resOne, resAll, idx, V.ren, V.renL, Obj.ren, get_cons, get_nil, RTree, RTup, RRow], 0, .t (.lst 0 true []), [], by omega, .inl ⟨rfl, rfl, rfl⟩, by simp [hE0, gcSt, keepOk, finG, resV, resOne, resAll, idx, V.ren, V.renL, Obj.ren, get_cons, get_nil, RTree, RTup, RRow]⟩ ?_
    rintro m s ⟨i, x, H, hm, hxH, rfl⟩
    by_cases hi : i < R.out.length
    · have hi' : decide ((i : Int) < R.out.length) = true := decide_eq_true (by omega)
      have hio : (i : Int) < R.out.length := by omega
      have hs2 : s3 = 2 := h3.resolve_right (by intro e; rw [e] at hi; simp at hi)
      subst hs2
      have hft := flatO_take hi
      have hfl := flatO_length (R.out.take i)
      have hfl2 : (R.out.take i).length = i := by rw [List.length_take]; omega
      rw [hfl2] at hfl
      rcases hxH with ⟨rfl, rfl, rfl⟩ | ⟨g', rfl, rfl⟩
      · simp (maxSteps := 4000000) -implicitDefEqProofs (disch := omega) only [hi', hio, Ps_length, at_Ps hi, Int.toNat_natCast, putAt_zero, keff_buildSlice, toElems_cons, toElems_nil, toElem_t, setElems_cons, setElems_nil, ↓sxPre, sxPost, sxLib, if_true, if_false, Nat.reduceEqDiff, ↓reduceIte, Nat.reduceAdd, Nat.reduceSub, Nat.reduceMul, Nat.reduceLT, Nat.reduceLeDiff, reduceCtorEq, eq_self, K.isEff, List.reduceReplicate]
        refine ⟨by omega, by omega, m - 1, by omega, [0, 1, 3], by simp [gcSt, keepOk, finG, resV, resOne, resAll, idx, V.ren, V.renL, Obj.ren, get_cons, get_nil, RTree, RTup, RRow], 1, _, _, by omega, .inr ⟨0, rfl, rfl⟩, ?_⟩
        rw [hft]
        simp [flatO, Ns, gcSt, keepOk, finG, resV, resOne, resAll, idx, V.ren, V.renL, Obj.ren, get_cons, get_nil, RTree, RTup, RRow]
      · simp (maxSteps := 4000000) -implicitDefEqProofs (disch := omega) only [hi', hio, Ps_length, at_Ps hi, Int.toNat_natCast, putAt_zero, keff_buildSlice, toElems_cons, toElems_nil, toElem_t, setElems_cons, setElems_nil, Ns_length, hfl, ↓sxPre, sxPost, sxLib, if_true, if_false, Nat.reduceEqDiff, ↓reduceIte, Nat.reduceAdd, Nat.reduceSub, Nat.reduceMul, Nat.reduceLT, Nat.reduceLeDiff, reduceCtorEq, eq_self, K.isEff, List.reduceReplicate]
        refine ⟨by omega, by omega, m - 1, by omega, [0, 1, 2], by simp [gcSt, keepOk, finG, resV, resOne, resAll, idx, V.ren, V.renL, Obj.ren, get_cons, get_nil, RTree, RTup, RRow], i + 1, _, _, by omega, .inr ⟨g' + 1, rfl, rfl⟩, ?_⟩
        rw [hft, Ns_append]
        simp [Ns, Nat.mul_add, gcSt, keepOk, finG, resV, resOne, resAll, idx, V.ren, V.renL, Obj.ren, get_cons, get_nil, RTree, RTup, RRow]
    · have hi' : decide ((i : Int) < R.out.length) = false := decide_eq_false (by omega)
      obtain rfl : i = R.out.length := by omega
      rw [List.take_length] at hxH
      rcases hxH with ⟨h0, rfl, rfl⟩ | ⟨g', rfl, rfl⟩
      · have ho : R.out = [] := List.length_eq_zero_iff.1 h0
        simp (maxSteps := 4000000) -implicitDefEqProofs (disch := omega) only [hi', ↓sxPre, sxPost, sxLib, if_true, if_false, Nat.reduceEqDiff, ↓reduceIte, Nat.reduceAdd, Nat.reduceSub, Nat.reduceMul, Nat.reduceLT, Nat.reduceLeDiff, reduceCtorEq, eq_self, K.isEff, List.reduceReplicate]
        refine step_app (ys := B E3) 1 (by simp) ?_ fun gd => ?_
        · have := cO0 g ho
          rw [ho] at this
          simpa [V.ren, V.renL, idx, Abs.get, ev, sub, Obj.ren, flatO, Ns] using this
        simp (maxSteps := 4000000) -implicitDefEqProofs (disch := omega) only [Ns_length, B_length, putAt_zero, keff_buildSlice, toElems_cons, toElems_nil, toElem_t, setElems_cons, setElems_nil, ↓sxPre, sxPost, sxLib, if_true, if_false, Nat.reduceEqDiff, ↓reduceIte, Nat.reduceAdd, Nat.reduceSub, Nat.reduceMul, Nat.reduceLT, Nat.reduceLeDiff, reduceCtorEq, eq_self, K.isEff, List.reduceReplicate]
        simp only [hst]
        refine step_app (ys := B R.enc) 1 (by simp) ?_ fun ge => ?_
        · have := cS gd
          simpa [V.ren, V.renL, idx, Abs.get, ev, sub, Obj.ren] using this
        simp (maxSteps := 4000000) -implicitDefEqProofs (disch := omega) only [B_length, ↓sxPre, sxPost, sxLib, if_true, if_false, Nat.reduceEqDiff, ↓reduceIte, Nat.reduceAdd, Nat.reduceSub, Nat.reduceMul, Nat.reduceLT, Nat.reduceLeDiff, reduceCtorEq, eq_self, K.isEff, List.reduceReplicate]
        refine finK_gc [1] ?_
        simp [REncR, REnc, hfit, gcSt, keepOk, finG, resV, resOne, resAll, idx, V.ren, V.renL, Obj.ren, get_cons, get_nil, RTree, RTup, RRow]
      · have hON : (Ns (flatO R.out)).take (2 * R.out.length) = Ns (flatO R.out) := List.take_of_length_le (by rw [Ns_length, flatO_length]; omega)
        simp (maxSteps := 4000000) -implicitDefEqProofs (disch := omega) only [hi', ↓sxPre, sxPost, sxLib, if_true, if_false, Nat.reduceEqDiff, ↓reduceIte, Nat.reduceAdd, Nat.reduceSub, Nat.reduceMul, Nat.reduceLT, Nat.reduceLeDiff, reduceCtorEq, eq_self, K.isEff, List.reduceReplicate]
        refine step_app2 (ys := B E3) (v := .sl 2 0 (2 * R.out.length) g' 1) 1 rfl (x := .lst 1 false (Ns (flatO R.out))) (H1 := [.box [.t (.int .i64 R.err), .t (.lst s1 t1 (Ns R.words)), .t (.lst s2 t2 xs), .t (.lst s3 t3 (Ps R.out)), .t (.int .i64 q0), .t (.int .i64 q1), .t (.int .i64 q2), .t (.int .i64 q3), .t (.int .i64 q4), .t (.int .i64 q5), .t (.int .i64 q6)], .row 1 g (B E2), .frz 1 g' (Ns (flatO R.out))]) ?_ 1 (by simp) ?_ fun gd => ?_
        · rw [toT_sl]; simp [rowOf, hON]
        · have := cO g
          simpa [V.ren, V.renL, idx, Abs.get, ev, sub, Obj.ren] using this
        simp (maxSteps := 4000000) -implicitDefEqProofs (disch := omega) only [Ns_length, B_length, putAt_zero, keff_buildSlice, toElems_cons, toElems_nil, toElem_t, setElems_cons, setElems_nil, ↓sxPre, sxPost, sxLib, if_true, if_false, Nat.reduceEqDiff, ↓reduceIte, Nat.reduceAdd, Nat.reduceSub, Nat.reduceMul, Nat.reduceLT, Nat.reduceLeDiff, reduceCtorEq, eq_self, K.isEff, List.reduceReplicate]
        simp only [hst]
        refine step_app (ys := B R.enc) 1 (by simp) ?_ fun ge => ?_
        · have := cS gd
          simpa [V.ren, V.renL, idx, Abs.get, ev, sub, Obj.ren] using this
        simp (maxSteps := 4000000) -implicitDefEqProofs (disch := omega) only [B_length, ↓sxPre, sxPost, sxLib, if_true, if_false, Nat.reduceEqDiff, ↓reduceIte, Nat.reduceAdd, Nat.reduceSub, Nat.reduceMul, Nat.reduceLT, Nat.reduceLeDiff, reduceCtorEq, eq_self, K.isEff, List.reduceReplicate]
        refine finK_gc [1] ?_
        simp [REncR, REnc, hfit, gcSt, keepOk, finG, resV, resOne, resAll, idx, V.ren, V.renL, Obj.ren, get_cons, get_nil, RTree, RTup, RRow]
end Go.Proofs.Ytljjabccgbakgaa
