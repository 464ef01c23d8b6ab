/- Packets: which ones are right. By the session itself. -/
import Derived.Test.YtbpclinijbgchaaSum
import Derived.Test.YtbpclinijbgchaaReads
import Derived.Test.YtbpclinijbgchaaWrites
namespace Go.Proofs.Ytbpclinijbgchaa
open Go Go.Abs
set_option maxRecDepth 100000
set_option maxHeartbeats 4000000
set_option linter.unusedSimpArgs false
set_option linter.unusedVariables false

/-- A packet. -/
structure Pk where
  kind : Int
  src : Int
  dst : Int
  seq : Int
  ack : Int
  body : List Int
  deriving DecidableEq

def I64 (n : Int) : Prop := -2 ^ 63 ≤ n ∧ n < 2 ^ 63
def Pk.Ok (p : Pk) : Prop := I64 p.kind ∧ I64 p.src ∧ I64 p.dst ∧ I64 p.seq ∧ I64 p.ack ∧ Bytes p.body ∧ p.body.length < 2 ^ 63

/-- A packet whose body stands in a list of that size. -/
def Pk.cells (p : Pk) (sz : Nat) (tight : Bool) : List T := [.int .i64 p.kind, .int .i64 p.src, .int .i64 p.dst, .int .i64 p.seq, .int .i64 p.ack, .lst sz tight (B p.body)]

def Pk.right (p : Pk) : Bool := decide (1 ≤ p.kind ∧ p.kind ≤ 3 ∧ 1 ≤ p.src ∧ p.src ≤ 1073741824 ∧ 0 ≤ p.dst ∧ p.dst ≤ 1073741824 ∧ 0 ≤ p.seq ∧ p.seq ≤ 1073741824 ∧ 0 ≤ p.ack ∧ p.ack ≤ 1073741824 ∧ p.body.length ≤ 6000 ∧ (p.kind = 2 → 1 ≤ p.seq) ∧ (p.kind ≠ 2 → p.seq = 0 ∧ p.body.length = 0))

theorem number_sc33 (n : Int) : SCall PP N.packet_number [.t (.int .i64 n)] [] (RTree (.bool (decide (0 ≤ n ∧ n ≤ 1073741824)))) := by
  refine packet_number.intro (by simp) ?_
  by_cases h : 0 ≤ n
  · have h1 : decide (0 ≤ n) = true := decide_eq_true h
    simp (maxSteps := 4000000) -implicitDefEqProofs (disch := omega) only [h1, ↓sxPre, sxPost, sxLib, if_true, if_false, Nat.reduceEqDiff, ↓reduceIte, Nat.reduceAdd, Nat.reduceSub, Nat.reduceMul, Nat.reduceLT, Nat.reduceLeDiff, reduceCtorEq, eq_self, K.isEff, List.reduceReplicate]
    refine finK_gc [] ?_
    simp [h, gcSt, keepOk, finG, resV, resOne, resAll, idx, V.ren, V.renL, Obj.ren, get_cons, get_nil, RTree, RTup, RRow]
  · have h1 : decide (0 ≤ n) = false := decide_eq_false h
    simp (maxSteps := 4000000) -implicitDefEqProofs (disch := omega) only [h1, ↓sxPre, sxPost, sxLib, if_true, if_false, Nat.reduceEqDiff, ↓reduceIte, Nat.reduceAdd, Nat.reduceSub, Nat.reduceMul, Nat.reduceLT, Nat.reduceLeDiff, reduceCtorEq, eq_self, K.isEff, List.reduceReplicate]
    refine finK_gc [] ?_
    simp [h, gcSt, keepOk, finG, resV, resOne, resAll, idx, V.ren, V.renL, Obj.ren, get_cons, get_nil, RTree, RTup, RRow]

theorem Right_sc (p : Pk) (hp : p.body.length < 2 ^ 63) (sz : Nat) (tight : Bool) : SCall PP N.packet_Right [.agg ((p.cells sz tight).map V.t)] [] (RTree (.bool p.right)) := by
  refine packet_Right.intro (by simp) ?_
  obtain ⟨kind, src, dst, seq, ack, body⟩ := p
  obtain ⟨r, hr⟩ : ∃ r, r = Pk.right ⟨kind, src, dst, seq, ack, body⟩ := ⟨_, rfl⟩
  rw [← hr]
  simp only [Pk.cells]
  simp only [Pk.right] at hr
  by_cases h0 : kind < 1
  · simp (maxSteps := 4000000) -implicitDefEqProofs (disch := omega) only [h0, B_length, ↓sxPre, sxPost, sxLib, if_true, if_false, Nat.reduceEqDiff, ↓reduceIte, Nat.reduceAdd, Nat.reduceSub, Nat.reduceMul, Nat.reduceLT, Nat.reduceLeDiff, reduceCtorEq, eq_self, K.isEff, List.reduceReplicate]
    repeat
      refine step_guard rfl (fun h => absurd h (by decide)) (fun _ => ?_)
      simp (maxSteps := 4000000) -implicitDefEqProofs (disch := omega) only [B_length, ↓sxPre, sxPost, sxLib, if_true, if_false, Nat.reduceEqDiff, ↓reduceIte, Nat.reduceAdd, Nat.reduceSub, Nat.reduceMul, Nat.reduceLT, Nat.reduceLeDiff, reduceCtorEq, eq_self, K.isEff, List.reduceReplicate]
    obtain rfl : r = false := by rw [hr]; exact decide_eq_false (by omega)
    refine finK_gc [] ?_
    simp [gcSt, keepOk, finG, resV, resOne, resAll, idx, V.ren, V.renL, Obj.ren, get_cons, get_nil, RTree, RTup, RRow]
  by_cases h1 : 3 < kind
  · simp (maxSteps := 4000000) -implicitDefEqProofs (disch := omega) only [h0, h1, B_length, ↓sxPre, sxPost, sxLib, if_true, if_false, Nat.reduceEqDiff, ↓reduceIte, Nat.reduceAdd, Nat.reduceSub, Nat.reduceMul, Nat.reduceLT, Nat.reduceLeDiff, reduceCtorEq, eq_self, K.isEff, List.reduceReplicate]
    repeat
      refine step_guard rfl (fun h => absurd h (by decide)) (fun _ => ?_)
      simp (maxSteps := 4000000) -implicitDefEqProofs (disch := omega) only [B_length, ↓sxPre, sxPost, sxLib, if_true, if_false, Nat.reduceEqDiff, ↓reduceIte, Nat.reduceAdd, Nat.reduceSub, Nat.reduceMul, Nat.reduceLT, Nat.reduceLeDiff, reduceCtorEq, eq_self, K.isEff, List.reduceReplicate]
    obtain rfl : r = false := by rw [hr]; exact decide_eq_false (by omega)
    refine finK_gc [] ?_
    simp [gcSt, keepOk, finG, resV, resOne, resAll, idx, V.ren, V.renL, Obj.ren, get_cons, get_nil, RTree, RTup, RRow]
  by_cases h2 : src < 1
  · simp (maxSteps := 4000000) -implicitDefEqProofs (disch := omega) only [h0, h1, h2, B_length, ↓sxPre, sxPost, sxLib, if_true, if_false, Nat.reduceEqDiff, ↓reduceIte, Nat.reduceAdd, Nat.reduceSub, Nat.reduceMul, Nat.reduceLT, Nat.reduceLeDiff, reduceCtorEq, eq_self, K.isEff, List.reduceReplicate]
    repeat
      refine step_guard rfl (fun h => absurd h (by decide)) (fun _ => ?_)
      simp (maxSteps := 4000000) -implicitDefEqProofs (disch := omega) only [B_length, ↓sxPre, sxPost, sxLib, if_true, if_false, Nat.reduceEqDiff, ↓reduceIte, Nat.reduceAdd, Nat.reduceSub, Nat.reduceMul, Nat.reduceLT, Nat.reduceLeDiff, reduceCtorEq, eq_self, K.isEff, List.reduceReplicate]
    obtain rfl : r = false := by rw [hr]; exact decide_eq_false (by omega)
    refine finK_gc [] ?_
    simp [gcSt, keepOk, finG, resV, resOne, resAll, idx, V.ren, V.renL, Obj.ren, get_cons, get_nil, RTree, RTup, RRow]
  by_cases h3 : 0 ≤ src ∧ src ≤ 1073741824
  case neg =>
    have d3 : decide (0 ≤ src ∧ src ≤ 1073741824) = false := decide_eq_false h3
    simp (maxSteps := 4000000) -implicitDefEqProofs (disch := omega) only [h0, h1, h2, B_length, ↓sxPre, sxPost, sxLib, if_true, if_false, Nat.reduceEqDiff, ↓reduceIte, Nat.reduceAdd, Nat.reduceSub, Nat.reduceMul, Nat.reduceLT, Nat.reduceLeDiff, reduceCtorEq, eq_self, K.isEff, List.reduceReplicate]
    refine step_guard rfl (fun _ => step_tree (number_sc33 _) rfl ?_) (fun h => absurd rfl h)
    simp (maxSteps := 4000000) -implicitDefEqProofs (disch := omega) only [h0, h1, h2, d3, B_length, ↓sxPre, sxPost, sxLib, if_true, if_false, Nat.reduceEqDiff, ↓reduceIte, Nat.reduceAdd, Nat.reduceSub, Nat.reduceMul, Nat.reduceLT, Nat.reduceLeDiff, reduceCtorEq, eq_self, K.isEff, List.reduceReplicate]
    repeat
      refine step_guard rfl (fun h => absurd h (by decide)) (fun _ => ?_)
      simp (maxSteps := 4000000) -implicitDefEqProofs (disch := omega) only [B_length, ↓sxPre, sxPost, sxLib, if_true, if_false, Nat.reduceEqDiff, ↓reduceIte, Nat.reduceAdd, Nat.reduceSub, Nat.reduceMul, Nat.reduceLT, Nat.reduceLeDiff, reduceCtorEq, eq_self, K.isEff, List.reduceReplicate]
    obtain rfl : r = false := by rw [hr]; exact decide_eq_false (by omega)
    refine finK_gc [] ?_
    simp [gcSt, keepOk, finG, resV, resOne, resAll, idx, V.ren, V.renL, Obj.ren, get_cons, get_nil, RTree, RTup, RRow]
  have d3 : decide (0 ≤ src ∧ src ≤ 1073741824) = true := decide_eq_true h3
  by_cases h4 : 0 ≤ dst ∧ dst ≤ 1073741824
  case neg =>
    have d4 : decide (0 ≤ dst ∧ dst ≤ 1073741824) = false := decide_eq_false h4
    simp (maxSteps := 4000000) -implicitDefEqProofs (disch := omega) only [h0, h1, h2, B_length, ↓sxPre, sxPost, sxLib, if_true, if_false, Nat.reduceEqDiff, ↓reduceIte, Nat.reduceAdd, Nat.reduceSub, Nat.reduceMul, Nat.reduceLT, Nat.reduceLeDiff, reduceCtorEq, eq_self, K.isEff, List.reduceReplicate]
    refine step_guard rfl (fun _ => step_tree (number_sc33 _) rfl ?_) (fun h => absurd rfl h)
    simp (maxSteps := 4000000) -implicitDefEqProofs (disch := omega) only [h0, h1, h2, d3, B_length, ↓sxPre, sxPost, sxLib, if_true, if_false, Nat.reduceEqDiff, ↓reduceIte, Nat.reduceAdd, Nat.reduceSub, Nat.reduceMul, Nat.reduceLT, Nat.reduceLeDiff, reduceCtorEq, eq_self, K.isEff, List.reduceReplicate]
    refine step_guard rfl (fun _ => step_tree (number_sc33 _) rfl ?_) (fun h => absurd rfl h)
    simp (maxSteps := 4000000) -implicitDefEqProofs (disch := omega) only [h0, h1, h2, d4, B_length, ↓sxPre, sxPost, sxLib, if_true, if_false, Nat.reduceEqDiff, ↓reduceIte, Nat.reduceAdd, Nat.reduceSub, Nat.reduceMul, Nat.reduceLT, Nat.reduceLeDiff, reduceCtorEq, eq_self, K.isEff, List.reduceReplicate]
    repeat
      refine step_guard rfl (fun h => absurd h (by decide)) (fun _ => ?_)
      simp (maxSteps := 4000000) -implicitDefEqProofs (disch := omega) only [B_length, ↓sxPre, sxPost, sxLib, if_true, if_false, Nat.reduceEqDiff, ↓reduceIte, Nat.reduceAdd, Nat.reduceSub, Nat.reduceMul, Nat.reduceLT, Nat.reduceLeDiff, reduceCtorEq, eq_self, K.isEff, List.reduceReplicate]
    obtain rfl : r = false := by rw [hr]; exact decide_eq_false (by omega)
    refine finK_gc [] ?_
    simp [gcSt, keepOk, finG, resV, resOne, resAll, idx, V.ren, V.renL, Obj.ren, get_cons, get_nil, RTree, RTup, RRow]
  have d4 : decide (0 ≤ dst ∧ dst ≤ 1073741824) = true := decide_eq_true h4
  by_cases h5 : 0 ≤ seq ∧ seq ≤ 1073741824
  case neg =>
    have d5 : decide (0 ≤ seq ∧ seq ≤ 1073741824) = false := decide_eq_false h5
    simp (maxSteps := 4000000) -implicitDefEqProofs (disch := omega) only [h0, h1, h2, B_length, ↓sxPre, sxPost, sxLib, if_true, if_false, Nat.reduceEqDiff, ↓reduceIte, Nat.reduceAdd, Nat.reduceSub, Nat.reduceMul, Nat.reduceLT, Nat.reduceLeDiff, reduceCtorEq, eq_self, K.isEff, List.reduceReplicate]
    refine step_guard rfl (fun _ => step_tree (number_sc33 _) rfl ?_) (fun h => absurd rfl h)
    simp (maxSteps := 4000000) -implicitDefEqProofs (disch := omega) only [h0, h1, h2, d3, B_length, ↓sxPre, sxPost, sxLib, if_true, if_false, Nat.reduceEqDiff, ↓reduceIte, Nat.reduceAdd, Nat.reduceSub, Nat.reduceMul, Nat.reduceLT, Nat.reduceLeDiff, reduceCtorEq, eq_self, K.isEff, List.reduceReplicate]
    refine step_guard rfl (fun _ => step_tree (number_sc33 _) rfl ?_) (fun h => absurd rfl h)
    simp (maxSteps := 4000000) -implicitDefEqProofs (disch := omega) only [h0, h1, h2, d4, B_length, ↓sxPre, sxPost, sxLib, if_true, if_false, Nat.reduceEqDiff, ↓reduceIte, Nat.reduceAdd, Nat.reduceSub, Nat.reduceMul, Nat.reduceLT, Nat.reduceLeDiff, reduceCtorEq, eq_self, K.isEff, List.reduceReplicate]
    refine step_guard rfl (fun _ => step_tree (number_sc33 _) rfl ?_) (fun h => absurd rfl h)
    simp (maxSteps := 4000000) -implicitDefEqProofs (disch := omega) only [h0, h1, h2, d5, B_length, ↓sxPre, sxPost, sxLib, if_true, if_false, Nat.reduceEqDiff, ↓reduceIte, Nat.reduceAdd, Nat.reduceSub, Nat.reduceMul, Nat.reduceLT, Nat.reduceLeDiff, reduceCtorEq, eq_self, K.isEff, List.reduceReplicate]
    repeat
      refine step_guard rfl (fun h => absurd h (by decide)) (fun _ => ?_)
      simp (maxSteps := 4000000) -implicitDefEqProofs (disch := omega) only [B_length, ↓sxPre, sxPost, sxLib, if_true, if_false, Nat.reduceEqDiff, ↓reduceIte, Nat.reduceAdd, Nat.reduceSub, Nat.reduceMul, Nat.reduceLT, Nat.reduceLeDiff, reduceCtorEq, eq_self, K.isEff, List.reduceReplicate]
    obtain rfl : r = false := by rw [hr]; exact decide_eq_false (by omega)
    refine finK_gc [] ?_
    simp [gcSt, keepOk, finG, resV, resOne, resAll, idx, V.ren, V.renL, Obj.ren, get_cons, get_nil, RTree, RTup, RRow]
  have d5 : decide (0 ≤ seq ∧ seq ≤ 1073741824) = true := decide_eq_true h5
  by_cases h6 : 0 ≤ ack ∧ ack ≤ 1073741824
  case neg =>
    have d6 : decide (0 ≤ ack ∧ ack ≤ 1073741824) = false := decide_eq_false h6
    simp (maxSteps := 4000000) -implicitDefEqProofs (disch := omega) only [h0, h1, h2, B_length, ↓sxPre, sxPost, sxLib, if_true, if_false, Nat.reduceEqDiff, ↓reduceIte, Nat.reduceAdd, Nat.reduceSub, Nat.reduceMul, Nat.reduceLT, Nat.reduceLeDiff, reduceCtorEq, eq_self, K.isEff, List.reduceReplicate]
    refine step_guard rfl (fun _ => step_tree (number_sc33 _) rfl ?_) (fun h => absurd rfl h)
    simp (maxSteps := 4000000) -implicitDefEqProofs (disch := omega) only [h0, h1, h2, d3, B_length, ↓sxPre, sxPost, sxLib, if_true, if_false, Nat.reduceEqDiff, ↓reduceIte, Nat.reduceAdd, Nat.reduceSub, Nat.reduceMul, Nat.reduceLT, Nat.reduceLeDiff, reduceCtorEq, eq_self, K.isEff, List.reduceReplicate]
    refine step_guard rfl (fun _ => step_tree (number_sc33 _) rfl ?_) (fun h => absurd rfl h)
    simp (maxSteps := 4000000) -implicitDefEqProofs (disch := omega) only [h0, h1, h2, d4, B_length, ↓sxPre, sxPost, sxLib, if_true, if_false, Nat.reduceEqDiff, ↓reduceIte, Nat.reduceAdd, Nat.reduceSub, Nat.reduceMul, Nat.reduceLT, Nat.reduceLeDiff, reduceCtorEq, eq_self, K.isEff, List.reduceReplicate]
    refine step_guard rfl (fun _ => step_tree (number_sc33 _) rfl ?_) (fun h => absurd rfl h)
    simp (maxSteps := 4000000) -implicitDefEqProofs (disch := omega) only [h0, h1, h2, d5, B_length, ↓sxPre, sxPost, sxLib, if_true, if_false, Nat.reduceEqDiff, ↓reduceIte, Nat.reduceAdd, Nat.reduceSub, Nat.reduceMul, Nat.reduceLT, Nat.reduceLeDiff, reduceCtorEq, eq_self, K.isEff, List.reduceReplicate]
    refine step_guard rfl (fun _ => step_tree (number_sc33 _) rfl ?_) (fun h => absurd rfl h)
    simp (maxSteps := 4000000) -implicitDefEqProofs (disch := omega) only [h0, h1, h2, d6, B_length, ↓sxPre, sxPost, sxLib, if_true, if_false, Nat.reduceEqDiff, ↓reduceIte, Nat.reduceAdd, Nat.reduceSub, Nat.reduceMul, Nat.reduceLT, Nat.reduceLeDiff, reduceCtorEq, eq_self, K.isEff, List.reduceReplicate]
    repeat
      refine step_guard rfl (fun h => absurd h (by decide)) (fun _ => ?_)
      simp (maxSteps := 4000000) -implicitDefEqProofs (disch := omega) only [B_length, ↓sxPre, sxPost, sxLib, if_true, if_false, Nat.reduceEqDiff, ↓reduceIte, Nat.reduceAdd, Nat.reduceSub, Nat.reduceMul, Nat.reduceLT, Nat.reduceLeDiff, reduceCtorEq, eq_self, K.isEff, List.reduceReplicate]
    obtain rfl : r = false := by rw [hr]; exact decide_eq_false (by omega)
    refine finK_gc [] ?_
    simp [gcSt, keepOk, finG, resV, resOne, resAll, idx, V.ren, V.renL, Obj.ren, get_cons, get_nil, RTree, RTup, RRow]
  have d6 : decide (0 ≤ ack ∧ ack ≤ 1073741824) = true := decide_eq_true h6
  by_cases h7 : (6000 : Int) < body.length
  · simp (maxSteps := 4000000) -implicitDefEqProofs (disch := omega) only [h0, h1, h2, h7, B_length, ↓sxPre, sxPost, sxLib, if_true, if_false, Nat.reduceEqDiff, ↓reduceIte, Nat.reduceAdd, Nat.reduceSub, Nat.reduceMul, Nat.reduceLT, Nat.reduceLeDiff, reduceCtorEq, eq_self, K.isEff, List.reduceReplicate]
    refine step_guard rfl (fun _ => step_tree (number_sc33 _) rfl ?_) (fun h => absurd rfl h)
    simp (maxSteps := 4000000) -implicitDefEqProofs (disch := omega) only [h0, h1, h2, h7, d3, B_length, ↓sxPre, sxPost, sxLib, if_true, if_false, Nat.reduceEqDiff, ↓reduceIte, Nat.reduceAdd, Nat.reduceSub, Nat.reduceMul, Nat.reduceLT, Nat.reduceLeDiff, reduceCtorEq, eq_self, K.isEff, List.reduceReplicate]
    refine step_guard rfl (fun _ => step_tree (number_sc33 _) rfl ?_) (fun h => absurd rfl h)
    simp (maxSteps := 4000000) -implicitDefEqProofs (disch := omega) only [h0, h1, h2, h7, d4, B_length, ↓sxPre, sxPost, sxLib, if_true, if_false, Nat.reduceEqDiff, ↓reduceIte, Nat.reduceAdd, Nat.reduceSub, Nat.reduceMul, Nat.reduceLT, Nat.reduceLeDiff, reduceCtorEq, eq_self, K.isEff, List.reduceReplicate]
    refine step_guard rfl (fun _ => step_tree (number_sc33 _) rfl ?_) (fun h => absurd rfl h)
    simp (maxSteps := 4000000) -implicitDefEqProofs (disch := omega) only [h0, h1, h2, h7, d5, B_length, ↓sxPre, sxPost, sxLib, if_true, if_false, Nat.reduceEqDiff, ↓reduceIte, Nat.reduceAdd, Nat.reduceSub, Nat.reduceMul, Nat.reduceLT, Nat.reduceLeDiff, reduceCtorEq, eq_self, K.isEff, List.reduceReplicate]
    refine step_guard rfl (fun _ => step_tree (number_sc33 _) rfl ?_) (fun h => absurd rfl h)
    simp (maxSteps := 4000000) -implicitDefEqProofs (disch := omega) only [h0, h1, h2, h7, d6, B_length, ↓sxPre, sxPost, sxLib, if_true, if_false, Nat.reduceEqDiff, ↓reduceIte, Nat.reduceAdd, Nat.reduceSub, Nat.reduceMul, Nat.reduceLT, Nat.reduceLeDiff, reduceCtorEq, eq_self, K.isEff, List.reduceReplicate]
    repeat
      refine step_guard rfl (fun h => absurd h (by decide)) (fun _ => ?_)
      simp (maxSteps := 4000000) -implicitDefEqProofs (disch := omega) only [B_length, ↓sxPre, sxPost, sxLib, if_true, if_false, Nat.reduceEqDiff, ↓reduceIte, Nat.reduceAdd, Nat.reduceSub, Nat.reduceMul, Nat.reduceLT, Nat.reduceLeDiff, reduceCtorEq, eq_self, K.isEff, List.reduceReplicate]
    obtain rfl : r = false := by rw [hr]; exact decide_eq_false (by omega)
    refine finK_gc [] ?_
    simp [gcSt, keepOk, finG, resV, resOne, resAll, idx, V.ren, V.renL, Obj.ren, get_cons, get_nil, RTree, RTup, RRow]
  by_cases hk : kind = 2
  · have dk : decide (kind = 2) = true := decide_eq_true hk
    simp (maxSteps := 4000000) -implicitDefEqProofs (disch := omega) only [h0, h1, h2, h7, dk, B_length, ↓sxPre, sxPost, sxLib, if_true, if_false, Nat.reduceEqDiff, ↓reduceIte, Nat.reduceAdd, Nat.reduceSub, Nat.reduceMul, Nat.reduceLT, Nat.reduceLeDiff, reduceCtorEq, eq_self, K.isEff, List.reduceReplicate]
    refine step_guard rfl (fun _ => step_tree (number_sc33 _) rfl ?_) (fun h => absurd rfl h)
    simp (maxSteps := 4000000) -implicitDefEqProofs (disch := omega) only [h0, h1, h2, h7, dk, d3, B_length, ↓sxPre, sxPost, sxLib, if_true, if_false, Nat.reduceEqDiff, ↓reduceIte, Nat.reduceAdd, Nat.reduceSub, Nat.reduceMul, Nat.reduceLT, Nat.reduceLeDiff, reduceCtorEq, eq_self, K.isEff, List.reduceReplicate]
    refine step_guard rfl (fun _ => step_tree (number_sc33 _) rfl ?_) (fun h => absurd rfl h)
    simp (maxSteps := 4000000) -implicitDefEqProofs (disch := omega) only [h0, h1, h2, h7, dk, d4, B_length, ↓sxPre, sxPost, sxLib, if_true, if_false, Nat.reduceEqDiff, ↓reduceIte, Nat.reduceAdd, Nat.reduceSub, Nat.reduceMul, Nat.reduceLT, Nat.reduceLeDiff, reduceCtorEq, eq_self, K.isEff, List.reduceReplicate]
    refine step_guard rfl (fun _ => step_tree (number_sc33 _) rfl ?_) (fun h => absurd rfl h)
    simp (maxSteps := 4000000) -implicitDefEqProofs (disch := omega) only [h0, h1, h2, h7, dk, d5, B_length, ↓sxPre, sxPost, sxLib, if_true, if_false, Nat.reduceEqDiff, ↓reduceIte, Nat.reduceAdd, Nat.reduceSub, Nat.reduceMul, Nat.reduceLT, Nat.reduceLeDiff, reduceCtorEq, eq_self, K.isEff, List.reduceReplicate]
    refine step_guard rfl (fun _ => step_tree (number_sc33 _) rfl ?_) (fun h => absurd rfl h)
    simp (maxSteps := 4000000) -implicitDefEqProofs (disch := omega) only [h0, h1, h2, h7, dk, d6, B_length, ↓sxPre, sxPost, sxLib, if_true, if_false, Nat.reduceEqDiff, ↓reduceIte, Nat.reduceAdd, Nat.reduceSub, Nat.reduceMul, Nat.reduceLT, Nat.reduceLeDiff, reduceCtorEq, eq_self, K.isEff, List.reduceReplicate]
    obtain rfl : r = decide (1 ≤ seq) := by rw [hr]; exact decide_eq_decide.2 (by omega)
    refine finK_gc [] ?_
    simp [gcSt, keepOk, finG, resV, resOne, resAll, idx, V.ren, V.renL, Obj.ren, get_cons, get_nil, RTree, RTup, RRow]
  have dk : decide (kind = 2) = false := decide_eq_false hk
  by_cases hs : seq = 0
  · have ds : decide (seq = 0) = true := decide_eq_true hs
    simp (maxSteps := 4000000) -implicitDefEqProofs (disch := omega) only [h0, h1, h2, h7, dk, ds, B_length, ↓sxPre, sxPost, sxLib, if_true, if_false, Nat.reduceEqDiff, ↓reduceIte, Nat.reduceAdd, Nat.reduceSub, Nat.reduceMul, Nat.reduceLT, Nat.reduceLeDiff, reduceCtorEq, eq_self, K.isEff, List.reduceReplicate]
    refine step_guard rfl (fun _ => step_tree (number_sc33 _) rfl ?_) (fun h => absurd rfl h)
    simp (maxSteps := 4000000) -implicitDefEqProofs (disch := omega) only [h0, h1, h2, h7, dk, ds, d3, B_length, ↓sxPre, sxPost, sxLib, if_true, if_false, Nat.reduceEqDiff, ↓reduceIte, Nat.reduceAdd, Nat.reduceSub, Nat.reduceMul, Nat.reduceLT, Nat.reduceLeDiff, reduceCtorEq, eq_self, K.isEff, List.reduceReplicate]
    refine step_guard rfl (fun _ => step_tree (number_sc33 _) rfl ?_) (fun h => absurd rfl h)
    simp (maxSteps := 4000000) -implicitDefEqProofs (disch := omega) only [h0, h1, h2, h7, dk, ds, d4, B_length, ↓sxPre, sxPost, sxLib, if_true, if_false, Nat.reduceEqDiff, ↓reduceIte, Nat.reduceAdd, Nat.reduceSub, Nat.reduceMul, Nat.reduceLT, Nat.reduceLeDiff, reduceCtorEq, eq_self, K.isEff, List.reduceReplicate]
    refine step_guard rfl (fun _ => step_tree (number_sc33 _) rfl ?_) (fun h => absurd rfl h)
    simp (maxSteps := 4000000) -implicitDefEqProofs (disch := omega) only [h0, h1, h2, h7, dk, ds, d5, B_length, ↓sxPre, sxPost, sxLib, if_true, if_false, Nat.reduceEqDiff, ↓reduceIte, Nat.reduceAdd, Nat.reduceSub, Nat.reduceMul, Nat.reduceLT, Nat.reduceLeDiff, reduceCtorEq, eq_self, K.isEff, List.reduceReplicate]
    refine step_guard rfl (fun _ => step_tree (number_sc33 _) rfl ?_) (fun h => absurd rfl h)
    simp (maxSteps := 4000000) -implicitDefEqProofs (disch := omega) only [h0, h1, h2, h7, dk, ds, d6, B_length, ↓sxPre, sxPost, sxLib, if_true, if_false, Nat.reduceEqDiff, ↓reduceIte, Nat.reduceAdd, Nat.reduceSub, Nat.reduceMul, Nat.reduceLT, Nat.reduceLeDiff, reduceCtorEq, eq_self, K.isEff, List.reduceReplicate]
    obtain rfl : r = decide ((body.length : Int) = 0) := by rw [hr]; exact decide_eq_decide.2 (by omega)
    refine finK_gc [] ?_
    simp [gcSt, keepOk, finG, resV, resOne, resAll, idx, V.ren, V.renL, Obj.ren, get_cons, get_nil, RTree, RTup, RRow]
  have ds : decide (seq = 0) = false := decide_eq_false hs
  simp (maxSteps := 4000000) -implicitDefEqProofs (disch := omega) only [h0, h1, h2, h7, dk, ds, B_length, ↓sxPre, sxPost, sxLib, if_true, if_false, Nat.reduceEqDiff, ↓reduceIte, Nat.reduceAdd, Nat.reduceSub, Nat.reduceMul, Nat.reduceLT, Nat.reduceLeDiff, reduceCtorEq, eq_self, K.isEff, List.reduceReplicate]
  refine step_guard rfl (fun _ => step_tree (number_sc33 _) rfl ?_) (fun h => absurd rfl h)
  simp (maxSteps := 4000000) -implicitDefEqProofs (disch := omega) only [h0, h1, h2, h7, dk, ds, d3, B_length, ↓sxPre, sxPost, sxLib, if_true, if_false, Nat.reduceEqDiff, ↓reduceIte, Nat.reduceAdd, Nat.reduceSub, Nat.reduceMul, Nat.reduceLT, Nat.reduceLeDiff, reduceCtorEq, eq_self, K.isEff, List.reduceReplicate]
  refine step_guard rfl (fun _ => step_tree (number_sc33 _) rfl ?_) (fun h => absurd rfl h)
  simp (maxSteps := 4000000) -implicitDefEqProofs (disch := omega) only [h0, h1, h2, h7, dk, ds, d4, B_length, ↓sxPre, sxPost, sxLib, if_true, if_false, Nat.reduceEqDiff, ↓reduceIte, Nat.reduceAdd, Nat.reduceSub, Nat.reduceMul, Nat.reduceLT, Nat.reduceLeDiff, reduceCtorEq, eq_self, K.isEff, List.reduceReplicate]
  refine step_guard rfl (fun _ => step_tree (number_sc33 _) rfl ?_) (fun h => absurd rfl h)
  simp (maxSteps := 4000000) -implicitDefEqProofs (disch := omega) only [h0, h1, h2, h7, dk, ds, d5, B_length, ↓sxPre, sxPost, sxLib, if_true, if_false, Nat.reduceEqDiff, ↓reduceIte, Nat.reduceAdd, Nat.reduceSub, Nat.reduceMul, Nat.reduceLT, Nat.reduceLeDiff, reduceCtorEq, eq_self, K.isEff, List.reduceReplicate]
  refine step_guard rfl (fun _ => step_tree (number_sc33 _) rfl ?_) (fun h => absurd rfl h)
  simp (maxSteps := 4000000) -implicitDefEqProofs (disch := omega) only [h0, h1, h2, h7, dk, ds, d6, B_length, ↓sxPre, sxPost, sxLib, if_true, if_false, Nat.reduceEqDiff, ↓reduceIte, Nat.reduceAdd, Nat.reduceSub, Nat.reduceMul, Nat.reduceLT, Nat.reduceLeDiff, reduceCtorEq, eq_self, K.isEff, List.reduceReplicate]
  obtain rfl : r = false := by rw [hr]; exact decide_eq_false (by omega)
  refine finK_gc [] ?_
  simp [gcSt, keepOk, finG, resV, resOne, resAll, idx, V.ren, V.renL, Obj.ren, get_cons, get_nil, RTree, RTup, RRow]

theorem rRight_sc (p : Pk) (hp : p.body.length < 2 ^ 63) (sz : Nat) (tight : Bool) : SCall PP N.debuggerref33_Right [.agg ((p.cells sz tight).map V.t)] [] (RTree (.bool p.right)) := by
  refine debuggerref33_Right.intro (by simp) ?_
  obtain ⟨kind, src, dst, seq, ack, body⟩ := p
  obtain ⟨r, hr⟩ : ∃ r, r = Pk.right ⟨kind, src, dst, seq, ack, body⟩ := ⟨_, rfl⟩
  rw [← hr]
  simp only [Pk.cells]
  simp only [Pk.right] at hr
  by_cases h0 : kind < 1
  · simp (maxSteps := 4000000) -implicitDefEqProofs (disch := omega) only [h0, B_length, ↓sxPre, sxPost, sxLib, if_true, if_false, Nat.reduceEqDiff, ↓reduceIte, Nat.reduceAdd, Nat.reduceSub, Nat.reduceMul, Nat.reduceLT, Nat.reduceLeDiff, reduceCtorEq, eq_self, K.isEff, List.reduceReplicate]
    repeat
      refine step_guard rfl (fun h => absurd h (by decide)) (fun _ => ?_)
      simp (maxSteps := 4000000) -implicitDefEqProofs (disch := omega) only [B_length, ↓sxPre, sxPost, sxLib, if_true, if_false, Nat.reduceEqDiff, ↓reduceIte, Nat.reduceAdd, Nat.reduceSub, Nat.reduceMul, Nat.reduceLT, Nat.reduceLeDiff, reduceCtorEq, eq_self, K.isEff, List.reduceReplicate]
    obtain rfl : r = false := by rw [hr]; exact decide_eq_false (by omega)
    refine finK_gc [] ?_
    simp [gcSt, keepOk, finG, resV, resOne, resAll, idx, V.ren, V.renL, Obj.ren, get_cons, get_nil, RTree, RTup, RRow]
  by_cases h1 : 3 < kind
  · simp (maxSteps := 4000000) -implicitDefEqProofs (disch := omega) only [h0, h1, B_length, ↓sxPre, sxPost, sxLib, if_true, if_false, Nat.reduceEqDiff, ↓reduceIte, Nat.reduceAdd, Nat.reduceSub, Nat.reduceMul, Nat.reduceLT, Nat.reduceLeDiff, reduceCtorEq, eq_self, K.isEff, List.reduceReplicate]
    repeat
      refine step_guard rfl (fun h => absurd h (by decide)) (fun _ => ?_)
      simp (maxSteps := 4000000) -implicitDefEqProofs (disch := omega) only [B_length, ↓sxPre, sxPost, sxLib, if_true, if_false, Nat.reduceEqDiff, ↓reduceIte, Nat.reduceAdd, Nat.reduceSub, Nat.reduceMul, Nat.reduceLT, Nat.reduceLeDiff, reduceCtorEq, eq_self, K.isEff, List.reduceReplicate]
    obtain rfl : r = false := by rw [hr]; exact decide_eq_false (by omega)
    refine finK_gc [] ?_
    simp [gcSt, keepOk, finG, resV, resOne, resAll, idx, V.ren, V.renL, Obj.ren, get_cons, get_nil, RTree, RTup, RRow]
  by_cases h2 : src < 1
  · simp (maxSteps := 4000000) -implicitDefEqProofs (disch := omega) only [h0, h1, h2, B_length, ↓sxPre, sxPost, sxLib, if_true, if_false, Nat.reduceEqDiff, ↓reduceIte, Nat.reduceAdd, Nat.reduceSub, Nat.reduceMul, Nat.reduceLT, Nat.reduceLeDiff, reduceCtorEq, eq_self, K.isEff, List.reduceReplicate]
    repeat
      refine step_guard rfl (fun h => absurd h (by decide)) (fun _ => ?_)
      simp (maxSteps := 4000000) -implicitDefEqProofs (disch := omega) only [B_length, ↓sxPre, sxPost, sxLib, if_true, if_false, Nat.reduceEqDiff, ↓reduceIte, Nat.reduceAdd, Nat.reduceSub, Nat.reduceMul, Nat.reduceLT, Nat.reduceLeDiff, reduceCtorEq, eq_self, K.isEff, List.reduceReplicate]
    obtain rfl : r = false := by rw [hr]; exact decide_eq_false (by omega)
    refine finK_gc [] ?_
    simp [gcSt, keepOk, finG, resV, resOne, resAll, idx, V.ren, V.renL, Obj.ren, get_cons, get_nil, RTree, RTup, RRow]
  by_cases h3 : 1073741824 < src
  · simp (maxSteps := 4000000) -implicitDefEqProofs (disch := omega) only [h0, h1, h2, h3, B_length, ↓sxPre, sxPost, sxLib, if_true, if_false, Nat.reduceEqDiff, ↓reduceIte, Nat.reduceAdd, Nat.reduceSub, Nat.reduceMul, Nat.reduceLT, Nat.reduceLeDiff, reduceCtorEq, eq_self, K.isEff, List.reduceReplicate]
    repeat
      refine step_guard rfl (fun h => absurd h (by decide)) (fun _ => ?_)
      simp (maxSteps := 4000000) -implicitDefEqProofs (disch := omega) only [B_length, ↓sxPre, sxPost, sxLib, if_true, if_false, Nat.reduceEqDiff, ↓reduceIte, Nat.reduceAdd, Nat.reduceSub, Nat.reduceMul, Nat.reduceLT, Nat.reduceLeDiff, reduceCtorEq, eq_self, K.isEff, List.reduceReplicate]
    obtain rfl : r = false := by rw [hr]; exact decide_eq_false (by omega)
    refine finK_gc [] ?_
    simp [gcSt, keepOk, finG, resV, resOne, resAll, idx, V.ren, V.renL, Obj.ren, get_cons, get_nil, RTree, RTup, RRow]
  by_cases h4 : dst < 0
  · simp (maxSteps := 4000000) -implicitDefEqProofs (disch := omega) only [h0, h1, h2, h3, h4, B_length, ↓sxPre, sxPost, sxLib, if_true, if_false, Nat.reduceEqDiff, ↓reduceIte, Nat.reduceAdd, Nat.reduceSub, Nat.reduceMul, Nat.reduceLT, Nat.reduceLeDiff, reduceCtorEq, eq_self, K.isEff, List.reduceReplicate]
    repeat
      refine step_guard rfl (fun h => absurd h (by decide)) (fun _ => ?_)
      simp (maxSteps := 4000000) -implicitDefEqProofs (disch := omega) only [B_length, ↓sxPre, sxPost, sxLib, if_true, if_false, Nat.reduceEqDiff, ↓reduceIte, Nat.reduceAdd, Nat.reduceSub, Nat.reduceMul, Nat.reduceLT, Nat.reduceLeDiff, reduceCtorEq, eq_self, K.isEff, List.reduceReplicate]
    obtain rfl : r = false := by rw [hr]; exact decide_eq_false (by omega)
    refine finK_gc [] ?_
    simp [gcSt, keepOk, finG, resV, resOne, resAll, idx, V.ren, V.renL, Obj.ren, get_cons, get_nil, RTree, RTup, RRow]
  by_cases h5 : 1073741824 < dst
  · simp (maxSteps := 4000000) -implicitDefEqProofs (disch := omega) only [h0, h1, h2, h3, h4, h5, B_length, ↓sxPre, sxPost, sxLib, if_true, if_false, Nat.reduceEqDiff, ↓reduceIte, Nat.reduceAdd, Nat.reduceSub, Nat.reduceMul, Nat.reduceLT, Nat.reduceLeDiff, reduceCtorEq, eq_self, K.isEff, List.reduceReplicate]
    repeat
      refine step_guard rfl (fun h => absurd h (by decide)) (fun _ => ?_)
      simp (maxSteps := 4000000) -implicitDefEqProofs (disch := omega) only [B_length, ↓sxPre, sxPost, sxLib, if_true, if_false, Nat.reduceEqDiff, ↓reduceIte, Nat.reduceAdd, Nat.reduceSub, Nat.reduceMul, Nat.reduceLT, Nat.reduceLeDiff, reduceCtorEq, eq_self, K.isEff, List.reduceReplicate]
    obtain rfl : r = false := by rw [hr]; exact decide_eq_false (by omega)
    refine finK_gc [] ?_
    simp [gcSt, keepOk, finG, resV, resOne, resAll, idx, V.ren, V.renL, Obj.ren, get_cons, get_nil, RTree, RTup, RRow]
  by_cases h6 : seq < 0
  · simp (maxSteps := 4000000) -implicitDefEqProofs (disch := omega) only [h0, h1, h2, h3, h4, h5, h6, B_length, ↓sxPre, sxPost, sxLib, if_true, if_false, Nat.reduceEqDiff, ↓reduceIte, Nat.reduceAdd, Nat.reduceSub, Nat.reduceMul, Nat.reduceLT, Nat.reduceLeDiff, reduceCtorEq, eq_self, K.isEff, List.reduceReplicate]
    repeat
      refine step_guard rfl (fun h => absurd h (by decide)) (fun _ => ?_)
      simp (maxSteps := 4000000) -implicitDefEqProofs (disch := omega) only [B_length, ↓sxPre, sxPost, sxLib, if_true, if_false, Nat.reduceEqDiff, ↓reduceIte, Nat.reduceAdd, Nat.reduceSub, Nat.reduceMul, Nat.reduceLT, Nat.reduceLeDiff, reduceCtorEq, eq_self, K.isEff, List.reduceReplicate]
    obtain rfl : r = false := by rw [hr]; exact decide_eq_false (by omega)
    refine finK_gc [] ?_
    simp [gcSt, keepOk, finG, resV, resOne, resAll, idx, V.ren, V.renL, Obj.ren, get_cons, get_nil, RTree, RTup, RRow]
  by_cases h7 : 1073741824 < seq
  · simp (maxSteps := 4000000) -implicitDefEqProofs (disch := omega) only [h0, h1, h2, h3, h4, h5, h6, h7, B_length, ↓sxPre, sxPost, sxLib, if_true, if_false, Nat.reduceEqDiff, ↓reduceIte, Nat.reduceAdd, Nat.reduceSub, Nat.reduceMul, Nat.reduceLT, Nat.reduceLeDiff, reduceCtorEq, eq_self, K.isEff, List.reduceReplicate]
    repeat
      refine step_guard rfl (fun h => absurd h (by decide)) (fun _ => ?_)
      simp (maxSteps := 4000000) -implicitDefEqProofs (disch := omega) only [B_length, ↓sxPre, sxPost, sxLib, if_true, if_false, Nat.reduceEqDiff, ↓reduceIte, Nat.reduceAdd, Nat.reduceSub, Nat.reduceMul, Nat.reduceLT, Nat.reduceLeDiff, reduceCtorEq, eq_self, K.isEff, List.reduceReplicate]
    obtain rfl : r = false := by rw [hr]; exact decide_eq_false (by omega)
    refine finK_gc [] ?_
    simp [gcSt, keepOk, finG, resV, resOne, resAll, idx, V.ren, V.renL, Obj.ren, get_cons, get_nil, RTree, RTup, RRow]
  by_cases h8 : ack < 0
  · simp (maxSteps := 4000000) -implicitDefEqProofs (disch := omega) only [h0, h1, h2, h3, h4, h5, h6, h7, h8, B_length, ↓sxPre, sxPost, sxLib, if_true, if_false, Nat.reduceEqDiff, ↓reduceIte, Nat.reduceAdd, Nat.reduceSub, Nat.reduceMul, Nat.reduceLT, Nat.reduceLeDiff, reduceCtorEq, eq_self, K.isEff, List.reduceReplicate]
    repeat
      refine step_guard rfl (fun h => absurd h (by decide)) (fun _ => ?_)
      simp (maxSteps := 4000000) -implicitDefEqProofs (disch := omega) only [B_length, ↓sxPre, sxPost, sxLib, if_true, if_false, Nat.reduceEqDiff, ↓reduceIte, Nat.reduceAdd, Nat.reduceSub, Nat.reduceMul, Nat.reduceLT, Nat.reduceLeDiff, reduceCtorEq, eq_self, K.isEff, List.reduceReplicate]
    obtain rfl : r = false := by rw [hr]; exact decide_eq_false (by omega)
    refine finK_gc [] ?_
    simp [gcSt, keepOk, finG, resV, resOne, resAll, idx, V.ren, V.renL, Obj.ren, get_cons, get_nil, RTree, RTup, RRow]
  by_cases h9 : 1073741824 < ack
  · simp (maxSteps := 4000000) -implicitDefEqProofs (disch := omega) only [h0, h1, h2, h3, h4, h5, h6, h7, h8, h9, B_length, ↓sxPre, sxPost, sxLib, if_true, if_false, Nat.reduceEqDiff, ↓reduceIte, Nat.reduceAdd, Nat.reduceSub, Nat.reduceMul, Nat.reduceLT, Nat.reduceLeDiff, reduceCtorEq, eq_self, K.isEff, List.reduceReplicate]
    repeat
      refine step_guard rfl (fun h => absurd h (by decide)) (fun _ => ?_)
      simp (maxSteps := 4000000) -implicitDefEqProofs (disch := omega) only [B_length, ↓sxPre, sxPost, sxLib, if_true, if_false, Nat.reduceEqDiff, ↓reduceIte, Nat.reduceAdd, Nat.reduceSub, Nat.reduceMul, Nat.reduceLT, Nat.reduceLeDiff, reduceCtorEq, eq_self, K.isEff, List.reduceReplicate]
    obtain rfl : r = false := by rw [hr]; exact decide_eq_false (by omega)
    refine finK_gc [] ?_
    simp [gcSt, keepOk, finG, resV, resOne, resAll, idx, V.ren, V.renL, Obj.ren, get_cons, get_nil, RTree, RTup, RRow]
  by_cases h10 : (6000 : Int) < body.length
  · simp (maxSteps := 4000000) -implicitDefEqProofs (disch := omega) only [h0, h1, h2, h3, h4, h5, h6, h7, h8, h9, h10, B_length, ↓sxPre, sxPost, sxLib, if_true, if_false, Nat.reduceEqDiff, ↓reduceIte, Nat.reduceAdd, Nat.reduceSub, Nat.reduceMul, Nat.reduceLT, Nat.reduceLeDiff, reduceCtorEq, eq_self, K.isEff, List.reduceReplicate]
    repeat
      refine step_guard rfl (fun h => absurd h (by decide)) (fun _ => ?_)
      simp (maxSteps := 4000000) -implicitDefEqProofs (disch := omega) only [B_length, ↓sxPre, sxPost, sxLib, if_true, if_false, Nat.reduceEqDiff, ↓reduceIte, Nat.reduceAdd, Nat.reduceSub, Nat.reduceMul, Nat.reduceLT, Nat.reduceLeDiff, reduceCtorEq, eq_self, K.isEff, List.reduceReplicate]
    obtain rfl : r = false := by rw [hr]; exact decide_eq_false (by omega)
    refine finK_gc [] ?_
    simp [gcSt, keepOk, finG, resV, resOne, resAll, idx, V.ren, V.renL, Obj.ren, get_cons, get_nil, RTree, RTup, RRow]
  by_cases hk : kind = 2
  · have dk : decide (kind = 2) = true := decide_eq_true hk
    simp (maxSteps := 4000000) -implicitDefEqProofs (disch := omega) only [h0, h1, h2, h3, h4, h5, h6, h7, h8, h9, h10, dk, B_length, ↓sxPre, sxPost, sxLib, if_true, if_false, Nat.reduceEqDiff, ↓reduceIte, Nat.reduceAdd, Nat.reduceSub, Nat.reduceMul, Nat.reduceLT, Nat.reduceLeDiff, reduceCtorEq, eq_self, K.isEff, List.reduceReplicate]
    obtain rfl : r = decide (1 ≤ seq) := by rw [hr]; exact decide_eq_decide.2 (by omega)
    refine finK_gc [] ?_
    simp [gcSt, keepOk, finG, resV, resOne, resAll, idx, V.ren, V.renL, Obj.ren, get_cons, get_nil, RTree, RTup, RRow]
  have dk : decide (kind = 2) = false := decide_eq_false hk
  by_cases hs : seq = 0
  · have ds : decide (seq = 0) = true := decide_eq_true hs
    simp (maxSteps := 4000000) -implicitDefEqProofs (disch := omega) only [h0, h1, h2, h3, h4, h5, h6, h7, h8, h9, h10, dk, ds, B_length, ↓sxPre, sxPost, sxLib, if_true, if_false, Nat.reduceEqDiff, ↓reduceIte, Nat.reduceAdd, Nat.reduceSub, Nat.reduceMul, Nat.reduceLT, Nat.reduceLeDiff, reduceCtorEq, eq_self, K.isEff, List.reduceReplicate]
    obtain rfl : r = decide ((body.length : Int) = 0) := by rw [hr]; exact decide_eq_decide.2 (by omega)
    refine finK_gc [] ?_
    simp [gcSt, keepOk, finG, resV, resOne, resAll, idx, V.ren, V.renL, Obj.ren, get_cons, get_nil, RTree, RTup, RRow]
  have ds : decide (seq = 0) = false := decide_eq_false hs
  simp (maxSteps := 4000000) -implicitDefEqProofs (disch := omega) only [h0, h1, h2, h3, h4, h5, h6, h7, h8, h9, h10, dk, ds, B_length, ↓sxPre, sxPost, sxLib, if_true, if_false, Nat.reduceEqDiff, ↓reduceIte, Nat.reduceAdd, Nat.reduceSub, Nat.reduceMul, Nat.reduceLT, Nat.reduceLeDiff, reduceCtorEq, eq_self, K.isEff, List.reduceReplicate]
  obtain rfl : r = false := by rw [hr]; exact decide_eq_false (by omega)
  refine finK_gc [] ?_
  simp [gcSt, keepOk, finG, resV, resOne, resAll, idx, V.ren, V.renL, Obj.ren, get_cons, get_nil, RTree, RTup, RRow]

end Go.Proofs.Ytbpclinijbgchaa
