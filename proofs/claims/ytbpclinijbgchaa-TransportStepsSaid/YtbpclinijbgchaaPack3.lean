/- Packets: Mod, near and Same. By the session itself. -/
import Derived.Test.YtbpclinijbgchaaAwake
namespace Go.Proofs.Ytbpclinijbgchaa
open Go Go.Abs
set_option maxRecDepth 100000
set_option maxHeartbeats 4000000
set_option linter.unusedSimpArgs false
set_option linter.unusedVariables false

theorem Mod_sc (n k : Int) (hk : 0 < k) (hk2 : k < 2 ^ 62) : SCall PP N.debuggerkit_Mod [.t (.int .i64 n), .t (.int .i64 k)] [] (RTree (.int .i64 (n % k))) := by
  refine debuggerkit_Mod.intro (by simp) ?_
  have h1 := Int.tmod_lt_of_pos n hk
  have h2 : -k < n.tmod k := by
    have := Int.tmod_lt_of_pos (-n) hk
    rw [Int.neg_tmod] at this
    omega
  have h3 := Int.emod_nonneg n (by omega : k ≠ 0)
  have h4 := Int.emod_lt_of_pos n hk
  have hd : k ∣ n.tmod k - n % k := by
    have e1 := Int.tmod_add_mul_tdiv n k
    have e2 := Int.emod_add_mul_ediv n k
    refine ⟨n / k - n.tdiv k, ?_⟩
    rw [Int.mul_sub]; omega
  by_cases hneg : n.tmod k < 0
  · have e : n.tmod k + k = n % k := by
      obtain ⟨c, hc⟩ := hd
      have : c = -1 := by
        rcases Int.lt_trichotomy c (-1) with h | h | h
        · have : k * c ≤ k * (-2) := Int.mul_le_mul_of_nonneg_left (by omega) (by omega)
          omega
        · exact h
        · have : k * 0 ≤ k * c := Int.mul_le_mul_of_nonneg_left (by omega) (by omega)
          omega
      subst this
      omega
    have hb : decide (n.tmod k < 0) = true := decide_eq_true hneg
    simp (maxSteps := 4000000) -implicitDefEqProofs (disch := omega) only [hb, ↓sxPre, sxPost, sxLib, if_true, if_false, Nat.reduceEqDiff, ↓reduceIte, Nat.reduceAdd, Nat.reduceSub, Nat.reduceMul, Nat.reduceLT, Nat.reduceLeDiff, reduceCtorEq, eq_self, K.isEff, List.reduceReplicate]
    refine ⟨by omega, finK_gc [] ?_⟩
    simp [e, gcSt, keepOk, finG, resV, resOne, resAll, idx, V.ren, V.renL, Obj.ren, get_cons, get_nil, RTree, RTup, RRow]
  · have e : n.tmod k = n % k := by
      obtain ⟨c, hc⟩ := hd
      have : c = 0 := by
        rcases Int.lt_trichotomy c 0 with h | h | h
        · have : k * c ≤ k * (-1) := Int.mul_le_mul_of_nonneg_left (by omega) (by omega)
          omega
        · exact h
        · have : k * 1 ≤ k * c := Int.mul_le_mul_of_nonneg_left (by omega) (by omega)
          omega
      subst this
      omega
    have hb : decide (n.tmod k < 0) = false := decide_eq_false hneg
    simp (maxSteps := 4000000) -implicitDefEqProofs (disch := omega) only [hb, ↓sxPre, sxPost, sxLib, if_true, if_false, Nat.reduceEqDiff, ↓reduceIte, Nat.reduceAdd, Nat.reduceSub, Nat.reduceMul, Nat.reduceLT, Nat.reduceLeDiff, reduceCtorEq, eq_self, K.isEff, List.reduceReplicate]
    refine ⟨by omega, finK_gc [] ?_⟩
    simp [e, gcSt, keepOk, finG, resV, resOne, resAll, idx, V.ren, V.renL, Obj.ren, get_cons, get_nil, RTree, RTup, RRow]

/-- A packet that is mostly right. -/
def Pk.near0 (p : Pk) : Pk :=
  if 1 + p.kind % 3 = 2 then ⟨1 + p.kind % 3, 1 + p.src % 1073741824, p.dst % 1073741824, 1 + p.seq % 1073741824, p.ack % 1073741824, p.body⟩
  else ⟨1 + p.kind % 3, 1 + p.src % 1073741824, p.dst % 1073741824, 0, p.ack % 1073741824, []⟩
def Pk.near (p : Pk) (w : Int) : Pk :=
  if w % 12 = 0 then { p.near0 with seq := 0 } else if w % 12 = 1 then { p.near0 with src := 0 } else if w % 12 = 2 then { p.near0 with dst := 1073741825 } else if w % 12 = 3 then { p.near0 with body := [1] } else p.near0

/-- A packet as the result. -/
def RPk (q : Pk) (r : V) (H : Heap) : Prop := ∃ sz t, (sz = 1 ∨ q.body = []) ∧ r = .agg ((q.cells sz t).map V.t) ∧ H = []

/-- A call that is handed nothing that is written to: its results may hold what it was handed. -/
theorem call_own {P : Program} {f : FuncId} {args : List V} {H : Heap} {k Q : V → Heap → Prop} (h : SCall P f (args.map (V.ren (idx []))) [] Q)
    (hk : ∀ r N, Q r N → k (r.ren (tau [] H.length)) (H ++ N.map (Obj.ren (tau [] H.length)))) : SCall P f args H k :=
  (SCall.frame [] (by simp) (by simp) h).mono fun r H' ⟨r0, N, hq, e1, e2⟩ => by
    subst e1 e2
    simpa [merge, setAll] using hk r0 N hq

end Go.Proofs.Ytbpclinijbgchaa
