/- The sanity check of the laws of layer 33, and PacketSums. By the session itself. -/
import Derived.Test.YtljjabccgbakgaaPack2
import Derived.Test.YtljjabccgbakgaaFdebuggerlaw33
import Derived.Test.YtljjabccgbakgaaFdebuggerkit
namespace Go.Proofs.Ytljjabccgbakgaa
open Go Go.Abs
set_option maxRecDepth 100000
set_option maxHeartbeats 4000000
set_option linter.unusedSimpArgs false
set_option linter.unusedVariables false

/-- The result of a call may hold new memory. -/
theorem step_enc {P : Program} {f : FuncId} {H : Heap} {K : St → Prop} {vs : List (Nat × V)} {r : List Ins} {d : Nat} {xs : List Opnd} {ys : List Int}
    (h : SCall P f ((xs.map (ev vs)).map (Abs.view H)) [] (REnc ys)) (hk : ∀ g, wpR (SCall P) r K ⟨(d, .tup [.sl H.length 0 ys.length g 1, .t (.int .i64 0)]) :: vs, H ++ [.row 1 g (B ys)]⟩) : wpR (SCall P) (⟨some d, none, .call f xs⟩ :: r) K ⟨vs, H⟩ := by
  refine step_call (call_any h ?_ ?_)
  · rintro r N ⟨g, rfl, rfl⟩
    exact ⟨rfl, by simpa [Obj.flatO] using B_flat ys⟩
  · rintro r N ⟨g, rfl, rfl⟩
    simpa [V.ren, V.renL, tau, Obj.ren] using hk g

theorem crc_known : crc [49, 50, 51, 52, 53, 54, 55, 56, 57] = 10673 := by decide +kernel

theorem awake33_sc : SCall PP N.debuggerlaw33_awake [] [] (RTree (.bool true)) := by
  refine debuggerlaw33_awake.intro (by simp) ?_
  have c := Encode_sc ⟨3, 1, 0, 0, 0, []⟩ ⟨⟨by decide, by decide⟩, ⟨by decide, by decide⟩, ⟨by decide, by decide⟩, ⟨by decide, by decide⟩, ⟨by decide, by decide⟩, fun x h => by simp at h, by simp⟩ (by decide) 0 true (.inr rfl)
  have hl : (Pk.enc ⟨3, 1, 0, 0, 0, []⟩).length = 8 := by
    simp [Pk.enc, Pk.head, Pk.nums, gs, groups_lt]
  generalize Pk.enc ⟨3, 1, 0, 0, 0, []⟩ = E at *
  simp (maxSteps := 4000000) -implicitDefEqProofs (disch := omega) only [stepK_build', fillV, putAt, ↓sxPre, sxPost, sxLib, if_true, if_false, Nat.reduceEqDiff, ↓reduceIte, Nat.reduceAdd, Nat.reduceSub, Nat.reduceMul, Nat.reduceLT, Nat.reduceLeDiff, reduceCtorEq, eq_self, K.isEff, List.reduceReplicate]
  refine step_enc (ys := E) ?_ fun g => ?_
  · simpa [Abs.view, viewL, Abs.get, ev, Pk.cells, B] using c
  have hs := Sum_sc [49, 50, 51, 52, 53, 54, 55, 56, 57] (fun x h => by simp at h; omega) (by decide) false
  rw [crc_known] at hs
  have h8 : decide ((E.length : Int) = 8) = true := decide_eq_true (by omega)
  simp (maxSteps := 4000000) -implicitDefEqProofs (disch := omega) only [keff_buildRow, toElems_cons, toElems_nil, toElem_t, setElems_cons, setElems_nil, keff, ↓sxPre, sxPost, sxLib, if_true, if_false, Nat.reduceEqDiff, ↓reduceIte, Nat.reduceAdd, Nat.reduceSub, Nat.reduceMul, Nat.reduceLT, Nat.reduceLeDiff, reduceCtorEq, eq_self, K.isEff, List.reduceReplicate]
  refine step_tree (x := .int .i64 10673) ?_ rfl ?_
  · simpa [Abs.view, rowOf, Abs.get, ev, B, List.take] using hs
  simp (maxSteps := 4000000) -implicitDefEqProofs (disch := omega) only [h8, ↓sxPre, sxPost, sxLib, if_true, if_false, Nat.reduceEqDiff, ↓reduceIte, Nat.reduceAdd, Nat.reduceSub, Nat.reduceMul, Nat.reduceLT, Nat.reduceLeDiff, reduceCtorEq, eq_self, K.isEff, List.reduceReplicate]
  refine finK_gc [] ?_
  simp [gcSt, keepOk, finG, resV, resOne, resAll, idx, V.ren, V.renL, Obj.ren, get_cons, get_nil, RTree, RTup, RRow]

theorem PacketSums_main (l : List Int) (hb : Bytes l) (hl : l.length ≤ 2 ^ 47) : SCall PP N.debuggerlaw33_PacketSums [.t (.lst 1 false (B l))] [] (RTree (.bool true)) := by
  refine debuggerlaw33_PacketSums.intro (by simp) ?_
  simp (maxSteps := 4000000) -implicitDefEqProofs (disch := omega) only [B_length, ↓sxPre, sxPost, sxLib, if_true, if_false, Nat.reduceEqDiff, ↓reduceIte, Nat.reduceAdd, Nat.reduceSub, Nat.reduceMul, Nat.reduceLT, Nat.reduceLeDiff, reduceCtorEq, eq_self, K.isEff, List.reduceReplicate]
  refine condV_dec (fun h => ?_) fun h => ?_
  · refine step_tree awake33_sc rfl ?_
    simp (maxSteps := 4000000) -implicitDefEqProofs (disch := omega) only [↓sxPre, sxPost, sxLib, if_true, if_false, Nat.reduceEqDiff, ↓reduceIte, Nat.reduceAdd, Nat.reduceSub, Nat.reduceMul, Nat.reduceLT, Nat.reduceLeDiff, reduceCtorEq, eq_self, K.isEff, List.reduceReplicate]
    refine finK_gc [] ?_
    simp [gcSt, keepOk, finG, resV, resOne, resAll, idx, V.ren, V.renL, Obj.ren, get_cons, get_nil, RTree, RTup, RRow]
  · refine step_tree (Sum_sc l hb hl false) rfl ?_
    simp (maxSteps := 4000000) -implicitDefEqProofs (disch := omega) only [↓sxPre, sxPost, sxLib, if_true, if_false, Nat.reduceEqDiff, ↓reduceIte, Nat.reduceAdd, Nat.reduceSub, Nat.reduceMul, Nat.reduceLT, Nat.reduceLeDiff, reduceCtorEq, eq_self, K.isEff, List.reduceReplicate]
    refine step_tree (rSum_sc l hb hl false) rfl ?_
    simp (maxSteps := 4000000) -implicitDefEqProofs (disch := omega) only [↓sxPre, sxPost, sxLib, if_true, if_false, Nat.reduceEqDiff, ↓reduceIte, Nat.reduceAdd, Nat.reduceSub, Nat.reduceMul, Nat.reduceLT, Nat.reduceLeDiff, reduceCtorEq, eq_self, K.isEff, List.reduceReplicate]
    refine step_guard rfl (fun _ => step_tree awake33_sc rfl ?_) (fun h => absurd rfl h)
    simp (maxSteps := 4000000) -implicitDefEqProofs (disch := omega) only [↓sxPre, sxPost, sxLib, if_true, if_false, Nat.reduceEqDiff, ↓reduceIte, Nat.reduceAdd, Nat.reduceSub, Nat.reduceMul, Nat.reduceLT, Nat.reduceLeDiff, reduceCtorEq, eq_self, K.isEff, List.reduceReplicate]
    refine finK_gc [] ?_
    simp [gcSt, keepOk, finG, resV, resOne, resAll, idx, V.ren, V.renL, Obj.ren, get_cons, get_nil, RTree, RTup, RRow]

theorem PacketSums_sc {W : World} {a : Option Addr} {len cap : Nat} {z : List Int} (h : IsRow .u8 W a len cap z) (y : len * 1 ≤ 140737488351232) :
    SCall PP N.debuggerlaw33_PacketSums [.t (.lst 1 false ((z.take len).map (T.int .u8)))] [] (RTree (.bool true)) :=
  PacketSums_main (z.take len) (IsRow.bytes h) (by rw [h.length]; omega)
end Go.Proofs.Ytljjabccgbakgaa
