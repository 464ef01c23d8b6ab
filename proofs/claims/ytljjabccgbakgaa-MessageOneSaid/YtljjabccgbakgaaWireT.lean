/- Package wire: Text. By the session itself. -/
import Derived.Test.YtljjabccgbakgaaWireU
namespace Go.Proofs.Ytljjabccgbakgaa
open Go Go.Abs
set_option maxRecDepth 100000
set_option linter.unusedSimpArgs false
set_option linter.unusedVariables false

/-- Bytes as a text. -/
def textOf (l : List Int) : ByteArray := ⟨(bytesOf (B l)).toArray⟩

/-- A text at a place. -/
def textAt (l : List Int) (at_ : Int) : ByteArray × Int × Int :=
  if (readAt 8 127 l at_).2.2 ≠ 0 then (⟨#[]⟩, 0, (readAt 8 127 l at_).2.2) else
    if (l.length : Int) - (readAt 8 127 l at_).2.1 < (readAt 8 127 l at_).1 then (⟨#[]⟩, 0, 3) else
      (textOf ((l.take ((readAt 8 127 l at_).2.1.toNat + (readAt 8 127 l at_).1)).drop (readAt 8 127 l at_).2.1.toNat), (readAt 8 127 l at_).2.1 + (readAt 8 127 l at_).1, 0)

def tripT (x : ByteArray × Int × Int) : List T := [.str x.1, .int .i64 x.2.1, .int .i64 x.2.2]

theorem B_isByte {l : List Int} (hb : Bytes l) : (B l).all isByte = true := by
  rw [List.all_eq_true]
  intro x hx
  obtain ⟨c, hc, rfl⟩ := List.mem_map.1 hx
  rfl

theorem Text_sc (l : List Int) (hb : Bytes l) (hl : l.length ≤ 2 ^ 40) (tight : Bool) (at_ : Int) (ha : -2 ^ 63 ≤ at_ ∧ at_ < 2 ^ 63) :
    SCall PP N.wire_Text [.t (.lst 1 tight (B l)), .t (.int .i64 at_)] [] (RTup (tripT (textAt l at_))) := by
  refine wire_Text.intro (by simp) ?_
  simp (maxSteps := 4000000) -implicitDefEqProofs (disch := omega) only [↓sxPre, sxPost, sxLib, if_true, if_false, Nat.reduceEqDiff, ↓reduceIte, Nat.reduceAdd, Nat.reduceSub, Nat.reduceMul, Nat.reduceLT, Nat.reduceLeDiff, reduceCtorEq, eq_self, K.isEff, List.reduceReplicate]
  refine step_tup (Uint_sc l hb hl tight at_ ha) rfl ?_
  obtain ⟨hv, hn, hp⟩ := readAt_bounds (last := 8) (mx := 127) (by decide) hb (at_ := at_)
  change (readAt 8 127 l at_).1 < (127 + 1) * 128 ^ 8 at hv
  change (readAt 8 127 l at_).2.2 = 0 → 0 ≤ at_ ∧ at_ < (readAt 8 127 l at_).2.1 ∧ (readAt 8 127 l at_).2.1 ≤ l.length at hn
  change 0 ≤ (readAt 8 127 l at_).2.1 at hp
  unfold textAt uintAt
  generalize readAt 8 127 l at_ = q at *
  obtain ⟨v, n, e⟩ := q
  have h8 : (127 + 1) * 128 ^ 8 = 2 ^ 63 := by decide
  simp only at hv hn hp ⊢
  simp (maxSteps := 4000000) -implicitDefEqProofs (disch := omega) only [List.getD_cons_zero, List.getD_cons_succ, B_length, ↓sxPre, sxPost, sxLib, if_true, if_false, Nat.reduceEqDiff, ↓reduceIte, Nat.reduceAdd, Nat.reduceSub, Nat.reduceMul, Nat.reduceLT, Nat.reduceLeDiff, reduceCtorEq, eq_self, K.isEff, List.reduceReplicate]
  refine condV_ndec (fun he => ?_) fun he => ?_
  · refine finK_gc [] ?_
    simp [tripT, he, gcSt, keepOk, finG, resV, resOne, resAll, idx, V.ren, V.renL, Obj.ren, get_cons, get_nil, RTree, RTup, RRow]
  · have := hn he
    simp (maxSteps := 4000000) -implicitDefEqProofs (disch := omega) only [B_length, ↓sxPre, sxPost, sxLib, if_true, if_false, Nat.reduceEqDiff, ↓reduceIte, Nat.reduceAdd, Nat.reduceSub, Nat.reduceMul, Nat.reduceLT, Nat.reduceLeDiff, reduceCtorEq, eq_self, K.isEff, List.reduceReplicate]
    refine condV_dec (fun h => ?_) fun h => ?_
    · refine finK_gc [] ?_
      simp [tripT, he, h, gcSt, keepOk, finG, resV, resOne, resAll, idx, V.ren, V.renL, Obj.ren, get_cons, get_nil, RTree, RTup, RRow]
    · have e1 : (n + (v : Int)).toNat = n.toNat + v := by omega
      have e2 : ((B l).take (n + (v : Int)).toNat).drop n.toNat = B ((l.take (n.toNat + v)).drop n.toNat) := by rw [e1]; simp [B]
      simp (maxSteps := 4000000) -implicitDefEqProofs (disch := omega) only [B_length, ktoStr, elems_lst', e2, ↓sxPre, sxPost, sxLib, if_true, if_false, Nat.reduceEqDiff, ↓reduceIte, Nat.reduceAdd, Nat.reduceSub, Nat.reduceMul, Nat.reduceLT, Nat.reduceLeDiff, reduceCtorEq, eq_self, K.isEff, List.reduceReplicate]
      refine ⟨⟨by omega, by omega, by omega⟩, B_isByte fun x hx => hb x (List.mem_of_mem_take (List.mem_of_mem_drop hx)), finK_gc [] ?_⟩
      simp [tripT, he, h, textOf, gcSt, keepOk, finG, resV, resOne, resAll, idx, V.ren, V.renL, Obj.ren, get_cons, get_nil, RTree, RTup, RRow]
end Go.Proofs.Ytljjabccgbakgaa
