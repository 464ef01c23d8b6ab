/- The check sum of a packet: what both functions return. By the session itself. -/
import Derived.Test.YtbpclinijbgchaaBits
import Derived.Test.YtbpclinijbgchaaFpacket
import Derived.Test.YtbpclinijbgchaaFdebuggerref33
namespace Go.Proofs.Ytbpclinijbgchaa
open Go Go.Abs
set_option maxRecDepth 100000
set_option linter.unusedSimpArgs false
set_option linter.unusedVariables false

theorem shl8 (c : Int) (h : 0 ≤ c ∧ c < 256) : IntKind.i64.wrap (c * 2 ^ min (Int.toNat 8) IntKind.i64.bits) = ((c.toNat * 256 : Nat) : Int) := by
  have e : (2 : Int) ^ min (Int.toNat 8) IntKind.i64.bits = 256 := by decide
  rw [e, w64 (by omega)]; omega
theorem mul256 (c : Int) (h : 0 ≤ c ∧ c < 256) : c * 256 = ((c.toNat * 256 : Nat) : Int) := by omega
theorem shl1 (r : Nat) (h : r < 65536) : IntKind.i64.wrap ((r : Int) * 2 ^ min (Int.toNat 1) IntKind.i64.bits) = ((2 * r : Nat) : Int) := by
  have e : (2 : Int) ^ min (Int.toNat 1) IntKind.i64.bits = 2 := by decide
  rw [e, w64 (by omega)]; omega
theorem xor4129 {a : Nat} (ha : a < 2 ^ 63) : Abs.bits .xor .i64 (a : Int) 4129 = ((a ^^^ 4129 : Nat) : Int) := xorN (b := 4129) ha (by decide)

theorem Sum_sc (l : List Int) (hb : Bytes l) (hl : l.length ≤ 2 ^ 47) (tight : Bool) :
    SCall PP N.packet_Sum [.t (.lst 1 tight (B l))] [] (RTree (.int .i64 (crc l))) := by
  refine packet_Sum.intro (by simp) ?_
  simp (maxSteps := 4000000) -implicitDefEqProofs (disch := omega) only [B_length, ↓sxPre, sxPost, sxLib, if_true, if_false, Nat.reduceEqDiff, ↓reduceIte, Nat.reduceAdd, Nat.reduceSub, Nat.reduceMul, Nat.reduceLT, Nat.reduceLeDiff, reduceCtorEq, eq_self, K.isEff, List.reduceReplicate]
  refine wpC_loop_gc [3, 6, 7, 8] [] (fun m s => ∃ (i r : Nat), m + i = l.length ∧ r < 65536 ∧ crcFrom r (l.drop i) = crc l ∧ s = ⟨[(3, .t (.int .i64 r)), (6, .t (.lst 1 tight (B l))), (7, .t (.int .i64 l.length)), (8, .t (.int .i64 i))], []⟩) l.length
    ⟨by simp [gcSt, keepOk, finG, resV, resOne, resAll, idx, V.ren, V.renL, Obj.ren, get_cons, get_nil, RTree, RTup, RRow], 0, 65535, by omega, by omega, by simp [crc], by simp [gcSt, keepOk, finG, resV, resOne, resAll, idx, V.ren, V.renL, Obj.ren, get_cons, get_nil, RTree, RTup, RRow]⟩ ?_
  rintro m s ⟨i, r, hm, hr, hcrc, rfl⟩
  by_cases hi : i < l.length
  · have hi' : (i : Int) < l.length := by omega
    have hbi := hb (l[i]'hi) (List.getElem_mem hi)
    rw [crcFrom_at hi] at hcrc
    have hx := xorN (a := r) (b := (l[i]'hi).toNat * 256) (by omega) (by omega)
    have hlt : r ^^^ ((l[i]'hi).toNat * 256) < 65536 := Nat.xor_lt_two_pow (n := 16) hr (by omega)
    unfold crcByte at hcrc
    simp (maxSteps := 4000000) -implicitDefEqProofs (disch := omega) only [hi', B_length, at_B' hi, Int.toNat_natCast, at_zero, shl8 _ hbi, hx, ↓sxPre, sxPost, sxLib, if_true, if_false, Nat.reduceEqDiff, ↓reduceIte, Nat.reduceAdd, Nat.reduceSub, Nat.reduceMul, Nat.reduceLT, Nat.reduceLeDiff, reduceCtorEq, eq_self, K.isEff, List.reduceReplicate]
    refine ⟨by omega, by decide, ?_⟩
    generalize r ^^^ ((l[i]'hi).toNat * 256) = q at *
    refine wpC_loop_gc [3, 6, 7, 8, 17] [] (fun m2 s => ∃ (j t : Nat), m2 + j = 8 ∧ t < 65536 ∧ crcBits m2 t = crcBits 8 q ∧ s = ⟨[(3, .t (.int .i64 t)), (6, .t (.lst 1 tight (B l))), (7, .t (.int .i64 l.length)), (8, .t (.int .i64 i)), (17, .t (.int .i64 j))], []⟩) 8
      ⟨by simp [gcSt, keepOk, finG, resV, resOne, resAll, idx, V.ren, V.renL, Obj.ren, get_cons, get_nil, RTree, RTup, RRow], 0, q, by omega, hlt, rfl, by simp [gcSt, keepOk, finG, resV, resOne, resAll, idx, V.ren, V.renL, Obj.ren, get_cons, get_nil, RTree, RTup, RRow]⟩ ?_
    rintro m2 s ⟨j, t, hj, ht, hct, rfl⟩
    by_cases hj8 : j < 8
    · have hj' : (j : Int) < 8 := by omega
      obtain ⟨m3, rfl⟩ : ∃ m3, m2 = m3 + 1 := ⟨m2 - 1, by omega⟩
      simp only [crcBits] at hct
      simp (maxSteps := 4000000) -implicitDefEqProofs (disch := omega) only [hj', shl1 t ht, ↓sxPre, sxPost, sxLib, if_true, if_false, Nat.reduceEqDiff, ↓reduceIte, Nat.reduceAdd, Nat.reduceSub, Nat.reduceMul, Nat.reduceLT, Nat.reduceLeDiff, reduceCtorEq, eq_self, K.isEff, List.reduceReplicate]
      by_cases hbig : 32768 ≤ t
      · have hb' : (65535 : Int) < ((2 * t : Nat) : Int) := by omega
        have e : crcBit t = (2 * t % 65536) ^^^ 4129 := if_pos hbig
        simp (maxSteps := 4000000) -implicitDefEqProofs (disch := omega) only [hb', andN16 (a := 2 * t) (by omega), xor4129 (a := 2 * t % 65536) (by omega), ↓sxPre, sxPost, sxLib, if_true, if_false, Nat.reduceEqDiff, ↓reduceIte, Nat.reduceAdd, Nat.reduceSub, Nat.reduceMul, Nat.reduceLT, Nat.reduceLeDiff, reduceCtorEq, eq_self, K.isEff, List.reduceReplicate]
        refine ⟨by decide, m3, by omega, by simp [gcSt, keepOk, finG, resV, resOne, resAll, idx, V.ren, V.renL, Obj.ren, get_cons, get_nil, RTree, RTup, RRow], j + 1, crcBit t, by omega, crcBit_lt ht, hct, by simp [e, gcSt, keepOk, finG, resV, resOne, resAll, idx, V.ren, V.renL, Obj.ren, get_cons, get_nil, RTree, RTup, RRow]⟩
      · have hb' : ¬ (65535 : Int) < ((2 * t : Nat) : Int) := by omega
        have e : crcBit t = 2 * t := if_neg hbig
        simp (maxSteps := 4000000) -implicitDefEqProofs (disch := omega) only [hb', ↓sxPre, sxPost, sxLib, if_true, if_false, Nat.reduceEqDiff, ↓reduceIte, Nat.reduceAdd, Nat.reduceSub, Nat.reduceMul, Nat.reduceLT, Nat.reduceLeDiff, reduceCtorEq, eq_self, K.isEff, List.reduceReplicate]
        refine ⟨by decide, m3, by omega, by simp [gcSt, keepOk, finG, resV, resOne, resAll, idx, V.ren, V.renL, Obj.ren, get_cons, get_nil, RTree, RTup, RRow], j + 1, crcBit t, by omega, crcBit_lt ht, hct, by simp [e, gcSt, keepOk, finG, resV, resOne, resAll, idx, V.ren, V.renL, Obj.ren, get_cons, get_nil, RTree, RTup, RRow]⟩
    · have hj' : ¬ (j : Int) < 8 := by omega
      obtain rfl : m2 = 0 := by omega
      simp only [crcBits] at hct
      simp (maxSteps := 4000000) -implicitDefEqProofs (disch := omega) only [hj', ↓sxPre, sxPost, sxLib, if_true, if_false, Nat.reduceEqDiff, ↓reduceIte, Nat.reduceAdd, Nat.reduceSub, Nat.reduceMul, Nat.reduceLT, Nat.reduceLeDiff, reduceCtorEq, eq_self, K.isEff, List.reduceReplicate]
      refine ⟨m - 1, by omega, by simp [gcSt, keepOk, finG, resV, resOne, resAll, idx, V.ren, V.renL, Obj.ren, get_cons, get_nil, RTree, RTup, RRow], i + 1, t, by omega, ht, by rw [← hcrc, hct]; rfl, by simp [gcSt, keepOk, finG, resV, resOne, resAll, idx, V.ren, V.renL, Obj.ren, get_cons, get_nil, RTree, RTup, RRow]⟩
  · have hi' : ¬ (i : Int) < l.length := by omega
    rw [List.drop_eq_nil_of_le (by omega)] at hcrc
    simp (maxSteps := 4000000) -implicitDefEqProofs (disch := omega) only [hi', ↓sxPre, sxPost, sxLib, if_true, if_false, Nat.reduceEqDiff, ↓reduceIte, Nat.reduceAdd, Nat.reduceSub, Nat.reduceMul, Nat.reduceLT, Nat.reduceLeDiff, reduceCtorEq, eq_self, K.isEff, List.reduceReplicate]
    refine finK_gc [] ?_
    simp [← hcrc, crcFrom, gcSt, keepOk, finG, resV, resOne, resAll, idx, V.ren, V.renL, Obj.ren, get_cons, get_nil, RTree, RTup, RRow]
end Go.Proofs.Ytbpclinijbgchaa
