/- Package wire and its reference: what each function returns. By the session itself. -/
import Derived.Test.YtbpclinijbgchaaFwire
import Derived.Test.YtbpclinijbgchaaFdebuggerref01
import Derived.Test.YtbpclinijbgchaaL2
namespace Go.Proofs.Ytbpclinijbgchaa
open Go Go.Abs
set_option maxRecDepth 100000
set_option linter.unusedSimpArgs false
set_option linter.unusedVariables false

/-- Bytes as data. -/
def B (l : List Int) : List T := l.map (T.int .u8)

theorem B_length (l : List Int) : (B l).length = l.length := by simp [B]
theorem B_append (l m : List Int) : B (l ++ m) = B l ++ B m := by simp [B]

/-- The groups of a number. -/
def groups (v : Nat) : List Int := if h : v < 128 then [(v : Int)] else ((v % 128 + 128 : Nat) : Int) :: groups (v / 128)
termination_by v
decreasing_by omega

theorem groups_lt {v : Nat} (h : v < 128) : groups v = [(v : Int)] := by rw [groups, dif_pos h]
theorem groups_ge {v : Nat} (h : ¬ v < 128) : groups v = ((v % 128 + 128 : Nat) : Int) :: groups (v / 128) := by rw [groups, dif_neg h]

theorem groups_len : ∀ (n v : Nat), v < 128 ^ (n + 1) → (groups v).length ≤ n + 1
  | 0, v, h => by rw [groups_lt (by simpa using h)]; simp
  | n + 1, v, h => by
    by_cases hv : v < 128
    · rw [groups_lt hv]; simp
    · rw [groups_ge hv, List.length_cons]
      have := groups_len n (v / 128) (by rw [Nat.pow_succ] at h; exact (Nat.div_lt_iff_lt_mul (by omega)).2 h)
      omega

theorem groups_le10 {v : Nat} (h : v < 2 ^ 64) : (groups v).length ≤ 10 := groups_len 9 v (Nat.lt_of_lt_of_le h (by decide))
theorem groups_pos (v : Nat) : 0 < (groups v).length := by
  by_cases h : v < 128
  · rw [groups_lt h]; simp
  · rw [groups_ge h]; simp

theorem wu8_nat (m : Nat) : IntKind.u8.wrap (m : Int) = ((m % 256 : Nat) : Int) := by simp [IntKind.wrap, IntKind.bits, IntKind.signed]
theorem wu64_nat (m : Nat) : IntKind.u64.wrap (m : Int) = ((m % 2 ^ 64 : Nat) : Int) := by simp [IntKind.wrap, IntKind.bits, IntKind.signed]

theorem mark_fin : ∀ x : Fin 256, Abs.bits .or .u8 (x.val : Int) 128 = ((x.val % 128 + 128 : Nat) : Int) := by decide +kernel
theorem mark_byte (m : Nat) : Abs.bits .or .u8 (IntKind.u8.wrap (m : Int)) 128 = ((m % 128 + 128 : Nat) : Int) := by
  rw [wu8_nat]
  have := mark_fin ⟨m % 256, Nat.mod_lt _ (by decide)⟩
  simp only at this
  rw [this]; omega

theorem shr7 (m : Nat) : (m : Int).fdiv (2 ^ min (Int.toNat 7) IntKind.u64.bits) = ((m / 128 : Nat) : Int) := by
  have : (2 : Int) ^ min (Int.toNat 7) IntKind.u64.bits = 128 := by decide
  rw [this, Int.fdiv_eq_ediv_of_nonneg _ (by decide)]
  omega

theorem B_flat (l : List Int) : (B l).all T.flat = true := by simp [B, T.flat, T.cells, T.scal]

theorem appendGroups_sc (l : List Int) (tight : Bool) (v : Nat) (hv : v < 2 ^ 64) (hl : l.length ≤ 2 ^ 40) :
    SCall PP N.wire_appendGroups [.t (.lst 1 tight (B l)), .t (.int .u64 v)] [] (RRow 1 (B (l ++ groups v))) := by
  refine wire_appendGroups.intro (by simp) ?_
  simp (maxSteps := 4000000) -implicitDefEqProofs (disch := omega) only [B_length, List.replicate_zero, List.length_replicate, List.length_append, ↓sxPre, sxPost, sxLib, if_true, if_false, Nat.reduceEqDiff, ↓reduceIte, Nat.reduceAdd, Nat.reduceSub, Nat.reduceMul, Nat.reduceLT, Nat.reduceLeDiff, reduceCtorEq, eq_self, K.isEff, List.reduceReplicate]
  refine ⟨by omega, by omega, ?_⟩
  refine wpC_loop_gc [5, 1] [0] (fun m s => ∃ (d : List Int) (w g : Nat), m = w ∧ groups v = d ++ groups w ∧ w ≤ v ∧ s = ⟨[(5, .sl 0 0 (l.length + d.length) g 1), (1, .t (.int .u64 w))], [.row 1 g (B (l ++ d))]⟩) v
    ⟨by simp [B_length, gcSt, keepOk, finG, resV, resOne, resAll, idx, V.ren, V.renL, Obj.ren, get_cons, get_nil, RTree, RTup, RRow], [], v, 1, rfl, rfl, Nat.le_refl _, by simp [B_length, gcSt, keepOk, finG, resV, resOne, resAll, idx, V.ren, V.renL, Obj.ren, get_cons, get_nil, RTree, RTup, RRow]⟩ ?_
  rintro m s ⟨d, w, g, rfl, hd, hw, rfl⟩
  have h10 := groups_le10 hv
  have hpos := groups_pos m
  rw [hd, List.length_append] at h10
  simp (maxSteps := 4000000) -implicitDefEqProofs (disch := omega) only [↓sxPre, sxPost, sxLib, if_true, if_false, Nat.reduceEqDiff, ↓reduceIte, Nat.reduceAdd, Nat.reduceSub, Nat.reduceMul, Nat.reduceLT, Nat.reduceLeDiff, reduceCtorEq, eq_self, K.isEff, List.reduceReplicate]
  refine condV_dec (fun h => ⟨⟨by simp [B], by simp [B]; omega⟩, by omega, ?_⟩) fun h => ?_
  · have hm : ¬ m < 128 := by omega
    rw [groups_ge hm] at hd
    refine ⟨m / 128, by omega, by simp [B_length, gcSt, keepOk, finG, resV, resOne, resAll, idx, V.ren, V.renL, Obj.ren, get_cons, get_nil, RTree, RTup, RRow], d ++ [((m % 128 + 128 : Nat) : Int)], m / 128, g + 1, rfl, by rw [hd]; simp, by omega, ?_⟩
    simp only [shr7, mark_byte]
    simp [B, Nat.add_assoc, gcSt, keepOk, finG, resV, resOne, resAll, idx, V.ren, V.renL, Obj.ren, get_cons, get_nil, RTree, RTup, RRow]
  · have hm : m < 128 := by omega
    rw [groups_lt hm] at hd
    simp (maxSteps := 4000000) -implicitDefEqProofs (disch := omega) only [↓sxPre, sxPost, sxLib, if_true, if_false, Nat.reduceEqDiff, ↓reduceIte, Nat.reduceAdd, Nat.reduceSub, Nat.reduceMul, Nat.reduceLT, Nat.reduceLeDiff, reduceCtorEq, eq_self, K.isEff, List.reduceReplicate]
    refine ⟨⟨by simp [B], by simp [B]; omega⟩, finK_gc [0] ?_⟩
    have : (m : Int) = ((m % 256 : Nat) : Int) := by omega
    simp [B, wu8_nat, hd, Nat.add_assoc, gcSt, keepOk, finG, resV, resOne, resAll, idx, V.ren, V.renL, Obj.ren, get_cons, get_nil, RTree, RTup, RRow]

theorem wu64_i64 {v : Int} (h0 : 0 ≤ v) (h1 : v < 2 ^ 63) : IntKind.u64.wrap v = ((v.toNat : Nat) : Int) := by
  rw [wu64 (by omega)]; omega

theorem AppendUint_sc (l : List Int) (tight : Bool) (v : Int) (hv : -2 ^ 63 ≤ v ∧ v < 2 ^ 63) (hl : l.length ≤ 2 ^ 40) :
    SCall PP N.wire_AppendUint [.t (.lst 1 tight (B l)), .t (.int .i64 v)] [] (RRow 1 (B (if v < 0 then l else l ++ groups v.toNat))) := by
  refine wire_AppendUint.intro (by simp) ?_
  simp (maxSteps := 4000000) -implicitDefEqProofs (disch := omega) only [B_length, ↓sxPre, sxPost, sxLib, if_true, if_false, Nat.reduceEqDiff, ↓reduceIte, Nat.reduceAdd, Nat.reduceSub, Nat.reduceMul, Nat.reduceLT, Nat.reduceLeDiff, reduceCtorEq, eq_self, K.isEff, List.reduceReplicate]
  refine condV_dec (fun h => ⟨by omega, finK_gc [0] ?_⟩) fun h => ?_
  · rw [if_pos h]
    simp [B, gcSt, keepOk, finG, resV, resOne, resAll, idx, V.ren, V.renL, Obj.ren, get_cons, get_nil, RTree, RTup, RRow]
  · rw [if_neg h, wu64_i64 (by omega) hv.2]
    refine step_row (appendGroups_sc l tight v.toNat (by omega) hl) (B_flat _) fun g => ?_
    simp (maxSteps := 4000000) -implicitDefEqProofs (disch := omega) only [B_length, ↓sxPre, sxPost, sxLib, if_true, if_false, Nat.reduceEqDiff, ↓reduceIte, Nat.reduceAdd, Nat.reduceSub, Nat.reduceMul, Nat.reduceLT, Nat.reduceLeDiff, reduceCtorEq, eq_self, K.isEff, List.reduceReplicate]
    refine finK_gc [0] ?_
    simp [B_length, gcSt, keepOk, finG, resV, resOne, resAll, idx, V.ren, V.renL, Obj.ren, get_cons, get_nil, RTree, RTup, RRow]

/-- An int as a number from 0 on. -/
def zig (v : Int) : Nat := if v < 0 then (-2 * v - 1).toNat else (2 * v).toNat

end Go.Proofs.Ytbpclinijbgchaa
