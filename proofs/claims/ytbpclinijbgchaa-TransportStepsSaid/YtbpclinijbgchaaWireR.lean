/- Package wire: reading. By the session itself. -/
import Derived.Test.YtbpclinijbgchaaWire
namespace Go.Proofs.Ytbpclinijbgchaa
open Go Go.Abs
set_option maxRecDepth 100000
set_option linter.unusedSimpArgs false
set_option linter.unusedVariables false

/-- Bytes. -/
def Bytes (l : List Int) : Prop := ∀ x ∈ l, 0 ≤ x ∧ x < 256

/-- Reads groups: the byte with number last may be at most mx. -/
def readG (last : Nat) (mx : Int) : List Int → Nat → Nat → Nat × Nat × Int
  | [], _, _ => (0, 0, 3)
  | c :: r, i, v => if i = last ∧ mx < c then (0, 0, 2) else if c = 0 ∧ 0 < i then (0, 0, 4) else
    if c < 128 then (v + (c % 128).toNat * 128 ^ i, i + 1, 0) else readG last mx r (i + 1) (v + (c % 128).toNat * 128 ^ i)

def Lim (last : Nat) (mx : Int) : Prop := (last = 8 ∧ mx = 127) ∨ (last = 9 ∧ mx = 1)

/-- The number at a place: its value, the next place, the error. -/
def readAt (last : Nat) (mx : Int) (l : List Int) (at_ : Int) : Nat × Int × Int :=
  if at_ < 0 ∨ (l.length : Int) < at_ then (0, 0, 1) else
    match readG last mx (l.drop at_.toNat) 0 0 with
    | (v, n, e) => if e = 0 then (v, at_ + n, 0) else (0, 0, e)

def trip (x : Nat × Int × Int) : List T := [.int .u64 x.1, .int .i64 x.2.1, .int .i64 x.2.2]

theorem at_B {l : List Int} {i : Nat} (h : i < l.length) : T.at (B l) i = .int .u8 (l[i]'h) := by
  simp [T.at, B, h]

theorem or_add {i v x : Nat} (hi : i ≤ 9) (hv : v < 128 ^ i) (hx : x < 128) (h9 : i = 9 → x ≤ 1) :
    Abs.bits .or .u64 (v : Int) (IntKind.u64.wrap ((x : Int) * 2 ^ min (7 * (i : Int)).toNat 64)) = ((v + x * 128 ^ i : Nat) : Int) := by
  have e1 : min (7 * (i : Int)).toNat 64 = 7 * i := by omega
  have e2 : (x : Int) * 2 ^ (7 * i) = ((x * 128 ^ i : Nat) : Int) := by
    rw [show (128 : Nat) = 2 ^ 7 by decide, ← Nat.pow_mul]; simp
  have p1 : 128 ^ i ≤ 128 ^ 9 := Nat.pow_le_pow_right (by decide) hi
  have hb : v + x * 128 ^ i < 2 ^ 64 := by
    by_cases h : i = 9
    · subst h
      have := h9 rfl
      have : x * 128 ^ 9 ≤ 1 * 128 ^ 9 := Nat.mul_le_mul_right _ this
      have e : (128 : Nat) ^ 9 = 2 ^ 63 := by decide
      omega
    · have h8 : 128 ^ i ≤ 128 ^ 8 := Nat.pow_le_pow_right (by decide) (by omega)
      have : x * 128 ^ i ≤ 127 * 128 ^ 8 := Nat.mul_le_mul (by omega) h8
      have e : (128 : Nat) ^ 8 = 2 ^ 56 := by decide
      omega
  rw [e1, e2, wu64_nat, Nat.mod_eq_of_lt (by omega)]
  simp only [Abs.bits]
  have ev : BitVec.ofInt IntKind.u64.bits (v : Int) = BitVec.ofNat 64 v := BitVec.ofInt_natCast 64 v
  have ex : BitVec.ofInt IntKind.u64.bits ((x * 128 ^ i : Nat) : Int) = BitVec.ofNat 64 (x * 128 ^ i) := BitVec.ofInt_natCast 64 _
  rw [ev, ex]
  change IntKind.u64.wrap (((BitVec.ofNat 64 v ||| BitVec.ofNat 64 (x * 128 ^ i)).toNat : Nat) : Int) = _
  rw [BitVec.toNat_or, BitVec.toNat_ofNat, BitVec.toNat_ofNat, Nat.mod_eq_of_lt (by omega), Nat.mod_eq_of_lt (by omega)]
  have hs : x * 128 ^ i = x <<< (7 * i) := by rw [Nat.shiftLeft_eq, show (128 : Nat) = 2 ^ 7 by decide, ← Nat.pow_mul]
  have ho : v ||| x * 128 ^ i = v + x * 128 ^ i := by
    have hv' : v < 2 ^ (7 * i) := by rw [Nat.pow_mul]; exact hv
    rw [hs, Nat.or_comm, ← Nat.shiftLeft_add_eq_or_of_lt hv', Nat.add_comm]
  rw [ho, wu64_nat, Nat.mod_eq_of_lt hb]

theorem and127_fin : ∀ x : Fin 256, Abs.bits .and .u8 (x.val : Int) 127 = ((x.val % 128 : Nat) : Int) := by decide +kernel
theorem and127 {c : Int} (h : 0 ≤ c ∧ c < 256) : Abs.bits .and .u8 c 127 = (((c % 128).toNat : Nat) : Int) := by
  have := and127_fin ⟨c.toNat, by omega⟩
  simp only at this
  rw [Int.toNat_of_nonneg h.1] at this
  rw [this]; omega

theorem pow_step {i v x : Nat} (hv : v < 128 ^ i) (hx : x < 128) : v + x * 128 ^ i < 128 ^ (i + 1) := by
  have : x * 128 ^ i ≤ 127 * 128 ^ i := Nat.mul_le_mul_right _ (by omega)
  rw [Nat.pow_succ]; omega

theorem groups_sc (last : Nat) (mx : Int) (hlim : Lim last mx) (f : FuncId) (hf : ∀ i c : Int, SCall PP f [.t (.int .i64 i), .t (.int .u8 c)] [] (RTree (.bool (decide (i = last) && decide (mx < c)))))
    (l : List Int) (hb : Bytes l) (hl : l.length ≤ 2 ^ 40) (tight : Bool) (at_ : Int) (ha : -2 ^ 63 ≤ at_ ∧ at_ < 2 ^ 63) :
    SCall PP N.wire_groups [.t (.lst 1 tight (B l)), .t (.int .i64 at_), .fn f []] [] (RTup (trip (readAt last mx l at_))) := by
  refine wire_groups.intro (by simp) ?_
  by_cases h1 : at_ < 0
  · simp (maxSteps := 4000000) -implicitDefEqProofs (disch := omega) only [h1, ↓sxPre, sxPost, sxLib, if_true, if_false, Nat.reduceEqDiff, ↓reduceIte, Nat.reduceAdd, Nat.reduceSub, Nat.reduceMul, Nat.reduceLT, Nat.reduceLeDiff, reduceCtorEq, eq_self, K.isEff, List.reduceReplicate]
    refine finK_gc [] ?_
    simp [readAt, trip, h1, gcSt, keepOk, finG, resV, resOne, resAll, idx, V.ren, V.renL, Obj.ren, get_cons, get_nil, RTree, RTup, RRow]
  by_cases h2 : (l.length : Int) < at_
  · simp (maxSteps := 4000000) -implicitDefEqProofs (disch := omega) only [h1, h2, B_length, ↓sxPre, sxPost, sxLib, if_true, if_false, Nat.reduceEqDiff, ↓reduceIte, Nat.reduceAdd, Nat.reduceSub, Nat.reduceMul, Nat.reduceLT, Nat.reduceLeDiff, reduceCtorEq, eq_self, K.isEff, List.reduceReplicate]
    refine finK_gc [] ?_
    simp [readAt, trip, h1, h2, gcSt, keepOk, finG, resV, resOne, resAll, idx, V.ren, V.renL, Obj.ren, get_cons, get_nil, RTree, RTup, RRow]
  simp (maxSteps := 4000000) -implicitDefEqProofs (disch := omega) only [h1, h2, B_length, ↓sxPre, sxPost, sxLib, if_true, if_false, Nat.reduceEqDiff, ↓reduceIte, Nat.reduceAdd, Nat.reduceSub, Nat.reduceMul, Nat.reduceLT, Nat.reduceLeDiff, reduceCtorEq, eq_self, K.isEff, List.reduceReplicate]
  refine ⟨by omega, ?_⟩
  have hdrop : List.drop at_.toNat (List.take l.length (B l)) = B (l.drop at_.toNat) := by
    rw [List.take_of_length_le (by simp [B])]; simp [B]
  rw [hdrop]
  generalize hr : l.drop at_.toNat = r
  have hrl : r.length = l.length - at_.toNat := by rw [← hr]; simp
  have hrb : ∀ x ∈ r, 0 ≤ x ∧ x < 256 := fun x hx => hb x (List.mem_of_mem_drop (hr ▸ hx))
  refine wpC_loop_gc [1, 2, 9, 22, 23, 24] [] (fun m s => ∃ (i v : Nat), m + i = r.length ∧ i ≤ last ∧ v < 128 ^ i ∧ readG last mx (r.drop i) i v = readG last mx r 0 0 ∧
      s = ⟨[(1, .t (.int .i64 at_)), (2, .fn f []), (9, .t (.int .u64 v)), (22, .t (.lst 1 tight (B r))), (23, .t (.int .i64 r.length)), (24, .t (.int .i64 i))], []⟩) r.length
    ⟨by simp [gcSt, keepOk, finG, resV, resOne, resAll, idx, V.ren, V.renL, Obj.ren, get_cons, get_nil, RTree, RTup, RRow], 0, 0, by omega, by omega, by decide, by simp, by simp [B, gcSt, keepOk, finG, resV, resOne, resAll, idx, V.ren, V.renL, Obj.ren, get_cons, get_nil, RTree, RTup, RRow]⟩ ?_
  rintro m s ⟨i, v, hm, hi, hv, hread, rfl⟩
  have hi9 : i ≤ 9 := by rcases hlim with h | h <;> omega
  by_cases hir : i < r.length
  · have hbi := hrb r[i] (List.getElem_mem _)
    rw [List.drop_eq_getElem_cons hir] at hread
    simp only [readG] at hread
    have hir' : (i : Int) < r.length := by omega
    have hff := hf i r[i]
    generalize hc : r[i] = c at *
    by_cases ht : i = last ∧ mx < c
    · rw [if_pos ht] at hread
      have e : (decide ((i : Int) = last) && decide (mx < c)) = true := by simp [ht.1, ht.2]
      rw [e] at hff
      simp (maxSteps := 4000000) -implicitDefEqProofs (disch := omega) only [hir', B_length, at_B hir, hc, Int.toNat_natCast, at_zero, ↓sxPre, sxPost, sxLib, if_true, if_false, Nat.reduceEqDiff, ↓reduceIte, Nat.reduceAdd, Nat.reduceSub, Nat.reduceMul, Nat.reduceLT, Nat.reduceLeDiff, reduceCtorEq, eq_self, K.isEff, List.reduceReplicate]
      refine ⟨by omega, call_tree hff rfl ?_⟩
      simp (maxSteps := 4000000) -implicitDefEqProofs (disch := omega) only [↓sxPre, sxPost, sxLib, if_true, if_false, Nat.reduceEqDiff, ↓reduceIte, Nat.reduceAdd, Nat.reduceSub, Nat.reduceMul, Nat.reduceLT, Nat.reduceLeDiff, reduceCtorEq, eq_self, K.isEff, List.reduceReplicate]
      refine finK_gc [] ?_
      simp [readAt, trip, h1, h2, hr, ← hread, gcSt, keepOk, finG, resV, resOne, resAll, idx, V.ren, V.renL, Obj.ren, get_cons, get_nil, RTree, RTup, RRow]
    rw [if_neg ht] at hread
    have e : (decide ((i : Int) = last) && decide (mx < c)) = false := by
      by_cases h : (i : Int) = last
      · have : ¬ mx < c := fun h' => ht ⟨by omega, h'⟩
        simp [this]
      · simp [h]
    rw [e] at hff
    by_cases hz : c = 0 ∧ 0 < i
    · rw [if_pos hz] at hread
      have hzb : decide (c = 0) = true := decide_eq_true hz.1
      have hpb : decide ((0 : Int) < i) = true := decide_eq_true (by omega)
      simp (maxSteps := 4000000) -implicitDefEqProofs (disch := omega) only [hir', B_length, at_B hir, hc, Int.toNat_natCast, at_zero, ↓sxPre, sxPost, sxLib, if_true, if_false, Nat.reduceEqDiff, ↓reduceIte, Nat.reduceAdd, Nat.reduceSub, Nat.reduceMul, Nat.reduceLT, Nat.reduceLeDiff, reduceCtorEq, eq_self, K.isEff, List.reduceReplicate]
      refine ⟨by omega, call_tree hff rfl ?_⟩
      simp (maxSteps := 4000000) -implicitDefEqProofs (disch := omega) only [hzb, hpb, ↓sxPre, sxPost, sxLib, if_true, if_false, Nat.reduceEqDiff, ↓reduceIte, Nat.reduceAdd, Nat.reduceSub, Nat.reduceMul, Nat.reduceLT, Nat.reduceLeDiff, reduceCtorEq, eq_self, K.isEff, List.reduceReplicate]
      refine finK_gc [] ?_
      simp [readAt, trip, h1, h2, hr, ← hread, gcSt, keepOk, finG, resV, resOne, resAll, idx, V.ren, V.renL, Obj.ren, get_cons, get_nil, RTree, RTup, RRow]
    rw [if_neg hz] at hread
    have hx : (c % 128).toNat < 128 := by omega
    have h9 : i = 9 → (c % 128).toNat ≤ 1 := by
      intro h
      rcases hlim with h' | h'
      · omega
      · have : ¬ mx < c := fun h'' => ht ⟨by omega, h''⟩
        omega
    have hor : Abs.bits BinOp.or IntKind.u64 (v : Int) (IntKind.u64.wrap (((c % 128).toNat : Int) * 2 ^ min (7 * (i : Int)).toNat IntKind.u64.bits)) = ((v + (c % 128).toNat * 128 ^ i : Nat) : Int) := or_add hi9 hv hx h9
    have hand : IntKind.u64.wrap (Abs.bits BinOp.and IntKind.u8 c 127) = ((c % 128).toNat : Int) := by rw [and127 hbi, wu64_nat]; omega
    have hps := pow_step hv hx
    have hcase : (decide (c = 0) = true ∧ decide ((0 : Int) < i) = false) ∨ (decide (c = 0) = false ∧ True) := by
      by_cases h : c = 0
      · exact .inl ⟨decide_eq_true h, decide_eq_false fun h' => hz ⟨h, by omega⟩⟩
      · exact .inr ⟨decide_eq_false h, trivial⟩
    rcases hcase with ⟨hzb, hpb⟩ | ⟨hzb, hpb⟩
    all_goals
      simp (maxSteps := 4000000) -implicitDefEqProofs (disch := omega) only [hir', B_length, at_B hir, hc, Int.toNat_natCast, at_zero, ↓sxPre, sxPost, sxLib, if_true, if_false, Nat.reduceEqDiff, ↓reduceIte, Nat.reduceAdd, Nat.reduceSub, Nat.reduceMul, Nat.reduceLT, Nat.reduceLeDiff, reduceCtorEq, eq_self, K.isEff, List.reduceReplicate]
      refine ⟨by omega, call_tree hff rfl ?_⟩
      simp (maxSteps := 4000000) -implicitDefEqProofs (disch := omega) only [hzb, hpb, hand, hor, ↓sxPre, sxPost, sxLib, if_true, if_false, Nat.reduceEqDiff, ↓reduceIte, Nat.reduceAdd, Nat.reduceSub, Nat.reduceMul, Nat.reduceLT, Nat.reduceLeDiff, reduceCtorEq, eq_self, K.isEff, List.reduceReplicate]
      refine ⟨by omega, condV_dec (fun hlast => ?_) fun hlast => ?_⟩
      · rw [if_pos hlast] at hread
        refine finK_gc [] ?_
        simp [readAt, trip, h1, h2, hr, ← hread, gcSt, keepOk, finG, resV, resOne, resAll, idx, V.ren, V.renL, Obj.ren, get_cons, get_nil, RTree, RTup, RRow]
        omega
      · rw [if_neg hlast] at hread
        refine ⟨m - 1, by omega, by simp [gcSt, keepOk, finG, resV, resOne, resAll, idx, V.ren, V.renL, Obj.ren, get_cons, get_nil, RTree, RTup, RRow], i + 1, _, by omega, ?_, hps, hread, ?_⟩
        · rcases hlim with h' | h' <;> (have : ¬ (i = last) := fun h => ht ⟨h, by omega⟩) <;> omega
        · simp [gcSt, keepOk, finG, resV, resOne, resAll, idx, V.ren, V.renL, Obj.ren, get_cons, get_nil, RTree, RTup, RRow]
  · have hir' : ¬ ((i : Int) < r.length) := by omega
    rw [List.drop_eq_nil_of_le (by omega)] at hread
    simp only [readG] at hread
    simp (maxSteps := 4000000) -implicitDefEqProofs (disch := omega) only [hir', ↓sxPre, sxPost, sxLib, if_true, if_false, Nat.reduceEqDiff, ↓reduceIte, Nat.reduceAdd, Nat.reduceSub, Nat.reduceMul, Nat.reduceLT, Nat.reduceLeDiff, reduceCtorEq, eq_self, K.isEff, List.reduceReplicate]
    refine finK_gc [] ?_
    simp [readAt, trip, h1, h2, hr, ← hread, gcSt, keepOk, finG, resV, resOne, resAll, idx, V.ren, V.renL, Obj.ren, get_cons, get_nil, RTree, RTup, RRow]
end Go.Proofs.Ytbpclinijbgchaa
