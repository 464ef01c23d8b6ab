/- Package wire: Uint, Int and Text. By the session itself. -/
import Derived.Test.YtbpclinijbgchaaWireR
namespace Go.Proofs.Ytbpclinijbgchaa
open Go Go.Abs
set_option maxRecDepth 100000
set_option linter.unusedSimpArgs false
set_option linter.unusedVariables false

theorem Uint_1_sc (i c : Int) : SCall PP N.wire_Uint_1 [.t (.int .i64 i), .t (.int .u8 c)] [] (RTree (.bool (decide (i = (8 : Nat)) && decide (127 < c)))) := by
  refine wire_Uint_1.intro (by simp) ?_
  by_cases h : i = 8
  · have h1 : decide (i = 8) = true := decide_eq_true h
    simp (maxSteps := 4000000) -implicitDefEqProofs (disch := omega) only [h1, ↓sxPre, sxPost, sxLib, if_true, if_false, Nat.reduceEqDiff, ↓reduceIte, Nat.reduceAdd, Nat.reduceSub, Nat.reduceMul, Nat.reduceLT, Nat.reduceLeDiff, reduceCtorEq, eq_self, K.isEff, List.reduceReplicate]
    refine finK_gc [] ?_
    simp [h, gcSt, keepOk, finG, resV, resOne, resAll, idx, V.ren, V.renL, Obj.ren, get_cons, get_nil, RTree, RTup, RRow]
    first | omega | exact decide_eq_decide.2 (by omega)
  · have h1 : decide (i = 8) = false := decide_eq_false h
    simp (maxSteps := 4000000) -implicitDefEqProofs (disch := omega) only [h1, ↓sxPre, sxPost, sxLib, if_true, if_false, Nat.reduceEqDiff, ↓reduceIte, Nat.reduceAdd, Nat.reduceSub, Nat.reduceMul, Nat.reduceLT, Nat.reduceLeDiff, reduceCtorEq, eq_self, K.isEff, List.reduceReplicate]
    refine finK_gc [] ?_
    simp [h, gcSt, keepOk, finG, resV, resOne, resAll, idx, V.ren, V.renL, Obj.ren, get_cons, get_nil, RTree, RTup, RRow]

theorem readG_bounds {last : Nat} {mx : Nat} (hmx : mx ≤ 127) : ∀ (r : List Int) (i v : Nat), Bytes r → i ≤ last → v < 128 ^ i → (readG last mx r i v).2.2 = 0 →
    (readG last mx r i v).1 < (mx + 1) * 128 ^ last ∧ i < (readG last mx r i v).2.1 ∧ (readG last mx r i v).2.1 ≤ i + r.length
  | [], i, v, _, _, _, h => by simp [readG] at h
  | c :: r, i, v, hb, hi, hv, h => by
    have hc := hb c (by simp)
    have hr : Bytes r := fun x hx => hb x (by simp [hx])
    unfold readG at h ⊢
    by_cases h1 : i = last ∧ (mx : Int) < c
    · rw [if_pos h1] at h; simp at h
    · rw [if_neg h1] at h ⊢
      by_cases h2 : c = 0 ∧ 0 < i
      · rw [if_pos h2] at h; simp at h
      · rw [if_neg h2] at h ⊢
        by_cases h3 : c < 128
        · rw [if_pos h3] at h ⊢
          refine ⟨?_, by simp, by simp⟩
          have hx : (c % 128).toNat < 128 := by omega
          by_cases hl : i = last
          · have : (c % 128).toNat ≤ mx := by
              have : ¬ (mx : Int) < c := fun h => h1 ⟨hl, h⟩
              omega
            have := Nat.mul_le_mul_right (128 ^ i) this
            rw [hl] at this hv
            simp only [hl]
            rw [Nat.add_mul]
            omega
          · have := pow_step hv hx
            have h128 : 128 ^ (i + 1) ≤ 128 ^ last := Nat.pow_le_pow_right (by decide) (by omega)
            have : 1 * 128 ^ last ≤ (mx + 1) * 128 ^ last := Nat.mul_le_mul_right _ (by omega)
            simp only
            omega
        · rw [if_neg h3] at h ⊢
          have hil : i ≠ last := fun hl => by
            have : ¬ (mx : Int) < c := fun h => h1 ⟨hl, h⟩
            omega
          have := readG_bounds hmx r (i + 1) _ hr (by omega) (pow_step hv (x := (c % 128).toNat) (by omega)) h
          simp only [List.length_cons]
          omega

theorem readAt_bounds {last mx : Nat} (hmx : mx ≤ 127) {l : List Int} (hb : Bytes l) {at_ : Int} :
    (readAt last mx l at_).1 < (mx + 1) * 128 ^ last ∧ ((readAt last mx l at_).2.2 = 0 → 0 ≤ at_ ∧ at_ < (readAt last mx l at_).2.1 ∧ (readAt last mx l at_).2.1 ≤ l.length) ∧ 0 ≤ (readAt last mx l at_).2.1 := by
  have hp : 0 < (mx + 1) * 128 ^ last := Nat.mul_pos (by omega) (Nat.pow_pos (by decide))
  unfold readAt
  by_cases h : at_ < 0 ∨ (l.length : Int) < at_
  · rw [if_pos h]; exact ⟨hp, fun h => by simp at h, by simp⟩
  · rw [if_neg h]
    have := readG_bounds (last := last) hmx (l.drop at_.toNat) 0 0 (fun x hx => hb x (List.mem_of_mem_drop hx)) (by omega) (by decide)
    generalize readG last mx (l.drop at_.toNat) 0 0 = q at *
    obtain ⟨v, n, e⟩ := q
    simp only at this ⊢
    by_cases he : e = 0
    · rw [if_pos he]
      have := this he
      simp only [List.length_drop] at this
      simp only
      refine ⟨by omega, fun _ => by omega, by omega⟩
    · rw [if_neg he]
      exact ⟨hp, fun h => absurd h he, by simp⟩

theorem wi64_nat {n : Nat} (h : n < 2 ^ 63) : IntKind.i64.wrap (n : Int) = n := w64 (by omega)

/-- A number from 0 on at a place. -/
def uintAt (l : List Int) (at_ : Int) : List T := [.int .i64 (readAt 8 127 l at_).1, .int .i64 (readAt 8 127 l at_).2.1, .int .i64 (readAt 8 127 l at_).2.2]

theorem Uint_sc (l : List Int) (hb : Bytes l) (hl : l.length ≤ 2 ^ 40) (tight : Bool) (at_ : Int) (ha : -2 ^ 63 ≤ at_ ∧ at_ < 2 ^ 63) :
    SCall PP N.wire_Uint [.t (.lst 1 tight (B l)), .t (.int .i64 at_)] [] (RTup (uintAt l at_)) := by
  refine wire_Uint.intro (by simp) ?_
  simp (maxSteps := 4000000) -implicitDefEqProofs (disch := omega) only [↓sxPre, sxPost, sxLib, if_true, if_false, Nat.reduceEqDiff, ↓reduceIte, Nat.reduceAdd, Nat.reduceSub, Nat.reduceMul, Nat.reduceLT, Nat.reduceLeDiff, reduceCtorEq, eq_self, K.isEff, List.reduceReplicate]
  refine step_tup (groups_sc 8 127 (.inl ⟨rfl, rfl⟩) _ Uint_1_sc l hb hl tight at_ ha) rfl ?_
  have hv : (readAt 8 127 l at_).1 < (127 + 1) * 128 ^ 8 := (readAt_bounds (last := 8) (mx := 127) (by decide) hb (at_ := at_)).1
  have hw := wi64_nat (Nat.lt_of_lt_of_le hv (by decide))
  simp (maxSteps := 4000000) -implicitDefEqProofs (disch := omega) only [trip, hw, List.getD_cons_zero, List.getD_cons_succ, ↓sxPre, sxPost, sxLib, if_true, if_false, Nat.reduceEqDiff, ↓reduceIte, Nat.reduceAdd, Nat.reduceSub, Nat.reduceMul, Nat.reduceLT, Nat.reduceLeDiff, reduceCtorEq, eq_self, K.isEff, List.reduceReplicate]
  refine finK_gc [] ?_
  simp [uintAt, gcSt, keepOk, finG, resV, resOne, resAll, idx, V.ren, V.renL, Obj.ren, get_cons, get_nil, RTree, RTup, RRow]

/-- A number as an int. -/
def unzig (u : Nat) : Int := if u % 2 = 1 then -((u / 2 : Nat) : Int) - 1 else ((u / 2 : Nat) : Int)

/-- An int at a place. -/
def intAt (l : List Int) (at_ : Int) : List T := [.int .i64 (unzig (readAt 9 1 l at_).1), .int .i64 (readAt 9 1 l at_).2.1, .int .i64 (readAt 9 1 l at_).2.2]

end Go.Proofs.Ytbpclinijbgchaa
