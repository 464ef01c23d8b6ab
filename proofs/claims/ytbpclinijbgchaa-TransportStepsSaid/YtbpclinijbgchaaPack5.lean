/- Packets: Decode. By the session itself. -/
import Derived.Test.YtbpclinijbgchaaPack4
namespace Go.Proofs.Ytbpclinijbgchaa
open Go Go.Abs
set_option maxRecDepth 100000
set_option maxHeartbeats 4000000
set_option linter.unusedSimpArgs false
set_option linter.unusedVariables false

def zeroPk : Pk := ⟨0, 0, 0, 0, 0, []⟩
/-- The check sum that stands behind bytes. -/
def tail2 (l : List Int) : Int := l.getD (l.length - 2) 0 * 256 + l.getD (l.length - 1) 0
/-- What bytes are decoded as. -/
def dec (l : List Int) : Pk × Int :=
  if 6060 < l.length then (zeroPk, 5) else if l.length < 3 ∨ (crc (l.take (l.length - 2)) : Int) ≠ tail2 l then (zeroPk, 28) else
    match readP (l.take (l.length - 2)) with
    | none => (zeroPk, 4)
    | some p => (p, 0)

def RDec (d : Pk × Int) (r : V) (H : Heap) : Prop := ∃ x, r = .tup [.agg (d.1.vals x), .t (.int .i64 d.2)] ∧ RBody d.1.body x H

theorem orN {a b : Nat} (ha : a < 256) (hb : b < 256) : Abs.bits .or .i64 ((a * 256 : Nat) : Int) (b : Int) = ((a * 256 + b : Nat) : Int) := by
  simp only [Abs.bits, IntKind.bits]
  have hor : a * 256 ||| b = a * 256 + b := by
    have : a * 256 = a <<< 8 := by rw [Nat.shiftLeft_eq]
    rw [this, Nat.shiftLeft_add_eq_or_of_lt (by omega)]
  have e : BitVec.ofInt 64 ((a * 256 : Nat) : Int) ||| BitVec.ofInt 64 (b : Int) = BitVec.ofNat 64 (a * 256 + b) := by
    rw [BitVec.ofInt_natCast, BitVec.ofInt_natCast, ← hor]
    apply BitVec.eq_of_toNat_eq
    rw [BitVec.toNat_or, BitVec.toNat_ofNat, BitVec.toNat_ofNat, BitVec.toNat_ofNat, Nat.or_mod_two_pow]
  change IntKind.i64.wrap (((BitVec.ofInt 64 ((a * 256 : Nat) : Int) ||| BitVec.ofInt 64 (b : Int)).toNat : Nat) : Int) = _
  rw [e, BitVec.toNat_ofNat, Nat.mod_eq_of_lt (by omega), wi64_nat (by omega)]

theorem or256 {a b : Int} (ha : 0 ≤ a ∧ a < 256) (hb : 0 ≤ b ∧ b < 256) : Abs.bits .or .i64 (IntKind.i64.wrap (a * 2 ^ min (Int.toNat 8) IntKind.i64.bits)) b = a * 256 + b := by
  rw [shl8 a ha]
  have := orN (a := a.toNat) (b := b.toNat) (by omega) (by omega)
  rw [Int.toNat_of_nonneg hb.1] at this
  rw [this]; omega

theorem step_read {P : Program} {f : FuncId} {H : Heap} {K : St → Prop} {vs : List (Nat × V)} {r : List Ins} {d : Nat} {xs : List Opnd} {o : Option Pk}
    (h : SCall P f ((xs.map (ev vs)).map (Abs.view H)) [] (RRead o))
    (h1 : ∀ q : Pk, q.body = [] → (∀ p, o = some p → p = q) → wpR (SCall P) r K ⟨(d, .tup [.agg (q.vals (.t (.lst 0 true []))), .t (.bool o.isSome)]) :: vs, H⟩)
    (h2 : ∀ (q : Pk) (g : Nat), (∀ p, o = some p → p = q) → wpR (SCall P) r K ⟨(d, .tup [.agg (q.vals (.sl H.length 0 q.body.length g 1)), .t (.bool o.isSome)]) :: vs, H ++ [.row 1 g (B q.body)]⟩) : wpR (SCall P) (⟨some d, none, .call f xs⟩ :: r) K ⟨vs, H⟩ := by
  refine step_call (call_any h ?_ ?_)
  · rintro r N ⟨q, x, rfl, hx, _⟩
    rcases hx with ⟨rfl, _, rfl⟩ | ⟨g, rfl, rfl⟩
    · exact ⟨by simp [V.flatV, V.flatL, Pk.vals, T.flat, T.cells, T.scal], rfl⟩
    · exact ⟨by simp [V.flatV, V.flatL, Pk.vals, T.flat, T.cells, T.scal], by simpa [Obj.flatO] using B_flat q.body⟩
  · rintro r N ⟨q, x, rfl, hx, hp⟩
    rcases hx with ⟨rfl, hq, rfl⟩ | ⟨g, rfl, rfl⟩
    · simpa [V.ren, V.renL, Pk.vals] using h1 q hq hp
    · simpa [V.ren, V.renL, Pk.vals, tau, Obj.ren] using h2 q g hp

theorem Decode_sc (l : List Int) (hb : Bytes l) (hl : l.length ≤ 2 ^ 40) (tight : Bool) : SCall PP N.packet_Decode [.t (.lst 1 tight (B l))] [] (RDec (dec l)) := by
  refine packet_Decode.intro (by simp) ?_
  by_cases h1 : 6060 < l.length
  · have g1 : decide ((6060 : Int) < l.length) = true := decide_eq_true (by omega)
    have hd : dec l = (zeroPk, 5) := if_pos h1
    rw [hd]
    simp (maxSteps := 4000000) -implicitDefEqProofs (disch := omega) only [B_length, g1, stepK_build', fillV_nil, kstore_ref, putAt_zero, ↓sxPre, sxPost, sxLib, if_true, if_false, Nat.reduceEqDiff, ↓reduceIte, Nat.reduceAdd, Nat.reduceSub, Nat.reduceMul, Nat.reduceLT, Nat.reduceLeDiff, reduceCtorEq, eq_self, K.isEff, List.reduceReplicate]
    exact fin_nil (q := zeroPk) rfl rfl rfl ⟨_, rfl, .inl ⟨rfl, rfl, rfl⟩⟩
  have g1 : decide ((6060 : Int) < l.length) = false := decide_eq_false (by omega)
  by_cases h2 : l.length < 3
  · have g2 : decide ((l.length : Int) - 2 < 1) = true := decide_eq_true (by omega)
    have hd : dec l = (zeroPk, 28) := by rw [dec, if_neg h1, if_pos (.inl h2)]
    rw [hd]
    simp (maxSteps := 4000000) -implicitDefEqProofs (disch := omega) only [B_length, g1, g2, stepK_build', fillV_nil, kstore_ref, putAt_zero, ↓sxPre, sxPost, sxLib, if_true, if_false, Nat.reduceEqDiff, ↓reduceIte, Nat.reduceAdd, Nat.reduceSub, Nat.reduceMul, Nat.reduceLT, Nat.reduceLeDiff, reduceCtorEq, eq_self, K.isEff, List.reduceReplicate]
    refine step_eff (step_guard rfl (fun h => absurd h (by decide)) (fun _ => ?_))
    simp (maxSteps := 4000000) -implicitDefEqProofs (disch := omega) only [B_length, g1, g2, stepK_build', fillV_nil, kstore_ref, putAt_zero, ↓sxPre, sxPost, sxLib, if_true, if_false, Nat.reduceEqDiff, ↓reduceIte, Nat.reduceAdd, Nat.reduceSub, Nat.reduceMul, Nat.reduceLT, Nat.reduceLeDiff, reduceCtorEq, eq_self, K.isEff, List.reduceReplicate]
    exact fin_nil (q := zeroPk) rfl rfl rfl ⟨_, rfl, .inl ⟨rfl, rfl, rfl⟩⟩
  have g2 : decide ((l.length : Int) - 2 < 1) = false := decide_eq_false (by omega)
  have hn : ((l.length : Int) - 2).toNat = l.length - 2 := by omega
  have hn1 : ((l.length : Int) - 2 + 1).toNat = l.length - 1 := by omega
  have a1 := at_B' (l := l) (i := l.length - 2) (by omega)
  have a2 := at_B' (l := l) (i := l.length - 1) (by omega)
  have b1 := hb _ (List.getElem_mem (show l.length - 2 < l.length by omega))
  have b2 := hb _ (List.getElem_mem (show l.length - 1 < l.length by omega))
  have htl : tail2 l = l[l.length - 2] * 256 + l[l.length - 1] := by
    rw [tail2, List.getD_eq_getElem?_getD, List.getD_eq_getElem?_getD, List.getElem?_eq_getElem (by omega), List.getElem?_eq_getElem (by omega)]; rfl
  have hor := or256 b1 b2
  rw [← htl] at hor
  have hbt : Bytes (l.take (l.length - 2)) := hb.take _
  have hlt : (l.take (l.length - 2)).length = l.length - 2 := by simp
  have cS := Sum_sc (l.take (l.length - 2)) hbt (by omega) false
  have e1 : (B l).take (l.length - 2) = B (l.take (l.length - 2)) := B_take _ _
  simp (maxSteps := 4000000) -implicitDefEqProofs (disch := omega) only [B_length, g1, g2, hn, hn1, a1, a2, at_zero, hor, e1, ↓sxPre, sxPost, sxLib, if_true, if_false, Nat.reduceEqDiff, ↓reduceIte, Nat.reduceAdd, Nat.reduceSub, Nat.reduceMul, Nat.reduceLT, Nat.reduceLeDiff, reduceCtorEq, eq_self, K.isEff, List.reduceReplicate]
  refine ⟨by omega, by omega, by omega, by omega, ?_⟩
  refine step_eff (step_guard rfl (fun _ => step_tree cS rfl ?_) (fun h => absurd rfl h))
  have hd1 : ∀ h : (crc (l.take (l.length - 2)) : Int) ≠ tail2 l, dec l = (zeroPk, 28) := fun h => by rw [dec, if_neg h1, if_pos (.inr h)]
  have hd2 : ∀ h : (crc (l.take (l.length - 2)) : Int) = tail2 l, dec l = match readP (l.take (l.length - 2)) with | none => (zeroPk, 4) | some p => (p, 0) := fun h => by
    rw [dec, if_neg h1, if_neg (by rintro (h' | h'); exact h2 h'; exact h' h)]
  have cR := read_sc (l.take (l.length - 2)) hbt (by omega) (by omega) false
  generalize dec l = D at *
  by_cases hc : (crc (l.take (l.length - 2)) : Int) = tail2 l
  · have gc : decide ((crc (l.take (l.length - 2)) : Int) = tail2 l) = true := decide_eq_true hc
    have hd2 := hd2 hc
    generalize readP (l.take (l.length - 2)) = o at *
    simp (maxSteps := 4000000) -implicitDefEqProofs (disch := omega) only [B_length, g1, g2, hn, hn1, a1, a2, at_zero, hor, e1, gc, stepK_build', fillV_nil, kstore_ref, putAt_zero, ↓sxPre, sxPost, sxLib, if_true, if_false, Nat.reduceEqDiff, ↓reduceIte, Nat.reduceAdd, Nat.reduceSub, Nat.reduceMul, Nat.reduceLT, Nat.reduceLeDiff, reduceCtorEq, eq_self, K.isEff, List.reduceReplicate]
    refine ⟨by omega, by omega, by omega, ?_⟩
    refine step_read (o := o) cR (fun q hq hp => ?_) (fun q g hp => ?_)
    all_goals
      unfold Pk.vals
      cases o with
      | none =>
        simp only at hd2
        rw [hd2]
        simp (maxSteps := 4000000) -implicitDefEqProofs (disch := omega) only [kstore_ref, putAt_zero, Option.isSome_none, stepK_build', fillV_nil, ↓sxPre, sxPost, sxLib, if_true, if_false, Nat.reduceEqDiff, ↓reduceIte, Nat.reduceAdd, Nat.reduceSub, Nat.reduceMul, Nat.reduceLT, Nat.reduceLeDiff, reduceCtorEq, eq_self, K.isEff, List.reduceReplicate]
        exact fin_nil (q := zeroPk) rfl rfl rfl ⟨_, rfl, .inl ⟨rfl, rfl, rfl⟩⟩
      | some p =>
        obtain rfl := hp p rfl
        simp only at hd2
        rw [hd2]
        simp (maxSteps := 4000000) -implicitDefEqProofs (disch := omega) only [kstore_ref, putAt_zero, Option.isSome_some, ↓sxPre, sxPost, sxLib, if_true, if_false, Nat.reduceEqDiff, ↓reduceIte, Nat.reduceAdd, Nat.reduceSub, Nat.reduceMul, Nat.reduceLT, Nat.reduceLeDiff, reduceCtorEq, eq_self, K.isEff, List.reduceReplicate]
        first
          | exact fin_new (rid := 1) (q := p) rfl rfl rfl rfl ⟨_, rfl, .inr ⟨_, rfl, rfl⟩⟩
          | exact fin_nil (q := p) rfl rfl rfl ⟨_, rfl, .inl ⟨rfl, hq, rfl⟩⟩
  · have gc : decide ((crc (l.take (l.length - 2)) : Int) = tail2 l) = false := decide_eq_false hc
    rw [hd1 hc]
    simp (maxSteps := 4000000) -implicitDefEqProofs (disch := omega) only [B_length, g1, g2, hn, hn1, a1, a2, at_zero, hor, e1, gc, stepK_build', fillV_nil, kstore_ref, putAt_zero, ↓sxPre, sxPost, sxLib, if_true, if_false, Nat.reduceEqDiff, ↓reduceIte, Nat.reduceAdd, Nat.reduceSub, Nat.reduceMul, Nat.reduceLT, Nat.reduceLeDiff, reduceCtorEq, eq_self, K.isEff, List.reduceReplicate]
    refine ⟨by omega, by omega, ?_⟩
    exact fin_nil (q := zeroPk) rfl rfl rfl ⟨_, rfl, .inl ⟨rfl, rfl, rfl⟩⟩
end Go.Proofs.Ytbpclinijbgchaa
