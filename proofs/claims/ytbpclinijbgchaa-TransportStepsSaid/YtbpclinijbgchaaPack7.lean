/- Plain laws of packets: bytes that are decoded are those of their packet. By the session itself. -/
import Derived.Test.YtbpclinijbgchaaPack6
namespace Go.Proofs.Ytbpclinijbgchaa
open Go Go.Abs
set_option maxRecDepth 100000
set_option maxHeartbeats 1000000
set_option linter.unusedSimpArgs false
set_option linter.unusedVariables false

theorem readG_canon {last mx : Nat} : ∀ (r : List Int) (i acc v n : Nat), Bytes r → readG last mx r i acc = (v, n, 0) → ∃ w, v = acc + w * 128 ^ i ∧ i ≤ n ∧ r = groups w ++ r.drop (n - i) ∧ (0 < w ∨ i = 0)
  | [], i, acc, v, n, _, h => by simp [readG] at h
  | c :: r, i, acc, v, n, hb, h => by
    have hc := hb c (by simp)
    have hr : Bytes r := fun x hx => hb x (by simp [hx])
    unfold readG at h
    split at h
    · simp at h
    split at h
    · simp at h
    rename_i h0
    split at h
    · rename_i hlt
      simp only [Prod.mk.injEq] at h
      obtain ⟨rfl, rfl, _⟩ := h
      refine ⟨(c % 128).toNat, rfl, by omega, ?_, by omega⟩
      have e : i + 1 - i = 1 := by omega
      have e2 : (((c % 128).toNat : Nat) : Int) = c := by omega
      rw [groups_lt (by omega), e, e2]
      rfl
    · rename_i hlt
      obtain ⟨w, hv, hn, he, hw⟩ := readG_canon r (i + 1) _ v n hr h
      refine ⟨(c % 128).toNat + w * 128, ?_, by omega, ?_, by omega⟩
      · rw [hv, Nat.pow_succ, Nat.add_mul]
        have : w * (128 ^ i * 128) = w * 128 * 128 ^ i := by rw [Nat.mul_comm (128 ^ i), Nat.mul_assoc]
        omega
      · have hw' : 0 < w := hw.resolve_right (by omega)
        have e : n - i = n - (i + 1) + 1 := by omega
        have e2 : ((((c % 128).toNat + w * 128) % 128 + 128 : Nat) : Int) = c := by omega
        have e3 : ((c % 128).toNat + w * 128) / 128 = w := by omega
        rw [groups_ge (by omega), e, e2, e3, List.drop_succ_cons, List.cons_append, ← he]

theorem readAt_canon {last mx : Nat} {b : List Int} (hb : Bytes b) {at_ : Int} {v : Nat} {n : Int} (h : readAt last mx b at_ = (v, n, 0)) : 0 ≤ at_ ∧ at_ ≤ b.length ∧ at_ ≤ n ∧ b.drop at_.toNat = groups v ++ b.drop n.toNat := by
  unfold readAt at h
  split at h
  · simp at h
  · rename_i h0
    cases hq : readG last mx (b.drop at_.toNat) 0 0 with
    | mk v' q =>
      obtain ⟨n', e⟩ := q
      rw [hq] at h
      simp only at h
      split at h
      · rename_i he
        subst he
        simp only [Prod.mk.injEq] at h
        obtain ⟨rfl, rfl, _⟩ := h
        obtain ⟨w, hv, _, hd, _⟩ := readG_canon (b.drop at_.toNat) 0 0 v' n' (fun x hx => hb x (List.mem_of_mem_drop hx)) hq
        have : v' = w := by rw [hv]; simp
        subst this
        refine ⟨by omega, by omega, by omega, ?_⟩
        rw [Nat.sub_zero, List.drop_drop] at hd
        have e : (at_ + (n' : Int)).toNat = at_.toNat + n' := by omega
        rw [e]; exact hd
      · rename_i he
        simp only [Prod.mk.injEq] at h
        exact absurd h.2.2 he

theorem rdNums_canon {b : List Int} (hb : Bytes b) : ∀ (n : Nat) (at_ a : Int) (ns : List Int), 0 ≤ at_ → at_ ≤ b.length → rdNums b n at_ = some (ns, a) → at_ ≤ a ∧ a ≤ b.length ∧ (∀ x ∈ ns, 0 ≤ x ∧ x < 2 ^ 63) ∧ b.drop at_.toNat = gs ns ++ b.drop a.toNat
  | 0, at_, a, ns, h0, h1, h => by
    simp only [rdNums, Option.some.injEq, Prod.mk.injEq] at h
    obtain ⟨rfl, rfl⟩ := h
    exact ⟨by omega, h1, (fun x hx => by cases hx), rfl⟩
  | n + 1, at_, a, ns, h0, h1, h => by
    simp only [rdNums] at h
    split at h
    · cases h
    · rename_i he
      have he' : (readAt 8 127 b at_).2.2 = 0 := by simpa using he
      cases hr : rdNums b n (readAt 8 127 b at_).2.1 with
      | none => rw [hr] at h; cases h
      | some x =>
        rw [hr] at h
        simp only [Option.map_some, Option.some.injEq, Prod.mk.injEq] at h
        obtain ⟨rfl, rfl⟩ := h
        obtain ⟨hv, hn, hp⟩ := readAt_bounds (last := 8) (mx := 127) (by decide) hb (at_ := at_)
        change (readAt 8 127 b at_).1 < (127 + 1) * 128 ^ 8 at hv
        change (readAt 8 127 b at_).2.2 = 0 → 0 ≤ at_ ∧ at_ < (readAt 8 127 b at_).2.1 ∧ (readAt 8 127 b at_).2.1 ≤ b.length at hn
        have h8 : (127 + 1) * 128 ^ 8 = 2 ^ 63 := by decide
        have hne := hn he'
        have hq : readAt 8 127 b at_ = ((readAt 8 127 b at_).1, (readAt 8 127 b at_).2.1, 0) := by rw [← he']
        obtain ⟨_, _, c3, c4⟩ := readAt_canon hb hq
        obtain ⟨i1, i2, i3, i4⟩ := rdNums_canon hb n _ x.2 x.1 (by omega) (by omega) hr
        refine ⟨by omega, i2, ?_, ?_⟩
        · intro y hy
          rcases List.mem_cons.1 hy with rfl | hy
          · omega
          · exact i3 y hy
        · rw [c4, i4]
          simp [gs]

theorem readP_canon {b : List Int} (hb : Bytes b) (h1 : 0 < b.length) (hl : b.length ≤ 2 ^ 40) {p : Pk} (h : readP b = some p) : p.head = b ∧ p.right = true ∧ p.Ok := by
  unfold readP at h
  cases hr : rdNums b 5 1 with
  | none => rw [hr] at h; cases h
  | some x =>
    obtain ⟨ns, a⟩ := x
    rw [hr] at h
    simp only at h
    split at h
    · rename_i hc
      simp only [Option.some.injEq] at h
      subst h
      have hlen := rdNums_length hr
      obtain ⟨i1, i2, i3, i4⟩ := rdNums_canon hb 5 1 a ns (by omega) (by omega) hr
      match ns, hlen with
      | [n0, n1, n2, n3, n4], _ =>
        obtain ⟨x, b', rfl⟩ : ∃ x b', b = x :: b' := by
          cases b with
          | nil => simp at h1
          | cons x b' => exact ⟨x, b', rfl⟩
        have hx := hb x (by simp)
        have hn4 : n4 = ((x :: b').drop a.toNat).length := hc.1
        have hi3 : ∀ y, y ∈ [n0, n1, n2, n3, n4] → I64 y := fun y hy => by have := i3 y hy; exact ⟨by omega, by omega⟩
        refine ⟨?_, hc.2, ⟨⟨?_, ?_⟩, hi3 _ (by simp [mkPk]), hi3 _ (by simp [mkPk]), hi3 _ (by simp [mkPk]), hi3 _ (by simp [mkPk]), ?_, ?_⟩⟩
        · simp only [Pk.head, Pk.nums, mkPk, List.headD_cons, List.getD_cons_zero, List.getD_cons_succ]
          rw [← hn4]
          have e : x % 256 = x := by omega
          have e2 : (1 : Int).toNat = 1 := rfl
          rw [e2, List.drop_succ_cons, List.drop_zero] at i4
          rw [e, List.cons_append, ← i4]
        · simp only [mkPk, List.headD_cons]; omega
        · simp only [mkPk, List.headD_cons]; omega
        · exact fun y hy => hb y (List.mem_of_mem_drop hy)
        · simp only [mkPk, List.length_drop]; omega
    · cases h

theorem dec_canon {l : List Int} (hb : Bytes l) {p : Pk} (h : dec l = (p, 0)) : p.enc = l ∧ p.right = true ∧ p.Ok := by
  unfold dec at h
  split at h
  · simp at h
  rename_i h1
  split at h
  · simp at h
  rename_i h2
  cases hr : readP (l.take (l.length - 2)) with
  | none => rw [hr] at h; simp at h
  | some q =>
    rw [hr] at h
    simp only [Prod.mk.injEq, and_true] at h
    subst h
    have hlen : ¬ l.length < 3 := fun h => h2 (.inl h)
    have hcr : (crc (l.take (l.length - 2)) : Int) = tail2 l := Classical.byContradiction fun h => h2 (.inr h)
    obtain ⟨c1, c2, c3⟩ := readP_canon (hb.take _) (by simp; omega) (by simp; omega) hr
    refine ⟨?_, c2, c3⟩
    rw [Pk.enc, c1]
    have b1 := hb _ (List.getElem_mem (show l.length - 2 < l.length by omega))
    have b2 := hb _ (List.getElem_mem (show l.length - 1 < l.length by omega))
    have htl : tail2 l = l[l.length - 2] * 256 + l[l.length - 1] := by
      rw [tail2, List.getD_eq_getElem?_getD, List.getD_eq_getElem?_getD, List.getElem?_eq_getElem (by omega), List.getElem?_eq_getElem (by omega)]; rfl
    rw [htl] at hcr
    have e1 : ((crc (l.take (l.length - 2)) / 256 : Nat) : Int) = l[l.length - 2] := by omega
    have e2 : ((crc (l.take (l.length - 2)) % 256 : Nat) : Int) = l[l.length - 1] := by omega
    rw [e1, e2]
    have e3 : l.drop (l.length - 2) = [l[l.length - 2], l[l.length - 1]] := by
      rw [List.drop_eq_getElem_cons (by omega), List.drop_eq_getElem_cons (by omega), List.drop_eq_nil_of_le (by omega)]
      have : l.length - 2 + 1 = l.length - 1 := by omega
      simp only [this]
    rw [← e3, List.take_append_drop]

end Go.Proofs.Ytbpclinijbgchaa
