/- Plain laws of packets: bytes that are decoded are those of their packet. By the session itself. -/
import Derived.Test.YtljjabccgbakgaaPack6
namespace Go.Proofs.Ytljjabccgbakgaa
open Go Go.Abs
set_option maxRecDepth 100000
set_option maxHeartbeats 1000000
set_option linter.unusedSimpArgs false
set_option linter.unusedVariables false

theorem readG_canon {last mx : Nat} : ∀ (r : List Int) (i acc v n : Nat), Bytes r → readG last mx r i acc = (v, n, 0) → ∃ w, v = acc + w * 128 ^ i ∧ i ≤ n ∧ r = groups w ++ r.drop (n - i) ∧ (0 < w ∨ i = 0)
  | [], i, acc, v, n, _, h => by simp [readG] at h
  | c :: r, i, acc, v, n, hb, h => by
    have hc := hb c (by simp)
    have hr : Bytes r := fun x hx => hb x (by simp [hx])
    unfold readG at h
    split at h
    · simp at h
    split at h
    · simp at h
    rename_i h0
    split at h
    · rename_i hlt
      simp only [Prod.mk.injEq] at h
      obtain ⟨rfl, rfl, _⟩ := h
      refine ⟨(c % 128).toNat, rfl, by omega, ?_, by omega⟩
      have e : i + 1 - i = 1 := by omega
      have e2 : (((c % 128).toNat : Nat) : Int) = c := by omega
      rw [groups_lt (by omega), e, e2]
      rfl
    · rename_i hlt
      obtain ⟨w, hv, hn, he, hw⟩ := readG_canon r (i + 1) _ v n hr h
      refine ⟨(c % 128).toNat + w * 128, ?_, by omega, ?_, by omega⟩
      · rw [hv, Nat.pow_succ, Nat.add_mul]
        have : w * (128 ^ i * 128) = w * 128 * 128 ^ i := by rw [Nat.mul_comm (128 ^ i), Nat.mul_assoc]
        omega
      · have hw' : 0 < w := hw.resolve_right (by omega)
        have e : n - i = n - (i + 1) + 1 := by omega
        have e2 : ((((c % 128).toNat + w * 128) % 128 + 128 : Nat) : Int) = c := by omega
        have e3 : ((c % 128).toNat + w * 128) / 128 = w := by omega
        rw [groups_ge (by omega), e, e2, e3, List.drop_succ_cons, List.cons_append, ← he]

theorem readAt_canon {last mx : Nat} {b : List Int} (hb : Bytes b) {at_ : Int} {v : Nat} {n : Int} (h : readAt last mx b at_ = (v, n, 0)) : 0 ≤ at_ ∧ at_ ≤ b.length ∧ at_ ≤ n ∧ b.drop at_.toNat = groups v ++ b.drop n.toNat := by
  unfold readAt at h
  split at h
  · simp at h
  · rename_i h0
    cases hq : readG last mx (b.drop at_.toNat) 0 0 with
    | mk v' q =>
      obtain ⟨n', e⟩ := q
      rw [hq] at h
      simp only at h
      split at h
      · rename_i he
        subst he
        simp only [Prod.mk.injEq] at h
        obtain ⟨rfl, rfl, _⟩ := h
        obtain ⟨w, hv, _, hd, _⟩ := readG_canon (b.drop at_.toNat) 0 0 v' n' (fun x hx => hb x (List.mem_of_mem_drop hx)) hq
        have : v' = w := by rw [hv]; simp
        subst this
        refine ⟨by omega, by omega, by omega, ?_⟩
        rw [Nat.sub_zero, List.drop_drop] at hd
        have e : (at_ + (n' : Int)).toNat = at_.toNat + n' := by omega
        rw [e]; exact hd
      · rename_i he
        simp only [Prod.mk.injEq] at h
        exact absurd h.2.2 he

end Go.Proofs.Ytljjabccgbakgaa
