/- Packets: what is encoded is decoded again. By the session itself. -/
import Derived.Test.YtljjabccgbakgaaPack5
namespace Go.Proofs.Ytljjabccgbakgaa
open Go Go.Abs
set_option maxRecDepth 100000
set_option maxHeartbeats 4000000
set_option linter.unusedSimpArgs false
set_option linter.unusedVariables false

theorem Pk.right_iff {p : Pk} : p.right = true ↔ (1 ≤ p.kind ∧ p.kind ≤ 3 ∧ 1 ≤ p.src ∧ p.src ≤ 1073741824 ∧ 0 ≤ p.dst ∧ p.dst ≤ 1073741824 ∧ 0 ≤ p.seq ∧ p.seq ≤ 1073741824 ∧ 0 ≤ p.ack ∧ p.ack ≤ 1073741824 ∧ p.body.length ≤ 6000 ∧ (p.kind = 2 → 1 ≤ p.seq) ∧ (p.kind ≠ 2 → p.seq = 0 ∧ p.body.length = 0)) := by
  simp only [Pk.right, decide_eq_true_eq]

theorem Pk.nums_ok {p : Pk} (h : p.right = true) : ∀ x ∈ p.nums, 0 ≤ x ∧ x < 2 ^ 63 := by
  have := Pk.right_iff.1 h
  intro x hx
  simp only [Pk.nums, List.mem_cons, List.not_mem_nil, or_false] at hx
  rcases hx with rfl | rfl | rfl | rfl | rfl <;> omega

theorem Pk.head_len {p : Pk} (h : p.right = true) : 6 ≤ p.head.length ∧ p.head.length ≤ 6051 := by
  have hr := Pk.right_iff.1 h
  have h1 := gs_len p.nums fun x hx => by have := Pk.nums_ok h x hx; omega
  have hl : p.nums.length = 5 := rfl
  have h2 : 5 ≤ (gs p.nums).length := by
    simp only [Pk.nums, gs, List.length_append]
    have a1 := groups_pos p.src.toNat
    have a2 := groups_pos p.dst.toNat
    have a3 := groups_pos p.seq.toNat
    have a4 := groups_pos p.ack.toNat
    have a5 := groups_pos ((p.body.length : Int)).toNat
    omega
  simp only [Pk.head, List.cons_append, List.length_cons, List.length_append]
  omega

theorem Pk.enc_bytes {p : Pk} (hb : Bytes p.body) : Bytes p.enc := by
  have hc := crc_lt (Pk.head_bytes hb)
  refine (Pk.head_bytes hb).append ?_
  intro x hx
  simp at hx
  omega

theorem elems_sl {H : Heap} {m id off len gen sz : Nat} : elems H m (.sl id off len gen sz) = (match rowOf H[id]? with
    | some (sz', g, xs) => if gen = g ∧ sz' = m then some ((xs.drop off).take len) else none
    | none => none) := (rfl)
theorem B_all (l : List Int) : (B l).take l.length = B l := List.take_of_length_le (by simp [B])

theorem Pk.near0_ok {p : Pk} (h : p.Ok) : p.near0.Ok := by
  obtain ⟨h1, h2, h3, h4, h5, h6, h7⟩ := h
  unfold Pk.near0
  split
  · exact ⟨⟨by simp only; omega, by simp only; omega⟩, ⟨by simp only; omega, by simp only; omega⟩, ⟨by simp only; omega, by simp only; omega⟩, ⟨by simp only; omega, by simp only; omega⟩, ⟨by simp only; omega, by simp only; omega⟩, h6, h7⟩
  · exact ⟨⟨by simp only; omega, by simp only; omega⟩, ⟨by simp only; omega, by simp only; omega⟩, ⟨by simp only; omega, by simp only; omega⟩, ⟨by simp only; omega, by simp only; omega⟩, ⟨by simp only; omega, by simp only; omega⟩, (fun x hx => by cases hx), by simp⟩

theorem Pk.near_ok {p : Pk} (h : p.Ok) (w : Int) : (p.near w).Ok := by
  obtain ⟨h1, h2, h3, h4, h5, h6, h7⟩ := Pk.near0_ok h
  unfold Pk.near
  split
  · exact ⟨h1, h2, h3, ⟨by simp, by simp⟩, h5, h6, h7⟩
  split
  · exact ⟨h1, ⟨by simp, by simp⟩, h3, h4, h5, h6, h7⟩
  split
  · exact ⟨h1, h2, ⟨by simp, by simp⟩, h4, h5, h6, h7⟩
  split
  · exact ⟨h1, h2, h3, h4, h5, (fun x hx => by simp at hx; omega), by simp⟩
  · exact ⟨h1, h2, h3, h4, h5, h6, h7⟩
end Go.Proofs.Ytljjabccgbakgaa
