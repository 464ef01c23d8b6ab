/- Packets: what is encoded is decoded again. By the session itself. -/
import Derived.Test.YtbpclinijbgchaaPack5
namespace Go.Proofs.Ytbpclinijbgchaa
open Go Go.Abs
set_option maxRecDepth 100000
set_option maxHeartbeats 4000000
set_option linter.unusedSimpArgs false
set_option linter.unusedVariables false

theorem rdNums_gs (rest : List Int) : ∀ (ns pre : List Int), (∀ n ∈ ns, 0 ≤ n ∧ n < 2 ^ 63) → rdNums (pre ++ gs ns ++ rest) ns.length pre.length = some (ns, ((pre ++ gs ns).length : Int))
  | [], pre, _ => by simp [rdNums, gs]
  | n :: ns, pre, h => by
    have hn := h n (by simp)
    have hr : readAt 8 127 (pre ++ gs (n :: ns) ++ rest) pre.length = (n.toNat, ((pre.length + (groups n.toNat).length : Nat) : Int), 0) := by
      have := readAt_groups (last := 8) (mx := 127) (by decide) pre (gs ns ++ rest) n.toNat (by omega)
      simpa [gs] using this
    have ih := rdNums_gs rest ns (pre ++ groups n.toNat) fun x hx => h x (by simp [hx])
    simp only [List.length_cons, rdNums]
    rw [hr, if_neg (by simp)]
    rw [List.length_append] at ih
    have e : pre ++ gs (n :: ns) ++ rest = pre ++ groups n.toNat ++ gs ns ++ rest := by simp [gs]
    rw [e, ih]
    have : ((n.toNat : Nat) : Int) = n := by omega
    simp only [Option.map_some, this, Option.some.injEq, Prod.mk.injEq, List.length_append, gs, true_and]
    omega

theorem Pk.right_iff {p : Pk} : p.right = true ↔ (1 ≤ p.kind ∧ p.kind ≤ 3 ∧ 1 ≤ p.src ∧ p.src ≤ 1073741824 ∧ 0 ≤ p.dst ∧ p.dst ≤ 1073741824 ∧ 0 ≤ p.seq ∧ p.seq ≤ 1073741824 ∧ 0 ≤ p.ack ∧ p.ack ≤ 1073741824 ∧ p.body.length ≤ 6000 ∧ (p.kind = 2 → 1 ≤ p.seq) ∧ (p.kind ≠ 2 → p.seq = 0 ∧ p.body.length = 0)) := by
  simp only [Pk.right, decide_eq_true_eq]

theorem Pk.nums_ok {p : Pk} (h : p.right = true) : ∀ x ∈ p.nums, 0 ≤ x ∧ x < 2 ^ 63 := by
  have := Pk.right_iff.1 h
  intro x hx
  simp only [Pk.nums, List.mem_cons, List.not_mem_nil, or_false] at hx
  rcases hx with rfl | rfl | rfl | rfl | rfl <;> omega

theorem readP_head {p : Pk} (h : p.right = true) : readP p.head = some p := by
  have hr := Pk.right_iff.1 h
  have h1 := rdNums_gs p.body p.nums [p.kind % 256] (Pk.nums_ok h)
  have e : p.head = [p.kind % 256] ++ gs p.nums ++ p.body := by simp [Pk.head]
  have hl : p.nums.length = 5 := rfl
  rw [hl] at h1
  rw [readP, e]
  simp only [List.length_singleton, Int.cast_ofNat_Int] at h1
  rw [h1]
  have hk : p.kind % 256 = p.kind := by omega
  have hmk : mkPk ([p.kind % 256] ++ gs p.nums ++ p.body) p.nums (([p.kind % 256] ++ gs p.nums).length : Int) = p := by
    rw [mkPk, Int.toNat_natCast, List.drop_left, hk]
    rfl
  simp only [hmk]
  rw [if_pos ⟨rfl, h⟩]

theorem Pk.head_len {p : Pk} (h : p.right = true) : 6 ≤ p.head.length ∧ p.head.length ≤ 6051 := by
  have hr := Pk.right_iff.1 h
  have h1 := gs_len p.nums fun x hx => by have := Pk.nums_ok h x hx; omega
  have hl : p.nums.length = 5 := rfl
  have h2 : 5 ≤ (gs p.nums).length := by
    simp only [Pk.nums, gs, List.length_append]
    have a1 := groups_pos p.src.toNat
    have a2 := groups_pos p.dst.toNat
    have a3 := groups_pos p.seq.toNat
    have a4 := groups_pos p.ack.toNat
    have a5 := groups_pos ((p.body.length : Int)).toNat
    omega
  simp only [Pk.head, List.cons_append, List.length_cons, List.length_append]
  omega

theorem getD_app {α : Type} (a b : List α) (k : Nat) (d : α) : (a ++ b).getD (a.length + k) d = b.getD k d := by
  rw [List.getD_eq_getElem?_getD, List.getD_eq_getElem?_getD, List.getElem?_append_right (by omega), Nat.add_sub_cancel_left]

theorem dec_enc {p : Pk} (hb : Bytes p.body) (h : p.right = true) : dec p.enc = (p, 0) := by
  obtain ⟨l1, l2⟩ := Pk.head_len h
  have hc := crc_lt (Pk.head_bytes hb)
  have hlen : p.enc.length = p.head.length + 2 := by simp [Pk.enc]
  have htk : p.enc.take (p.enc.length - 2) = p.head := by rw [hlen, Nat.add_sub_cancel, Pk.enc, List.take_left]
  have htl : tail2 p.enc = crc p.head := by
    rw [tail2, hlen, Pk.enc]
    have e1 : p.head.length + 2 - 2 = p.head.length + 0 := by omega
    have e2 : p.head.length + 2 - 1 = p.head.length + 1 := by omega
    rw [e1, e2, getD_app, getD_app]
    simp only [List.getD_cons_zero, List.getD_cons_succ]
    omega
  rw [dec, if_neg (by omega), htk, htl, if_neg (by rintro (h | h); omega; exact h rfl), readP_head h]

theorem Pk.enc_bytes {p : Pk} (hb : Bytes p.body) : Bytes p.enc := by
  have hc := crc_lt (Pk.head_bytes hb)
  refine (Pk.head_bytes hb).append ?_
  intro x hx
  simp at hx
  omega

theorem B_all (l : List Int) : (B l).take l.length = B l := List.take_of_length_le (by simp [B])

end Go.Proofs.Ytbpclinijbgchaa
