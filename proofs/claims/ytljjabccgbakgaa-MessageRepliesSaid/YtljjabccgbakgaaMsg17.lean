/- Messages: what is written is read again. By the session itself. -/
import Derived.Test.YtljjabccgbakgaaMsg16
namespace Go.Proofs.Ytljjabccgbakgaa
open Go Go.Abs
set_option maxRecDepth 100000
set_option maxHeartbeats 4000000
set_option linter.unusedSimpArgs false
set_option linter.unusedVariables false

theorem rdExact_enI (pre l rest : List Int) (h : I64s l) {n : Nat} (hn : l.length = n) (hn2 : n ≤ 2 ^ 20) : rdExact (pre ++ enI l ++ rest) n (pre.length, false) = (l, (((pre ++ enI l).length : Int), false)) := by
  unfold rdExact
  rw [rdInts_enI pre l rest h (most := n) (by omega) (by omega), if_pos hn]

theorem rdTh_enc (pre rest : List Int) {q : Th} (hq : q.Ok) (ha : q.args.length ≤ 4) : rdTh (pre ++ q.enc ++ rest) (pre.length, false) = (q, (((pre ++ q.enc).length : Int), false)) := by
  have h1 := rdExact_enI pre q.head (enI q.args ++ rest) (Th.head_ok hq) (Th.head_len hq) (by decide)
  have h2 := rdInts_enI (pre ++ enI q.head) q.args rest hq.2.2.2.2.2.1 (most := 4) (by omega) (by decide)
  have e : pre ++ q.enc ++ rest = pre ++ enI q.head ++ (enI q.args ++ rest) := by simp [Th.enc]
  have e2 : pre ++ enI q.head ++ enI q.args ++ rest = pre ++ enI q.head ++ (enI q.args ++ rest) := by simp
  rw [e2] at h2
  unfold rdTh
  rw [e, h1]
  simp only
  rw [h2]
  simp only [Th.head, List.getD_cons_zero, List.getD_cons_succ, List.drop_succ_cons, List.drop_zero, Th.enc, List.append_assoc]

theorem rdThs_encs (rest : List Int) : ∀ (l : List Th) (pre : List Int), (∀ q ∈ l, q.Ok ∧ q.args.length ≤ 4) → rdThs (pre ++ encs l ++ rest) l.length (pre.length, false) = (l, (((pre ++ encs l).length : Int), false))
  | [], pre, _ => by simp [rdThs, encs]
  | q :: l, pre, h => by
    obtain ⟨h1, h2⟩ := h q (by simp)
    have ih := rdThs_encs rest l (pre ++ q.enc) fun x hx => h x (by simp [hx])
    have hz := rdTh_enc pre (encs l ++ rest) h1 h2
    have e1 : pre ++ encs (q :: l) ++ rest = pre ++ q.enc ++ (encs l ++ rest) := by simp [encs]
    have e2 : pre ++ q.enc ++ encs l ++ rest = pre ++ q.enc ++ (encs l ++ rest) := by simp
    rw [e2] at ih
    rw [e1]
    simp only [List.length_cons, rdThs, if_neg Bool.false_ne_true]
    rw [hz]
    simp only
    rw [ih]
    simp [encs]

theorem pairs_flatO : ∀ l : List (Int × Int), pairs (flatO l) = l
  | [] => rfl
  | (a, b) :: l => by
    have := pairs_flatO l
    simp only [flatO, List.flatMap_cons, List.cons_append, List.nil_append, pairs] at *
    rw [this]

theorem decR_enc {R : Rp} (hR : R.Ok) (hf : R.Fit) : decR R.enc = (R, 0) := by
  obtain ⟨kerr, kwords, kwlen, kths, ktlen, kout, kolen, kstop, kslen⟩ := hR
  obtain ⟨f1, f2, f3, f4⟩ := hf
  have h1 := rdN_zig (pre := []) (rest := enI R.words ++ (groups R.ths.length ++ (encs R.ths ++ (enI (flatO R.out) ++ enI R.stop)))) kerr
  have h2 := rdInts_enI (groups (zig R.err)) R.words (groups R.ths.length ++ (encs R.ths ++ (enI (flatO R.out) ++ enI R.stop))) kwords (most := 128) (by omega) (by decide)
  have h3 := rdN_group (pre := groups (zig R.err) ++ enI R.words) (rest := encs R.ths ++ (enI (flatO R.out) ++ enI R.stop)) (n := R.ths.length) (by omega)
  have h4 := rdThs_encs (enI (flatO R.out) ++ enI R.stop) R.ths (groups (zig R.err) ++ enI R.words ++ groups R.ths.length) fun q hq => ⟨kths q hq, f4 q hq⟩
  have h5 := rdInts_enI (groups (zig R.err) ++ enI R.words ++ groups R.ths.length ++ encs R.ths) (flatO R.out) (enI R.stop) kout (most := 256) (by rw [flatO_length]; omega) (by decide)
  have h6 := rdExact_enI (groups (zig R.err) ++ enI R.words ++ groups R.ths.length ++ encs R.ths ++ enI (flatO R.out)) R.stop [] kstop kslen (by decide)
  have e : R.enc = groups (zig R.err) ++ (enI R.words ++ (groups R.ths.length ++ (encs R.ths ++ (enI (flatO R.out) ++ enI R.stop)))) := by simp [Rp.enc, Rp.pre]
  simp only [List.nil_append, List.append_assoc, List.append_nil, List.length_nil, Int.cast_ofNat_Int, Nat.zero_add, List.length_append] at h1 h2 h3 h4 h5 h6
  rw [← e] at h1 h2 h3 h4 h5 h6
  simp only [← Nat.add_assoc] at h4 h5 h6
  have hlen : R.enc.length = (groups (zig R.err)).length + (enI R.words).length + (groups R.ths.length).length + (encs R.ths).length + (enI (flatO R.out)).length + (enI R.stop).length := by rw [e]; simp only [List.length_append]; omega
  unfold decR
  rw [h1]
  simp only
  rw [h2]
  simp only
  rw [h3]
  simp only
  rw [if_neg (by omega), Int.toNat_natCast, h4]
  unfold afterThs
  simp only
  rw [h5]
  simp only
  rw [if_pos (by rw [flatO_length]; omega)]
  unfold decEnd
  rw [h6]
  simp only
  rw [if_pos ⟨trivial, by rw [hlen]⟩, pairs_flatO]
end Go.Proofs.Ytljjabccgbakgaa
