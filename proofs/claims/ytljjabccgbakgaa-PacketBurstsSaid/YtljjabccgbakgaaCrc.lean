/- Plain laws of the check sum: a burst of up to 16 bits is found. By the session itself. -/
import Derived.Test.YtljjabccgbakgaaBits
namespace Go.Proofs.Ytljjabccgbakgaa
open Go Go.Abs
set_option maxRecDepth 100000
set_option linter.unusedSimpArgs false
set_option linter.unusedVariables false

theorem two_mul_xor (a b : Nat) : 2 * (a ^^^ b) = (2 * a) ^^^ (2 * b) := by
  have h : ∀ x : Nat, 2 * x = x <<< 1 := fun x => by rw [Nat.shiftLeft_eq, Nat.mul_comm]
  rw [h, h, h, Nat.shiftLeft_xor_distrib]

theorem top_bit {r : Nat} (h : r < 65536) : r.testBit 15 = decide (32768 ≤ r) := by
  rw [Nat.testBit_eq_decide_div_mod_eq]
  refine decide_eq_decide.2 ?_
  have : (2 : Nat) ^ 15 = 32768 := by decide
  rw [this]
  omega

theorem crcBit_eq {r : Nat} (h : r < 65536) : crcBit r = (2 * r % 65536) ^^^ (if r.testBit 15 then 4129 else 0) := by
  rw [top_bit h]
  unfold crcBit
  by_cases hb : 32768 ≤ r
  · rw [if_pos hb, decide_eq_true hb]; rfl
  · rw [if_neg hb, decide_eq_false hb]
    have : 2 * r % 65536 = 2 * r := by omega
    rw [this]; simp

theorem xor_lt16 {a b : Nat} (ha : a < 65536) (hb : b < 65536) : a ^^^ b < 65536 := Nat.xor_lt_two_pow (n := 16) ha hb

theorem xor4 (a b c d : Nat) : (a ^^^ b) ^^^ (c ^^^ d) = (a ^^^ c) ^^^ (b ^^^ d) := by
  rw [Nat.xor_assoc, Nat.xor_assoc, ← Nat.xor_assoc b, ← Nat.xor_assoc c, Nat.xor_comm b c]

theorem crcBit_xor {a b : Nat} (ha : a < 65536) (hb : b < 65536) : crcBit (a ^^^ b) = crcBit a ^^^ crcBit b := by
  have e : 2 * (a ^^^ b) % 65536 = (2 * a % 65536) ^^^ (2 * b % 65536) := by
    rw [two_mul_xor]
    exact Nat.xor_mod_two_pow (n := 16)
  rw [crcBit_eq ha, crcBit_eq hb, crcBit_eq (xor_lt16 ha hb), e, Nat.testBit_xor, xor4]
  congr 1
  cases a.testBit 15 <;> cases b.testBit 15 <;> decide

theorem crcBits_xor : ∀ (n : Nat) {a b : Nat}, a < 65536 → b < 65536 → crcBits n (a ^^^ b) = crcBits n a ^^^ crcBits n b
  | 0, a, b, _, _ => rfl
  | n + 1, a, b, ha, hb => by
    simp only [crcBits]
    rw [crcBit_xor ha hb, crcBits_xor n (crcBit_lt ha) (crcBit_lt hb)]

theorem crcBit_zero {r : Nat} (hr : r < 65536) (h : crcBit r = 0) : r = 0 := by
  unfold crcBit at h
  split at h
  · have : 2 * r % 65536 = 4129 := by
      have := congrArg (· ^^^ 4129) h
      simpa [Nat.xor_assoc] using this
    omega
  · omega

/-- One bit is taken in. -/
def top (b : Bool) : Nat := if b then 32768 else 0
def feed : Nat → List Bool → Nat
  | r, [] => r
  | r, b :: l => feed (crcBit (r ^^^ top b)) l

theorem top_lt (b : Bool) : top b < 65536 := by cases b <;> decide
theorem top_xor (a b : Bool) : top (a ^^ b) = top a ^^^ top b := by cases a <;> cases b <;> decide
theorem step_lt {r : Nat} (h : r < 65536) (b : Bool) : crcBit (r ^^^ top b) < 65536 := crcBit_lt (xor_lt16 h (top_lt b))
theorem feed_lt : ∀ (l : List Bool) {r : Nat}, r < 65536 → feed r l < 65536
  | [], r, h => h
  | b :: l, r, h => feed_lt l (step_lt h b)
theorem feed_append : ∀ (a b : List Bool) (r : Nat), feed r (a ++ b) = feed (feed r a) b
  | [], b, r => rfl
  | x :: a, b, r => feed_append a b _

theorem feed_xor : ∀ (a b : List Bool) {r s : Nat}, a.length = b.length → r < 65536 → s < 65536 → feed (r ^^^ s) (List.zipWith (· ^^ ·) a b) = feed r a ^^^ feed s b
  | [], [], r, s, _, _, _ => rfl
  | x :: a, y :: b, r, s, hl, hr, hs => by
    simp only [List.zipWith_cons_cons, feed]
    rw [top_xor, xor4, crcBit_xor (xor_lt16 hr (top_lt x)) (xor_lt16 hs (top_lt y))]
    exact feed_xor a b (by simpa using hl) (step_lt hr x) (step_lt hs y)

theorem feed_false : ∀ (n : Nat), feed 0 (List.replicate n false) = 0
  | 0 => rfl
  | n + 1 => by
    rw [List.replicate_succ, feed]
    exact feed_false n

theorem feed_false_inv : ∀ (n : Nat) {r : Nat}, r < 65536 → feed r (List.replicate n false) = 0 → r = 0
  | 0, r, _, h => h
  | n + 1, r, hr, h => by
    rw [List.replicate_succ, feed] at h
    have := feed_false_inv n (step_lt hr false) h
    have e : r ^^^ top false = r := Nat.xor_zero r
    rw [e] at this
    exact crcBit_zero hr this

/-- Up to 16 bits as a number, the first one on top. -/
def word : List Bool → Nat
  | [] => 0
  | b :: l => top b + word l / 2

theorem word_lt : ∀ l : List Bool, word l < 65536
  | [] => by decide
  | b :: l => by
    have := word_lt l
    have h : top b ≤ 32768 := by cases b <;> decide
    simp only [word]
    omega

theorem word_dvd : ∀ l : List Bool, l.length ≤ 16 → 2 ^ (16 - l.length) ∣ word l
  | [], _ => ⟨0, rfl⟩
  | b :: l, h => by
    have hl : l.length ≤ 15 := by simpa using h
    obtain ⟨c, hc⟩ := word_dvd l (by omega)
    have e : 16 - l.length = (16 - (b :: l).length) + 1 := by simp only [List.length_cons]; omega
    simp only [word]
    rw [hc, e, Nat.pow_succ]
    have h2 : 2 ^ (16 - (b :: l).length) * 2 * c / 2 = 2 ^ (16 - (b :: l).length) * c := by
      rw [Nat.mul_right_comm, Nat.mul_div_cancel _ (by decide)]
    rw [h2]
    refine Nat.dvd_add ?_ ⟨c, rfl⟩
    cases b
    · exact ⟨0, rfl⟩
    · have : 32768 = 2 ^ (16 - (true :: l).length) * 2 ^ l.length := by
        rw [← Nat.pow_add]
        have : 16 - (true :: l).length + l.length = 15 := by simp only [List.length_cons] at *; omega
        rw [this]
      exact ⟨_, this⟩

theorem feed_word : ∀ (l : List Bool) {r : Nat}, r < 65536 → l.length ≤ 16 → feed r l = 0 → r = word l
  | [], r, _, _, h => h
  | b :: l, r, hr, hl, h => by
    have hl' : l.length ≤ 15 := by simpa using hl
    have ih := feed_word l (step_lt hr b) (by omega) h
    have hev : word l % 2 = 0 := by
      obtain ⟨c, hc⟩ := word_dvd l (by omega)
      have e : 16 - l.length = (15 - l.length) + 1 := by omega
      rw [hc, e, Nat.pow_succ, Nat.mul_right_comm, Nat.mul_mod_left]
    have hy := xor_lt16 hr (top_lt b)
    generalize hY : r ^^^ top b = y at *
    have hr' : r = y ^^^ top b := by rw [← hY, Nat.xor_assoc, Nat.xor_self, Nat.xor_zero]
    have hodd : ¬ 32768 ≤ y := by
      intro h
      rw [crcBit, if_pos h] at ih
      have h1 : ((2 * y % 65536) ^^^ 4129) % 2 = 1 := by
        have := Nat.xor_mod_two_pow (a := 2 * y % 65536) (b := 4129) (n := 1)
        rw [Nat.pow_one] at this
        rw [this]
        have : 2 * y % 65536 % 2 = 0 := by omega
        rw [this]
        decide
      omega
    rw [crcBit, if_neg hodd] at ih
    simp only [word]
    rw [hr']
    have e : y = word l / 2 := by omega
    rw [← e]
    cases b
    · simp [top]
    · have h32 : y < 2 ^ 15 := by omega
      have : y ^^^ 32768 = 32768 + y := by
        rw [Nat.xor_comm]
        have h1 := Nat.two_pow_add_eq_or_of_lt (i := 15) h32 1
        have hx : (2 ^ 15 * 1) ^^^ y = 2 ^ 15 * 1 ||| y := by
          apply Nat.eq_of_testBit_eq
          intro j
          rw [Nat.testBit_xor, Nat.testBit_or]
          by_cases hj : j = 15
          · subst hj
            have : y.testBit 15 = false := Nat.testBit_lt_two_pow h32
            rw [this]; simp
          · have : (2 ^ 15 * 1).testBit j = false := by rw [Nat.mul_one, Nat.testBit_two_pow]; simp; omega
            rw [this]; simp
        have e2 : (2 : Nat) ^ 15 * 1 = 32768 := by decide
        rw [e2] at hx h1
        rw [hx, ← h1]
      simpa [top] using this

theorem word_zero : ∀ (l : List Bool), l.length ≤ 16 → word l = 0 → ∀ b ∈ l, b = false
  | [], _, _ => fun b h => by cases h
  | x :: l, hl, h => by
    have hl' : l.length ≤ 15 := by simpa using hl
    simp only [word] at h
    obtain ⟨c, hc⟩ := word_dvd l (by omega)
    have e : 16 - l.length = (15 - l.length) + 1 := by omega
    have hev : word l % 2 = 0 := by rw [hc, e, Nat.pow_succ, Nat.mul_right_comm, Nat.mul_mod_left]
    have h0 : word l = 0 := by omega
    have hx : x = false := by
      cases x
      · rfl
      · simp [top] at h
    intro b hb
    rcases List.mem_cons.1 hb with rfl | hb
    · exact hx
    · exact word_zero l (by omega) h0 b hb

/-- A burst is found. -/
theorem burst_zero {n m : Nat} {l : List Bool} (hl : l.length ≤ 16) (h : feed 0 (List.replicate n false ++ l ++ List.replicate m false) = 0) : ∀ b ∈ l, b = false := by
  rw [feed_append, feed_append, feed_false] at h
  have h1 := feed_false_inv m (feed_lt l (by decide)) h
  have h2 := feed_word l (by decide) hl h1
  exact word_zero l hl h2.symm

def byteBits (c : Nat) : List Bool := [c.testBit 7, c.testBit 6, c.testBit 5, c.testBit 4, c.testBit 3, c.testBit 2, c.testBit 1, c.testBit 0]
def bitsOf : List Int → List Bool
  | [] => []
  | c :: l => byteBits c.toNat ++ bitsOf l

theorem bitsOf_length : ∀ l : List Int, (bitsOf l).length = 8 * l.length
  | [] => rfl
  | c :: l => by simp [bitsOf, bitsOf_length l, byteBits]; omega

theorem byte_feed_fin : ∀ c : Fin 256, crcBits 8 (c.val * 256) = feed 0 (byteBits c.val) := by decide +kernel
theorem feed_split (r : Nat) (hr : r < 65536) (c : Nat) : feed r (byteBits c) = crcBits 8 r ^^^ feed 0 (byteBits c) := by
  have hz : List.zipWith (· ^^ ·) (List.replicate 8 false) (byteBits c) = byteBits c := by simp [byteBits, List.replicate]
  have := feed_xor (List.replicate 8 false) (byteBits c) (r := r) (s := 0) rfl hr (by decide)
  rw [hz, Nat.xor_zero] at this
  rw [this]
  congr 1
  simp [List.replicate, feed, crcBits, top]

theorem crcByte_feed {r : Nat} (hr : r < 65536) {c : Int} (hc : 0 ≤ c ∧ c < 256) : crcByte r c = feed r (byteBits c.toNat) := by
  have := byte_feed_fin ⟨c.toNat, by omega⟩
  simp only at this
  rw [crcByte, crcBits_xor 8 hr (by omega), feed_split r hr, this]

theorem crcFrom_feed : ∀ (l : List Int) {r : Nat}, r < 65536 → Bytes l → crcFrom r l = feed r (bitsOf l)
  | [], r, _, _ => rfl
  | c :: l, r, hr, hb => by
    have hc := hb c (by simp)
    rw [crcFrom_cons, bitsOf, feed_append, ← crcByte_feed hr hc]
    exact crcFrom_feed l (crcByte_lt hr hc) fun x hx => hb x (by simp [hx])

theorem low_fin : ∀ c : Fin 256, crcBits 8 c.val = c.val * 256 := by decide +kernel

/-- Bytes with the right check sum leave nothing. -/
theorem crc_tail {l : List Int} (hb : Bytes l) {hi lo : Int} (h1 : 0 ≤ hi ∧ hi < 256) (h2 : 0 ≤ lo ∧ lo < 256) (h : (crc l : Int) = hi * 256 + lo) : crcFrom 65535 (l ++ [hi, lo]) = 0 := by
  rw [crcFrom_append]
  have hcrc : crcFrom 65535 l = crc l := by rw [crc]
  have hnil : ∀ r, crcFrom r [] = r := fun r => by rw [crcFrom, List.foldl_nil]
  rw [hcrc, crcFrom_cons, crcFrom_cons, hnil]
  have e1 : crc l = hi.toNat * 256 + lo.toNat := by omega
  have hx : (hi.toNat * 256 + lo.toNat) ^^^ (hi.toNat * 256) = lo.toNat := by
    have : hi.toNat * 256 + lo.toNat = hi.toNat * 256 ^^^ lo.toNat := by
      have h8 : lo.toNat < 2 ^ 8 := by omega
      have h3 := Nat.two_pow_add_eq_or_of_lt (i := 8) h8 hi.toNat
      have e2 : 2 ^ 8 * hi.toNat = hi.toNat * 256 := by rw [Nat.mul_comm]
      rw [e2] at h3
      rw [h3]
      apply Nat.eq_of_testBit_eq
      intro j
      rw [Nat.testBit_or, Nat.testBit_xor]
      by_cases hj : j < 8
      · have : (hi.toNat * 256).testBit j = false := by
          have : hi.toNat * 256 = hi.toNat <<< 8 := by rw [Nat.shiftLeft_eq]
          rw [this, Nat.testBit_shiftLeft]; simp; omega
        rw [this]; simp
      · have : lo.toNat.testBit j = false := Nat.testBit_lt_two_pow (Nat.lt_of_lt_of_le h8 (Nat.pow_le_pow_right (by decide) (by omega)))
        rw [this]; simp
    rw [this, Nat.xor_comm, ← Nat.xor_assoc, Nat.xor_self, Nat.zero_xor]
  have hlow := low_fin ⟨lo.toNat, by omega⟩
  simp only at hlow
  have h0 : crcBits 8 0 = 0 := by decide
  rw [crcByte, crcByte, e1, hx, hlow, Nat.xor_self, h0]

theorem byteBits_inj_fin : ∀ c : Fin 256, (byteBits c.val).foldl (fun n b => 2 * n + (if b then 1 else 0)) 0 = c.val := by decide +kernel
theorem byteBits_inj {a b : Int} (ha : 0 ≤ a ∧ a < 256) (hb : 0 ≤ b ∧ b < 256) (h : byteBits a.toNat = byteBits b.toNat) : a = b := by
  have h1 := byteBits_inj_fin ⟨a.toNat, by omega⟩
  have h2 := byteBits_inj_fin ⟨b.toNat, by omega⟩
  simp only at h1 h2
  rw [h, h2] at h1
  omega

theorem bitsOf_inj : ∀ {a b : List Int}, Bytes a → Bytes b → a.length = b.length → bitsOf a = bitsOf b → a = b
  | [], [], _, _, _, _ => rfl
  | x :: a, y :: b, ha, hb, hl, h => by
    simp only [bitsOf] at h
    obtain ⟨h1, h2⟩ := List.append_inj h rfl
    rw [byteBits_inj (ha x (by simp)) (hb y (by simp)) h1, bitsOf_inj (fun z hz => ha z (by simp [hz])) (fun z hz => hb z (by simp [hz])) (by simpa using hl) h2]

theorem flip_fin : ∀ c : Fin 256, ∀ j : Fin 8, byteBits (c.val ^^^ (128 >>> j.val)) = (byteBits c.val).set j.val (!((byteBits c.val).getD j.val false)) := by decide +kernel

theorem bitsOf_flip : ∀ (l : List Int) (i j : Nat) (hi : i < l.length), Bytes l → j < 8 → bitsOf (l.set i (((l[i]'hi).toNat ^^^ (128 >>> j) : Nat) : Int)) = (bitsOf l).set (8 * i + j) (!((bitsOf l).getD (8 * i + j) false))
  | c :: l, 0, j, hi, hb, hj => by
    have hc := hb c (by simp)
    have := flip_fin ⟨c.toNat, by omega⟩ ⟨j, hj⟩
    simp only at this
    have hl8 : (byteBits c.toNat).length = 8 := rfl
    simp only [List.set_cons_zero, bitsOf, List.getElem_cons_zero, Int.toNat_natCast, Nat.mul_zero, Nat.zero_add]
    rw [this, List.set_append_left _ _ (by omega), List.getD_eq_getElem?_getD, List.getD_eq_getElem?_getD, List.getElem?_append_left (by omega)]
  | c :: l, i + 1, j, hi, hb, hj => by
    have ih := bitsOf_flip l i j (by simpa using hi) (fun x hx => hb x (by simp [hx])) hj
    have hl8 : (byteBits c.toNat).length = 8 := rfl
    simp only [List.set_cons_succ, bitsOf, List.getElem_cons_succ]
    rw [ih, List.set_append_right _ _ (by omega), List.getD_eq_getElem?_getD, List.getD_eq_getElem?_getD, List.getElem?_append_right (by omega), hl8]
    have e : 8 * (i + 1) + j - 8 = 8 * i + j := by omega
    rw [e]
end Go.Proofs.Ytljjabccgbakgaa
