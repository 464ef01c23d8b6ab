/- Packets: what Encode and Sum of both packages return. By the session itself. -/
import Derived.Test.YtljjabccgbakgaaPack1
import Derived.Test.YtljjabccgbakgaaRows01
namespace Go.Proofs.Ytljjabccgbakgaa
open Go Go.Abs
set_option maxRecDepth 100000
set_option maxHeartbeats 4000000
set_option linter.unusedSimpArgs false
set_option linter.unusedVariables false

/-- The numbers of a packet. -/
def Pk.nums (p : Pk) : List Int := [p.src, p.dst, p.seq, p.ack, p.body.length]
/-- Numbers from 0 on, one behind the other. -/
def gs : List Int → List Int
  | [] => []
  | n :: l => groups n.toNat ++ gs l
theorem gs_bytes : ∀ l : List Int, Bytes (gs l)
  | [] => fun x h => by simp [gs] at h
  | v :: r => (Bytes.groups _).append (gs_bytes r)
theorem gs_len : ∀ l : List Int, I64s l → (gs l).length ≤ 10 * l.length
  | [], _ => by simp [gs]
  | v :: r, h => by
    have h0 := h v (by simp)
    have h1 := groups_le10 (v := v.toNat) (by omega)
    have h2 := gs_len r fun x hx => h x (by simp [hx])
    simp only [gs, List.length_append, List.length_cons]
    omega

/-- A packet's datagram without its check sum, and with it. -/
def Pk.head (p : Pk) : List Int := p.kind % 256 :: gs p.nums ++ p.body
def Pk.enc (p : Pk) : List Int := p.head ++ [((crc p.head / 256 : Nat) : Int), ((crc p.head % 256 : Nat) : Int)]

theorem Pk.head_bytes {p : Pk} (h : Bytes p.body) : Bytes p.head := by
  intro x hx
  simp only [Pk.head, List.cons_append, List.mem_cons, List.mem_append] at hx
  rcases hx with rfl | hx | hx
  · omega
  · exact gs_bytes _ x hx
  · exact h x hx

/-- New memory, and that there is no error. -/
def REnc (xs : List Int) (r : V) (H : Heap) : Prop := ∃ g, r = .tup [.sl 0 0 xs.length g 1, .t (.int .i64 0)] ∧ H = [.row 1 g (B xs)]

theorem wu8_mod (n : Int) : IntKind.u8.wrap n = n % 256 := by simp [IntKind.wrap, IntKind.bits, IntKind.signed]

end Go.Proofs.Ytljjabccgbakgaa
