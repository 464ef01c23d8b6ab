/- Packets: what Encode and Sum of both packages return. By the session itself. -/
import Derived.Test.YtbpclinijbgchaaPack1
import Derived.Test.YtbpclinijbgchaaRows01
namespace Go.Proofs.Ytbpclinijbgchaa
open Go Go.Abs
set_option maxRecDepth 100000
set_option maxHeartbeats 4000000
set_option linter.unusedSimpArgs false
set_option linter.unusedVariables false

theorem rem65536 (a : Nat) : (a : Int).tmod 65536 = ((a % 65536 : Nat) : Int) := by rw [Int.tmod_eq_emod_of_nonneg (by omega)]; omega
theorem rem256 (a : Nat) : (a : Int).tmod 256 = ((a % 256 : Nat) : Int) := by rw [Int.tmod_eq_emod_of_nonneg (by omega)]; omega
theorem quo256 (a : Nat) : (a : Int).tdiv 256 = ((a / 256 : Nat) : Int) := by rw [Int.tdiv_eq_ediv_of_nonneg (by omega)]; omega

theorem rSum_sc (l : List Int) (hb : Bytes l) (hl : l.length ≤ 2 ^ 47) (tight : Bool) :
    SCall PP N.debuggerref33_Sum [.t (.lst 1 tight (B l))] [] (RTree (.int .i64 (crc l))) := by
  refine debuggerref33_Sum.intro (by simp) ?_
  simp (maxSteps := 4000000) -implicitDefEqProofs (disch := omega) only [B_length, ↓sxPre, sxPost, sxLib, if_true, if_false, Nat.reduceEqDiff, ↓reduceIte, Nat.reduceAdd, Nat.reduceSub, Nat.reduceMul, Nat.reduceLT, Nat.reduceLeDiff, reduceCtorEq, eq_self, K.isEff, List.reduceReplicate]
  refine wpC_loop_gc [0, 3, 4] [] (fun m s => ∃ (i r : Nat), m + i = l.length ∧ r < 65536 ∧ crcFrom r (l.drop i) = crc l ∧ s = ⟨[(0, .t (.lst 1 tight (B l))), (3, .t (.int .i64 r)), (4, .t (.int .i64 i))], []⟩) l.length
    ⟨by simp [gcSt, keepOk, finG, resV, resOne, resAll, idx, V.ren, V.renL, Obj.ren, get_cons, get_nil, RTree, RTup, RRow], 0, 65535, by omega, by omega, by simp [crc], by simp [gcSt, keepOk, finG, resV, resOne, resAll, idx, V.ren, V.renL, Obj.ren, get_cons, get_nil, RTree, RTup, RRow]⟩ ?_
  rintro m s ⟨i, r, hm, hr, hcrc, rfl⟩
  by_cases hi : i < l.length
  · have hi' : (i : Int) < l.length := by omega
    have hbi := hb (l[i]'hi) (List.getElem_mem hi)
    rw [crcFrom_at hi] at hcrc
    have hx := xorN (a := r) (b := (l[i]'hi).toNat * 256) (by omega) (by omega)
    have hlt : r ^^^ ((l[i]'hi).toNat * 256) < 65536 := Nat.xor_lt_two_pow (n := 16) hr (by omega)
    unfold crcByte at hcrc
    simp (maxSteps := 4000000) -implicitDefEqProofs (disch := omega) only [hi', B_length, at_B' hi, Int.toNat_natCast, at_zero, mul256 _ hbi, hx, ↓sxPre, sxPost, sxLib, if_true, if_false, Nat.reduceEqDiff, ↓reduceIte, Nat.reduceAdd, Nat.reduceSub, Nat.reduceMul, Nat.reduceLT, Nat.reduceLeDiff, reduceCtorEq, eq_self, K.isEff, List.reduceReplicate]
    refine ⟨by omega, ?_⟩
    generalize r ^^^ ((l[i]'hi).toNat * 256) = q at *
    refine wpC_loop_gc [0, 3, 4, 5] [] (fun m2 s => ∃ (j t : Nat), m2 + j = 8 ∧ t < 65536 ∧ crcBits m2 t = crcBits 8 q ∧ s = ⟨[(0, .t (.lst 1 tight (B l))), (3, .t (.int .i64 t)), (4, .t (.int .i64 i)), (5, .t (.int .i64 j))], []⟩) 8
      ⟨by simp [gcSt, keepOk, finG, resV, resOne, resAll, idx, V.ren, V.renL, Obj.ren, get_cons, get_nil, RTree, RTup, RRow], 0, q, by omega, hlt, rfl, by simp [gcSt, keepOk, finG, resV, resOne, resAll, idx, V.ren, V.renL, Obj.ren, get_cons, get_nil, RTree, RTup, RRow]⟩ ?_
    rintro m2 s ⟨j, t, hj, ht, hct, rfl⟩
    by_cases hj8 : j < 8
    · have hj' : (j : Int) < 8 := by omega
      obtain ⟨m3, rfl⟩ : ∃ m3, m2 = m3 + 1 := ⟨m2 - 1, by omega⟩
      simp only [crcBits] at hct
      have e2 : (t : Int) * 2 = ((2 * t : Nat) : Int) := by omega
      by_cases hbig : 32768 ≤ t
      · have hb' : decide ((32768 : Int) ≤ t) = true := decide_eq_true (by omega)
        have e : crcBit t = (2 * t % 65536) ^^^ 4129 := if_pos hbig
        simp (maxSteps := 4000000) -implicitDefEqProofs (disch := omega) only [hj', hb', e2, rem65536, xor4129 (a := 2 * t % 65536) (by omega), ↓sxPre, sxPost, sxLib, if_true, if_false, Nat.reduceEqDiff, ↓reduceIte, Nat.reduceAdd, Nat.reduceSub, Nat.reduceMul, Nat.reduceLT, Nat.reduceLeDiff, reduceCtorEq, eq_self, K.isEff, List.reduceReplicate]
        refine ⟨by decide, m3, by omega, by simp [gcSt, keepOk, finG, resV, resOne, resAll, idx, V.ren, V.renL, Obj.ren, get_cons, get_nil, RTree, RTup, RRow], j + 1, crcBit t, by omega, crcBit_lt ht, hct, by simp [e, gcSt, keepOk, finG, resV, resOne, resAll, idx, V.ren, V.renL, Obj.ren, get_cons, get_nil, RTree, RTup, RRow]⟩
      · have hb' : decide ((32768 : Int) ≤ t) = false := decide_eq_false (by omega)
        have e : crcBit t = 2 * t := if_neg hbig
        have e3 : 2 * t % 65536 = 2 * t := by omega
        simp (maxSteps := 4000000) -implicitDefEqProofs (disch := omega) only [hj', hb', e2, rem65536, e3, ↓sxPre, sxPost, sxLib, if_true, if_false, Nat.reduceEqDiff, ↓reduceIte, Nat.reduceAdd, Nat.reduceSub, Nat.reduceMul, Nat.reduceLT, Nat.reduceLeDiff, reduceCtorEq, eq_self, K.isEff, List.reduceReplicate]
        refine ⟨by decide, m3, by omega, by simp [gcSt, keepOk, finG, resV, resOne, resAll, idx, V.ren, V.renL, Obj.ren, get_cons, get_nil, RTree, RTup, RRow], j + 1, crcBit t, by omega, crcBit_lt ht, hct, by simp [e, gcSt, keepOk, finG, resV, resOne, resAll, idx, V.ren, V.renL, Obj.ren, get_cons, get_nil, RTree, RTup, RRow]⟩
    · have hj' : ¬ (j : Int) < 8 := by omega
      obtain rfl : m2 = 0 := by omega
      simp only [crcBits] at hct
      simp (maxSteps := 4000000) -implicitDefEqProofs (disch := omega) only [hj', ↓sxPre, sxPost, sxLib, if_true, if_false, Nat.reduceEqDiff, ↓reduceIte, Nat.reduceAdd, Nat.reduceSub, Nat.reduceMul, Nat.reduceLT, Nat.reduceLeDiff, reduceCtorEq, eq_self, K.isEff, List.reduceReplicate]
      refine ⟨m - 1, by omega, by simp [gcSt, keepOk, finG, resV, resOne, resAll, idx, V.ren, V.renL, Obj.ren, get_cons, get_nil, RTree, RTup, RRow], i + 1, t, by omega, ht, by rw [← hcrc, hct]; rfl, by simp [gcSt, keepOk, finG, resV, resOne, resAll, idx, V.ren, V.renL, Obj.ren, get_cons, get_nil, RTree, RTup, RRow]⟩
  · have hi' : ¬ (i : Int) < l.length := by omega
    rw [List.drop_eq_nil_of_le (by omega)] at hcrc
    simp (maxSteps := 4000000) -implicitDefEqProofs (disch := omega) only [hi', B_length, ↓sxPre, sxPost, sxLib, if_true, if_false, Nat.reduceEqDiff, ↓reduceIte, Nat.reduceAdd, Nat.reduceSub, Nat.reduceMul, Nat.reduceLT, Nat.reduceLeDiff, reduceCtorEq, eq_self, K.isEff, List.reduceReplicate]
    refine finK_gc [] ?_
    simp [← hcrc, crcFrom, gcSt, keepOk, finG, resV, resOne, resAll, idx, V.ren, V.renL, Obj.ren, get_cons, get_nil, RTree, RTup, RRow]

/-- The numbers of a packet. -/
def Pk.nums (p : Pk) : List Int := [p.src, p.dst, p.seq, p.ack, p.body.length]
/-- Numbers from 0 on, one behind the other. -/
def gs : List Int → List Int
  | [] => []
  | n :: l => groups n.toNat ++ gs l
theorem gs_append : ∀ l m : List Int, gs (l ++ m) = gs l ++ gs m
  | [], m => rfl
  | v :: r, m => by simp [gs, gs_append r m]
theorem gs_take {l : List Int} {i : Nat} (h : i < l.length) : gs (l.take (i + 1)) = gs (l.take i) ++ groups (l[i]'h).toNat := by
  rw [List.take_succ_eq_append_getElem h, gs_append]; simp [gs]
theorem gs_bytes : ∀ l : List Int, Bytes (gs l)
  | [] => fun x h => by simp [gs] at h
  | v :: r => (Bytes.groups _).append (gs_bytes r)
theorem gs_len : ∀ l : List Int, I64s l → (gs l).length ≤ 10 * l.length
  | [], _ => by simp [gs]
  | v :: r, h => by
    have h0 := h v (by simp)
    have h1 := groups_le10 (v := v.toNat) (by omega)
    have h2 := gs_len r fun x hx => h x (by simp [hx])
    simp only [gs, List.length_append, List.length_cons]
    omega

/-- A packet's datagram without its check sum, and with it. -/
def Pk.head (p : Pk) : List Int := p.kind % 256 :: gs p.nums ++ p.body
def Pk.enc (p : Pk) : List Int := p.head ++ [((crc p.head / 256 : Nat) : Int), ((crc p.head % 256 : Nat) : Int)]

theorem Pk.head_bytes {p : Pk} (h : Bytes p.body) : Bytes p.head := by
  intro x hx
  simp only [Pk.head, List.cons_append, List.mem_cons, List.mem_append] at hx
  rcases hx with rfl | hx | hx
  · omega
  · exact gs_bytes _ x hx
  · exact h x hx

/-- New memory, and that there is no error. -/
def REnc (xs : List Int) (r : V) (H : Heap) : Prop := ∃ g, r = .tup [.sl 0 0 xs.length g 1, .t (.int .i64 0)] ∧ H = [.row 1 g (B xs)]

theorem shr8 (a : Nat) : (a : Int).fdiv (2 ^ min (Int.toNat 8) IntKind.i64.bits) = ((a / 256 : Nat) : Int) := by
  have : (2 : Int) ^ min (Int.toNat 8) IntKind.i64.bits = 256 := by decide
  rw [this, Int.fdiv_eq_ediv_of_nonneg _ (by decide)]; omega

theorem wu8_mod (n : Int) : IntKind.u8.wrap n = n % 256 := by simp [IntKind.wrap, IntKind.bits, IntKind.signed]

theorem Encode_sc (p : Pk) (hp : p.Ok) (hr : p.right = true) (sz : Nat) (tight : Bool) (hsz : sz = 1 ∨ p.body = []) : SCall PP N.packet_Encode [.agg ((p.cells sz tight).map V.t)] [] (REnc p.enc) := by
  refine packet_Encode.intro (by simp) ?_
  have c := Right_sc p hp.2.2.2.2.2.2 sz tight
  rw [hr] at c
  obtain ⟨kind, src, dst, seq, ack, body⟩ := p
  have hn0 : ∀ x ∈ Pk.nums ⟨kind, src, dst, seq, ack, body⟩, 0 ≤ x ∧ x < 2 ^ 31 := by
    simp only [Pk.right, decide_eq_true_eq] at hr
    intro x hx
    simp only [Pk.nums, List.mem_cons, List.not_mem_nil, or_false] at hx
    rcases hx with rfl | rfl | rfl | rfl | rfl <;> omega
  have hb6 : body.length ≤ 6000 := by simp only [Pk.right, decide_eq_true_eq] at hr; omega
  have hbb : Bytes body := hp.2.2.2.2.2.1
  simp only [Pk.cells] at c ⊢
  have hel : ∀ H : Heap, elems H 1 (.t (.lst sz tight (B body))) = some (B body) := fun H => elems_lst (Or.imp id (fun e => by rw [e]; rfl) (show sz = 1 ∨ body = [] from hsz))
  simp (maxSteps := 4000000) -implicitDefEqProofs (disch := omega) only [↓sxPre, sxPost, sxLib, if_true, if_false, Nat.reduceEqDiff, ↓reduceIte, Nat.reduceAdd, Nat.reduceSub, Nat.reduceMul, Nat.reduceLT, Nat.reduceLeDiff, reduceCtorEq, eq_self, K.isEff, List.reduceReplicate]
  refine step_tree (x := .bool true) ?_ rfl ?_
  · simpa [Abs.view, Abs.get, ev, viewL] using c
  simp (maxSteps := 4000000) -implicitDefEqProofs (disch := omega) only [keff_buildSlice, toElems_cons, toElems_nil, toElem_t, setElems_cons, setElems_nil, B_length, ↓sxPre, sxPost, sxLib, if_true, if_false, Nat.reduceEqDiff, ↓reduceIte, Nat.reduceAdd, Nat.reduceSub, Nat.reduceMul, Nat.reduceLT, Nat.reduceLeDiff, reduceCtorEq, eq_self, K.isEff, List.reduceReplicate]
  have hq5 : (Pk.nums ⟨kind, src, dst, seq, ack, body⟩).length = 5 := rfl
  have hlst : T.lst 1 true [T.int IntKind.i64 src, T.int IntKind.i64 dst, T.int IntKind.i64 seq, T.int IntKind.i64 ack, T.int IntKind.i64 (body.length : Int)] = T.lst 1 true (Ns (Pk.nums ⟨kind, src, dst, seq, ack, body⟩)) := rfl
  have hhead : Pk.head ⟨kind, src, dst, seq, ack, body⟩ = kind % 256 :: gs (Pk.nums ⟨kind, src, dst, seq, ack, body⟩) ++ body := rfl
  have henc : Pk.enc ⟨kind, src, dst, seq, ack, body⟩ = Pk.head ⟨kind, src, dst, seq, ack, body⟩ ++ [((crc (Pk.head ⟨kind, src, dst, seq, ack, body⟩) / 256 : Nat) : Int), ((crc (Pk.head ⟨kind, src, dst, seq, ack, body⟩) % 256 : Nat) : Int)] := rfl
  have hhb : Bytes (Pk.head ⟨kind, src, dst, seq, ack, body⟩) := Pk.head_bytes hbb
  rw [henc]
  simp only [hlst, wu8_mod]
  rw [hhead] at hhb ⊢
  have hi64 : I64s (Pk.nums ⟨kind, src, dst, seq, ack, body⟩) := fun x hx => by have := hn0 x hx; omega
  have hkb : Bytes [kind % 256] := by intro x hx; simp at hx; omega
  clear hlst henc hhead c hr hp
  generalize Pk.nums ⟨kind, src, dst, seq, ack, body⟩ = q at *
  generalize hbox : Obj.box [V.t (T.int IntKind.i64 kind), V.t (T.int IntKind.i64 src), V.t (T.int IntKind.i64 dst), V.t (T.int IntKind.i64 seq), V.t (T.int IntKind.i64 ack), V.t (T.lst sz tight (B body))] = bx
  have hbren : ∀ ρ, bx.ren ρ = bx := by intro ρ; subst hbox; rfl
  simp only [Obj.ren] at hbren
  refine wpC_loop_any [1, 4, 26, 27, 28] (fun m s => ∃ (i : Nat) (x : V) (H : Heap), m + i = 5 ∧ ((i = 0 ∧ x = .t (.lst 1 true (B [kind % 256])) ∧ H = [bx]) ∨ ∃ g, 0 < i ∧ x = .sl 1 0 (kind % 256 :: gs (q.take i)).length g 1 ∧ H = [bx, .row 1 g (B (kind % 256 :: gs (q.take i)))]) ∧
      s = ⟨[(1, .ref 0 0), (4, x), (26, .t (.lst 1 true (Ns q))), (27, .t (.int .i64 5)), (28, .t (.int .i64 i))], H⟩) 5
    ⟨[0], by simp [gcSt, keepOk, finG, resV, resOne, resAll, idx, V.ren, V.renL, Obj.ren, get_cons, get_nil, RTree, RTup, RRow], 0, _, _, by omega, .inl ⟨rfl, rfl, rfl⟩, by simp [hbren, B, gcSt, keepOk, finG, resV, resOne, resAll, idx, V.ren, V.renL, Obj.ren, get_cons, get_nil, RTree, RTup, RRow]⟩ ?_
  rintro m s ⟨i, x, H, hm, hx, rfl⟩
  have hri : (gs (q.take i)).length ≤ 50 := by
    have := gs_len (q.take i) fun x hx => hi64 x (List.mem_of_mem_take hx)
    simp only [List.length_take] at this
    omega
  by_cases hi : i < 5
  · have hi' : (i : Int) < 5 := by omega
    have hiq : i < q.length := by omega
    have hqi := hn0 _ (List.getElem_mem hiq)
    have hg := AppendUint_sc (kind % 256 :: gs (q.take i)) (decide (i = 0)) (q[i]'hiq) (by omega) (by simp; omega)
    rw [if_neg (by omega), List.cons_append, ← gs_take hiq] at hg
    have hiNs : (i : Int) < (Ns q).length := by rw [Ns_length]; omega
    simp (maxSteps := 4000000) -implicitDefEqProofs (disch := omega) only [hi', Ns_length, Int.toNat_natCast, at_Ns hiq, at_zero, ↓sxPre, sxPost, sxLib, if_true, if_false, Nat.reduceEqDiff, ↓reduceIte, Nat.reduceAdd, Nat.reduceSub, Nat.reduceMul, Nat.reduceLT, Nat.reduceLeDiff, reduceCtorEq, eq_self, K.isEff, List.reduceReplicate]
    refine ⟨by omega, step_row (sz := 1) (ys := B (kind % 256 :: gs (q.take (i + 1)))) ?_ (B_flat _) fun g2 => ?_⟩
    · rcases hx with ⟨rfl, rfl, rfl⟩ | ⟨g, hpos, rfl, rfl⟩
      · simpa [Abs.view, rowOf, Abs.get, ev, gs, B] using hg
      · have h0 : decide (i = 0) = false := decide_eq_false (by omega)
        rw [h0] at hg
        have htk : (B (kind % 256 :: gs (q.take i))).take ((gs (q.take i)).length + 1) = B (kind % 256 :: gs (q.take i)) := List.take_of_length_le (by simp [B])
        simpa [Abs.view, rowOf, Abs.get, ev, htk] using hg
    simp (maxSteps := 4000000) -implicitDefEqProofs (disch := omega) only [B_length, ↓sxPre, sxPost, sxLib, if_true, if_false, Nat.reduceEqDiff, ↓reduceIte, Nat.reduceAdd, Nat.reduceSub, Nat.reduceMul, Nat.reduceLT, Nat.reduceLeDiff, reduceCtorEq, eq_self, K.isEff, List.reduceReplicate]
    have hH0 : ∃ R, H = bx :: R := by
      rcases hx with ⟨_, _, rfl⟩ | ⟨g, _, _, rfl⟩
      · exact ⟨_, rfl⟩
      · exact ⟨_, rfl⟩
    obtain ⟨R, rfl⟩ := hH0
    refine ⟨m - 1, by omega, [0, (bx :: R).length], by simp [gcSt, keepOk, finG, resV, resOne, resAll, idx, V.ren, V.renL, Obj.ren, get_cons, get_nil, RTree, RTup, RRow], i + 1, _, _, by omega, .inr ⟨g2, by omega, rfl, rfl⟩, by simp [B_length, hbren, gcSt, keepOk, finG, resV, resOne, resAll, idx, V.ren, V.renL, Obj.ren, get_cons, get_nil, RTree, RTup, RRow]⟩
  · obtain rfl : i = 5 := by omega
    have hi' : ¬ (((5 : Nat) : Int) < 5) := by decide
    obtain ⟨g, _, rfl, rfl⟩ := hx.resolve_left (by rintro ⟨h, _⟩; cases h)
    rw [List.take_of_length_le (by omega)] at hri ⊢
    subst hbox
    have hc := crc_lt hhb
    generalize hK : kind % 256 :: gs q = L at *
    have hLl : L.length ≤ 51 := by rw [← hK, List.length_cons]; omega
    have htk : (B (L ++ body)).take (L.length + body.length) = B (L ++ body) := List.take_of_length_le (by simp [B])
    simp (maxSteps := 4000000) -implicitDefEqProofs (disch := omega) only [hi', hel, B_length, ← B_append, keff_buildSlice, toElems_cons, toElems_nil, toElem_t, setElems_cons, setElems_nil, ↓sxPre, sxPost, sxLib, if_true, if_false, Nat.reduceEqDiff, ↓reduceIte, Nat.reduceAdd, Nat.reduceSub, Nat.reduceMul, Nat.reduceLT, Nat.reduceLeDiff, reduceCtorEq, eq_self, K.isEff, List.reduceReplicate]
    refine ⟨by omega, step_tree (x := .int .i64 (crc (L ++ body))) ?_ rfl ?_⟩
    · simpa [Abs.view, rowOf, Abs.get, ev, htk] using Sum_sc (L ++ body) hhb (by simp; omega) false
    generalize crc (L ++ body) = c at *
    have hc1 : IntKind.u8.wrap ((c / 256 : Nat) : Int) = ((c / 256 : Nat) : Int) := wu8 (by omega)
    simp (maxSteps := 4000000) -implicitDefEqProofs (disch := omega) only [shr8, hc1, wu8_nat, B_length, ← B_append, keff_buildSlice, toElems_cons, toElems_nil, toElem_t, setElems_cons, setElems_nil, elems_lst', ↓sxPre, sxPost, sxLib, if_true, if_false, Nat.reduceEqDiff, ↓reduceIte, Nat.reduceAdd, Nat.reduceSub, Nat.reduceMul, Nat.reduceLT, Nat.reduceLeDiff, reduceCtorEq, eq_self, K.isEff, List.reduceReplicate]
    refine ⟨by decide, by omega, finK_gc [1] ?_⟩
    simp [REnc, B, Nat.add_assoc, gcSt, keepOk, finG, resV, resOne, resAll, idx, V.ren, V.renL, Obj.ren, get_cons, get_nil, RTree, RTup, RRow]

theorem rEncode_sc (p : Pk) (hp : p.Ok) (hr : p.right = true) (sz : Nat) (tight : Bool) (hsz : sz = 1 ∨ p.body = []) : SCall PP N.debuggerref33_Encode [.agg ((p.cells sz tight).map V.t)] [] (REnc p.enc) := by
  refine debuggerref33_Encode.intro (by simp) ?_
  have c := rRight_sc p hp.2.2.2.2.2.2 sz tight
  rw [hr] at c
  obtain ⟨kind, src, dst, seq, ack, body⟩ := p
  have hn0 : (0 ≤ src ∧ src < 2 ^ 31) ∧ (0 ≤ dst ∧ dst < 2 ^ 31) ∧ (0 ≤ seq ∧ seq < 2 ^ 31) ∧ (0 ≤ ack ∧ ack < 2 ^ 31) := by
    simp only [Pk.right, decide_eq_true_eq] at hr
    omega
  have hb6 : body.length ≤ 6000 := by simp only [Pk.right, decide_eq_true_eq] at hr; omega
  have hbb : Bytes body := hp.2.2.2.2.2.1
  simp only [Pk.cells] at c ⊢
  have hel : ∀ H : Heap, elems H 1 (.t (.lst sz tight (B body))) = some (B body) := fun H => elems_lst (Or.imp id (fun e => by rw [e]; rfl) (show sz = 1 ∨ body = [] from hsz))
  have henc : Pk.enc ⟨kind, src, dst, seq, ack, body⟩ = Pk.head ⟨kind, src, dst, seq, ack, body⟩ ++ [((crc (Pk.head ⟨kind, src, dst, seq, ack, body⟩) / 256 : Nat) : Int), ((crc (Pk.head ⟨kind, src, dst, seq, ack, body⟩) % 256 : Nat) : Int)] := rfl
  have hhb : Bytes (Pk.head ⟨kind, src, dst, seq, ack, body⟩) := Pk.head_bytes hbb
  have hhead : Pk.head ⟨kind, src, dst, seq, ack, body⟩ = [kind % 256] ++ groups src.toNat ++ groups dst.toNat ++ groups seq.toNat ++ groups ack.toNat ++ groups body.length ++ body := by simp [Pk.head, Pk.nums, gs]
  rw [hhead] at hhb henc
  clear hhead
  generalize Pk.enc ⟨kind, src, dst, seq, ack, body⟩ = E at *
  have app : ∀ (l : List Int) (t : Bool) (v : Int), 0 ≤ v ∧ v < 2 ^ 31 → l.length ≤ 2 ^ 40 → SCall PP N.debuggerref01_AppendUint [.t (.lst 1 t (B l)), .t (.int .i64 v)] [] (RRow 1 (B (l ++ groups v.toNat))) := by
    intro l t v hv hl
    have := rAppendUint_sc l t v (by omega) hl
    rwa [if_neg (by omega)] at this
  have g1 := groups_le10 (v := src.toNat) (by omega)
  have g2 := groups_le10 (v := dst.toNat) (by omega)
  have g3 := groups_le10 (v := seq.toNat) (by omega)
  have g4 := groups_le10 (v := ack.toNat) (by omega)
  have g5 := groups_le10 (v := body.length) (by omega)
  have w8 : IntKind.u8.wrap kind = kind % 256 := wu8_mod kind
  simp (maxSteps := 4000000) -implicitDefEqProofs (disch := omega) only [↓sxPre, sxPost, sxLib, if_true, if_false, Nat.reduceEqDiff, ↓reduceIte, Nat.reduceAdd, Nat.reduceSub, Nat.reduceMul, Nat.reduceLT, Nat.reduceLeDiff, reduceCtorEq, eq_self, K.isEff, List.reduceReplicate]
  refine step_tree (x := .bool true) ?_ rfl ?_
  · simpa [Abs.view, Abs.get, ev, viewL] using c
  simp (maxSteps := 4000000) -implicitDefEqProofs (disch := omega) only [w8, keff_buildSlice, toElems_cons, toElems_nil, toElem_t, setElems_cons, setElems_nil, B_length, ↓sxPre, sxPost, sxLib, if_true, if_false, Nat.reduceEqDiff, ↓reduceIte, Nat.reduceAdd, Nat.reduceSub, Nat.reduceMul, Nat.reduceLT, Nat.reduceLeDiff, reduceCtorEq, eq_self, K.isEff, List.reduceReplicate]
  refine step_row (sz := 1) (ys := B ([kind % 256] ++ groups src.toNat)) ?_ (B_flat _) fun ga => ?_
  · simpa [Abs.view, rowOf, Abs.get, ev, B] using app [kind % 256] true src hn0.1 (by simp)
  generalize hl1 : [kind % 256] ++ groups src.toNat = l1 at *
  have k1 : l1.length ≤ 11 := by rw [← hl1, List.length_append, List.length_singleton]; omega
  simp (maxSteps := 4000000) -implicitDefEqProofs (disch := omega) only [B_length, ↓sxPre, sxPost, sxLib, if_true, if_false, Nat.reduceEqDiff, ↓reduceIte, Nat.reduceAdd, Nat.reduceSub, Nat.reduceMul, Nat.reduceLT, Nat.reduceLeDiff, reduceCtorEq, eq_self, K.isEff, List.reduceReplicate]
  refine step_row (sz := 1) (ys := B (l1 ++ groups dst.toNat)) ?_ (B_flat _) fun gb => ?_
  · simpa [Abs.view, rowOf, Abs.get, ev, B_take] using app l1 false dst hn0.2.1 (by omega)
  generalize hl2 : l1 ++ groups dst.toNat = l2 at *
  have k2 : l2.length ≤ 21 := by rw [← hl2, List.length_append]; omega
  simp (maxSteps := 4000000) -implicitDefEqProofs (disch := omega) only [B_length, ↓sxPre, sxPost, sxLib, if_true, if_false, Nat.reduceEqDiff, ↓reduceIte, Nat.reduceAdd, Nat.reduceSub, Nat.reduceMul, Nat.reduceLT, Nat.reduceLeDiff, reduceCtorEq, eq_self, K.isEff, List.reduceReplicate]
  refine step_row (sz := 1) (ys := B (l2 ++ groups seq.toNat)) ?_ (B_flat _) fun gc => ?_
  · simpa [Abs.view, rowOf, Abs.get, ev, B_take] using app l2 false seq hn0.2.2.1 (by omega)
  generalize hl3 : l2 ++ groups seq.toNat = l3 at *
  have k3 : l3.length ≤ 31 := by rw [← hl3, List.length_append]; omega
  simp (maxSteps := 4000000) -implicitDefEqProofs (disch := omega) only [B_length, ↓sxPre, sxPost, sxLib, if_true, if_false, Nat.reduceEqDiff, ↓reduceIte, Nat.reduceAdd, Nat.reduceSub, Nat.reduceMul, Nat.reduceLT, Nat.reduceLeDiff, reduceCtorEq, eq_self, K.isEff, List.reduceReplicate]
  refine step_row (sz := 1) (ys := B (l3 ++ groups ack.toNat)) ?_ (B_flat _) fun gd => ?_
  · simpa [Abs.view, rowOf, Abs.get, ev, B_take] using app l3 false ack hn0.2.2.2 (by omega)
  generalize hl4 : l3 ++ groups ack.toNat = l4 at *
  have k4 : l4.length ≤ 41 := by rw [← hl4, List.length_append]; omega
  simp (maxSteps := 4000000) -implicitDefEqProofs (disch := omega) only [B_length, ↓sxPre, sxPost, sxLib, if_true, if_false, Nat.reduceEqDiff, ↓reduceIte, Nat.reduceAdd, Nat.reduceSub, Nat.reduceMul, Nat.reduceLT, Nat.reduceLeDiff, reduceCtorEq, eq_self, K.isEff, List.reduceReplicate]
  refine step_row (sz := 1) (ys := B (l4 ++ groups body.length)) ?_ (B_flat _) fun ge => ?_
  · simpa [Abs.view, rowOf, Abs.get, ev, B_take] using app l4 false body.length (by omega) (by omega)
  generalize hl5 : l4 ++ groups body.length = L at *
  have k5 : L.length ≤ 51 := by rw [← hl5, List.length_append]; omega
  simp (maxSteps := 4000000) -implicitDefEqProofs (disch := omega) only [B_length, ↓sxPre, sxPost, sxLib, if_true, if_false, Nat.reduceEqDiff, ↓reduceIte, Nat.reduceAdd, Nat.reduceSub, Nat.reduceMul, Nat.reduceLT, Nat.reduceLeDiff, reduceCtorEq, eq_self, K.isEff, List.reduceReplicate]
  have hc := crc_lt hhb
  have htk : (B (L ++ body)).take (L.length + body.length) = B (L ++ body) := List.take_of_length_le (by simp [B])
  simp (maxSteps := 4000000) -implicitDefEqProofs (disch := omega) only [hel, B_length, ← B_append, ↓sxPre, sxPost, sxLib, if_true, if_false, Nat.reduceEqDiff, ↓reduceIte, Nat.reduceAdd, Nat.reduceSub, Nat.reduceMul, Nat.reduceLT, Nat.reduceLeDiff, reduceCtorEq, eq_self, K.isEff, List.reduceReplicate]
  refine ⟨by omega, step_tree (x := .int .i64 (crc (L ++ body))) ?_ rfl ?_⟩
  · simpa [Abs.view, rowOf, Abs.get, ev, htk] using rSum_sc (L ++ body) hhb (by simp; omega) false
  generalize crc (L ++ body) = c at *
  have hc1 : IntKind.u8.wrap ((c / 256 : Nat) : Int) = ((c / 256 : Nat) : Int) := wu8 (by omega)
  have hc2 : IntKind.u8.wrap ((c % 256 : Nat) : Int) = ((c % 256 : Nat) : Int) := wu8 (by omega)
  simp (maxSteps := 4000000) -implicitDefEqProofs (disch := omega) only [quo256, rem256, hc1, hc2, B_length, ← B_append, keff_buildSlice, toElems_cons, toElems_nil, toElem_t, setElems_cons, setElems_nil, elems_lst', ↓sxPre, sxPost, sxLib, if_true, if_false, Nat.reduceEqDiff, ↓reduceIte, Nat.reduceAdd, Nat.reduceSub, Nat.reduceMul, Nat.reduceLT, Nat.reduceLeDiff, reduceCtorEq, eq_self, K.isEff, List.reduceReplicate]
  refine ⟨by decide, by decide, by omega, finK_gc [5] ?_⟩
  rw [henc]
  simp [REnc, B, Nat.add_assoc, gcSt, keepOk, finG, resV, resOne, resAll, idx, V.ren, V.renL, Obj.ren, get_cons, get_nil, RTree, RTup, RRow]
end Go.Proofs.Ytbpclinijbgchaa
