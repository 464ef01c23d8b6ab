/- PacketBursts: what the law returns. By the session itself. -/
import Derived.Test.YtljjabccgbakgaaCrc
import Derived.Test.YtljjabccgbakgaaDecodes
namespace Go.Proofs.Ytljjabccgbakgaa
open Go Go.Abs
set_option maxRecDepth 100000
set_option maxHeartbeats 4000000
set_option linter.unusedSimpArgs false
set_option linter.unusedVariables false

theorem zip_flip : ∀ (e D : List Bool) (pos : Nat), e.length = D.length → D[pos]? = some false → List.zipWith (· ^^ ·) e (D.set pos true) = (List.zipWith (· ^^ ·) e D).set pos (!((List.zipWith (· ^^ ·) e D).getD pos false))
  | [], D, pos, hl, h => by cases D with
    | nil => simp at h
    | cons => simp at hl
  | x :: e, [], pos, hl, _ => by simp at hl
  | x :: e, y :: D, 0, hl, h => by
    have : y = false := by simpa using h
    subst this
    cases x <;> simp
  | x :: e, y :: D, pos + 1, hl, h => by
    have ih := zip_flip e D pos (by simpa using hl) (by simpa using h)
    simp only [List.set_cons_succ, List.zipWith_cons_cons, List.getD_cons_succ]
    rw [ih]

theorem zip_false : ∀ (e : List Bool), List.zipWith (· ^^ ·) e (List.replicate e.length false) = e
  | [] => rfl
  | x :: e => by simp only [List.length_cons, List.replicate_succ, List.zipWith_cons_cons, Bool.xor_false, zip_false e]

theorem all_false {l : List Bool} (h : ∀ b ∈ l, b = false) : l = List.replicate l.length false := List.eq_replicate_iff.2 ⟨rfl, h⟩

theorem enc_feed {p : Pk} (hb : Bytes p.body) : feed 65535 (bitsOf p.enc) = 0 := by
  have hc := crc_lt (Pk.head_bytes hb)
  rw [← crcFrom_feed p.enc (by decide) (Pk.enc_bytes hb), Pk.enc]
  refine crc_tail (Pk.head_bytes hb) (by omega) (by omega) (by omega)

theorem burst_dec {p : Pk} (hb : Bytes p.body) (hr : p.right = true) {X : List Int} (hX : Bytes X) (hl : X.length = p.enc.length) {n m : Nat} {Bk : List Bool} (hk : Bk.length ≤ 16) (hn : n + Bk.length + m = 8 * p.enc.length)
    (h : bitsOf X = List.zipWith (· ^^ ·) (bitsOf p.enc) (List.replicate n false ++ Bk ++ List.replicate m false)) : X = p.enc ∨ (dec X).2 = 28 := by
  obtain ⟨l1, l2⟩ := Pk.head_len hr
  have hlen : p.enc.length = p.head.length + 2 := by simp [Pk.enc]
  by_cases hc : (crc (X.take (X.length - 2)) : Int) = tail2 X
  · left
    have b1 := hX _ (List.getElem_mem (show X.length - 2 < X.length by omega))
    have b2 := hX _ (List.getElem_mem (show X.length - 1 < X.length by omega))
    have htl : tail2 X = X[X.length - 2] * 256 + X[X.length - 1] := by
      rw [tail2, List.getD_eq_getElem?_getD, List.getD_eq_getElem?_getD, List.getElem?_eq_getElem (by omega), List.getElem?_eq_getElem (by omega)]; rfl
    have e3 : X.drop (X.length - 2) = [X[X.length - 2], X[X.length - 1]] := by
      rw [List.drop_eq_getElem_cons (by omega), List.drop_eq_getElem_cons (by omega), List.drop_eq_nil_of_le (by omega)]
      have : X.length - 2 + 1 = X.length - 1 := by omega
      simp only [this]
    have h0 := crc_tail (hX.take (X.length - 2)) b1 b2 (by rw [hc, htl])
    rw [← e3, List.take_append_drop, crcFrom_feed X (by decide) hX, h] at h0
    have hD : (List.replicate n false ++ Bk ++ List.replicate m false).length = 8 * p.enc.length := by simp; omega
    have hx := feed_xor (bitsOf p.enc) (List.replicate n false ++ Bk ++ List.replicate m false) (r := 65535) (s := 0) (by rw [bitsOf_length, hD]) (by decide) (by decide)
    rw [Nat.xor_zero, h0, enc_feed hb, Nat.zero_xor] at hx
    have hB := all_false (burst_zero hk hx.symm)
    refine bitsOf_inj hX (Pk.enc_bytes hb) hl ?_
    rw [h, hB]
    have e : List.replicate n false ++ List.replicate Bk.length false ++ List.replicate m false = List.replicate (bitsOf p.enc).length false := by
      rw [bitsOf_length, ← hn, List.replicate_append_replicate, List.replicate_append_replicate]
    rw [e, zip_false]
  · right
    rw [dec, if_neg (by omega), if_pos (.inr hc)]

theorem xor_u8n {a b : Nat} (ha : a < 256) (hb : b < 256) : Abs.bits .xor .u8 (a : Int) (b : Int) = ((a ^^^ b : Nat) : Int) := by
  simp only [Abs.bits, IntKind.bits]
  have e : BitVec.ofInt 8 (a : Int) ^^^ BitVec.ofInt 8 (b : Int) = BitVec.ofNat 8 (a ^^^ b) := by
    rw [BitVec.ofInt_natCast, BitVec.ofInt_natCast]
    apply BitVec.eq_of_toNat_eq
    rw [BitVec.toNat_xor, BitVec.toNat_ofNat, BitVec.toNat_ofNat, BitVec.toNat_ofNat, Nat.xor_mod_two_pow]
  have hx : a ^^^ b < 2 ^ 8 := Nat.xor_lt_two_pow ha hb
  change IntKind.u8.wrap (((BitVec.ofInt 8 (a : Int) ^^^ BitVec.ofInt 8 (b : Int)).toNat : Nat) : Int) = _
  rw [e, BitVec.toNat_ofNat, Nat.mod_eq_of_lt (by omega), wu8_nat, Nat.mod_eq_of_lt (by omega)]

theorem shr_fin : ∀ j : Fin 8, (128 : Int).fdiv (2 ^ min (j.val : Int).toNat IntKind.u8.bits) = ((128 >>> j.val : Nat) : Int) ∧ 128 >>> j.val < 256 := by decide

theorem PacketBursts_main (p : Pk) (hp : p.Ok) (at_ mask : Int) : SCall PP N.debuggerlaw33_PacketBursts [.t (.agg (p.cells 1 false)), .t (.int .i64 at_), .t (.int .i64 mask)] [] (RTree (.bool true)) := by
  refine debuggerlaw33_PacketBursts.intro (by simp) ?_
  have hb1 : p.body.length < 2 ^ 63 := hp.2.2.2.2.2.2
  have n1 := near_sc p 11 1 false (.inl rfl)
  have o1 := Pk.near_ok hp 11
  have r1 : p.body.length ≤ 6000 → (p.near 11).right = true := fun h => near11_right h
  generalize p.near 11 = p' at *
  have bp : Bytes p'.body := o1.2.2.2.2.2.1
  simp only [Pk.cells] at n1 ⊢
  simp (maxSteps := 4000000) -implicitDefEqProofs (disch := omega) only [B_length, ↓sxPre, sxPost, sxLib, if_true, if_false, Nat.reduceEqDiff, ↓reduceIte, Nat.reduceAdd, Nat.reduceSub, Nat.reduceMul, Nat.reduceLT, Nat.reduceLeDiff, reduceCtorEq, eq_self, K.isEff, List.reduceReplicate]
  refine step_pk (q := p') ?_ fun s1 t1 hs1 => ?_
  · simpa [V.ren, V.renL, Abs.get, ev] using n1
  by_cases hbig : (300 : Int) < p.body.length
  · have g1 : decide ((300 : Int) < p.body.length) = true := decide_eq_true hbig
    cases hr : p'.right with
    | true =>
      have cE := Encode_sc p' o1 hr s1 t1 hs1
      generalize p'.enc = E at *
      simp only [Pk.cells] at cE ⊢
      refine step_enc (ys := E) ?_ fun g => ?_
      · simpa [Abs.view, viewL, Abs.get, ev] using cE
      simp (maxSteps := 4000000) -implicitDefEqProofs (disch := omega) only [B_length, g1, ↓sxPre, sxPost, sxLib, if_true, if_false, Nat.reduceEqDiff, ↓reduceIte, Nat.reduceAdd, Nat.reduceSub, Nat.reduceMul, Nat.reduceLT, Nat.reduceLeDiff, reduceCtorEq, eq_self, K.isEff, List.reduceReplicate]
      refine step_tree awake33_sc rfl ?_
      simp (maxSteps := 4000000) -implicitDefEqProofs (disch := omega) only [↓sxPre, sxPost, sxLib, if_true, if_false, Nat.reduceEqDiff, ↓reduceIte, Nat.reduceAdd, Nat.reduceSub, Nat.reduceMul, Nat.reduceLT, Nat.reduceLeDiff, reduceCtorEq, eq_self, K.isEff, List.reduceReplicate]
      refine finK_gc [] ?_
      simp [gcSt, keepOk, finG, resV, resOne, resAll, idx, V.ren, V.renL, Obj.ren, get_cons, get_nil, RTree, RTup, RRow]
    | false =>
      have cE := Encode_bad p' o1 hr s1 t1
      simp only [Pk.cells] at cE ⊢
      refine step_tup (ys := [.lst 0 true [], .int .i64 1]) ?_ rfl ?_
      · simpa [Abs.view, viewL, Abs.get, ev] using cE
      simp (maxSteps := 4000000) -implicitDefEqProofs (disch := omega) only [B_length, g1, ↓sxPre, sxPost, sxLib, if_true, if_false, Nat.reduceEqDiff, ↓reduceIte, Nat.reduceAdd, Nat.reduceSub, Nat.reduceMul, Nat.reduceLT, Nat.reduceLeDiff, reduceCtorEq, eq_self, K.isEff, List.reduceReplicate]
      refine step_tree awake33_sc rfl ?_
      simp (maxSteps := 4000000) -implicitDefEqProofs (disch := omega) only [↓sxPre, sxPost, sxLib, if_true, if_false, Nat.reduceEqDiff, ↓reduceIte, Nat.reduceAdd, Nat.reduceSub, Nat.reduceMul, Nat.reduceLT, Nat.reduceLeDiff, reduceCtorEq, eq_self, K.isEff, List.reduceReplicate]
      refine finK_gc [] ?_
      simp [gcSt, keepOk, finG, resV, resOne, resAll, idx, V.ren, V.renL, Obj.ren, get_cons, get_nil, RTree, RTup, RRow]
  have g1 : decide ((300 : Int) < p.body.length) = false := decide_eq_false hbig
  have hr := r1 (by omega)
  have cE := Encode_sc p' o1 hr s1 t1 hs1
  have bE := Pk.enc_bytes bp
  obtain ⟨l1, l2⟩ := Pk.head_len hr
  have hlen : p'.enc.length = p'.head.length + 2 := by simp [Pk.enc]
  have hburst := fun (X : List Int) (hX : Bytes X) (hl : X.length = p'.enc.length) (n m : Nat) (Bk : List Bool) (hk : Bk.length ≤ 16) (hn : n + Bk.length + m = 8 * p'.enc.length) h => burst_dec bp hr hX hl hk hn h
  generalize p'.enc = E at *
  simp only [Pk.cells] at cE ⊢
  refine step_enc (ys := E) ?_ fun g => ?_
  · simpa [Abs.view, viewL, Abs.get, ev] using cE
  have hE4 : decide ((E.length : Int) < 4) = false := decide_eq_false (by omega)
  have hmod : 0 ≤ at_ % ((E.length : Int) * 8) ∧ at_ % ((E.length : Int) * 8) < (E.length : Int) * 8 := ⟨Int.emod_nonneg _ (by omega), Int.emod_lt_of_pos _ (by omega)⟩
  have cM := Mod_sc at_ ((E.length : Int) * 8) (by omega) (by omega)
  obtain ⟨bit, hbit⟩ : ∃ bit : Nat, at_ % ((E.length : Int) * 8) = bit := ⟨(at_ % ((E.length : Int) * 8)).toNat, by omega⟩
  rw [hbit] at hmod cM
  simp (maxSteps := 4000000) -implicitDefEqProofs (disch := omega) only [B_length, g1, hE4, keff_buildSlice, toElems_nil, setElems_nil, kappend_nil, elems_sl, B_all, ↓sxPre, sxPost, sxLib, if_true, if_false, Nat.reduceEqDiff, ↓reduceIte, Nat.reduceAdd, Nat.reduceSub, Nat.reduceMul, Nat.reduceLT, Nat.reduceLeDiff, reduceCtorEq, eq_self, K.isEff, List.reduceReplicate]
  refine ⟨by omega, step_tree (x := .int .i64 bit) ?_ rfl ?_⟩
  · simpa [Abs.view, viewL, Abs.get, ev] using cM
  simp (maxSteps := 4000000) -implicitDefEqProofs (disch := omega) only [↓sxPre, sxPost, sxLib, if_true, if_false, Nat.reduceEqDiff, ↓reduceIte, Nat.reduceAdd, Nat.reduceSub, Nat.reduceMul, Nat.reduceLT, Nat.reduceLeDiff, reduceCtorEq, eq_self, K.isEff, List.reduceReplicate]
  refine wpC_loop_any [2, 7, 9, 10, 11] (fun m s => ∃ (k : Nat) (X : List Int) (Bk : List Bool), m + k = 16 ∧ X.length = E.length ∧ Bytes X ∧ Bk.length = k ∧ bit + k ≤ 8 * E.length ∧
      bitsOf X = List.zipWith (· ^^ ·) (bitsOf E) (List.replicate bit false ++ Bk ++ List.replicate (8 * E.length - bit - k) false) ∧
      s = ⟨[(2, .t (.int .i64 mask)), (7, .sl 0 0 E.length g 1), (9, .sl 1 0 X.length 0 1), (10, .t (.int .i64 bit)), (11, .t (.int .i64 k))], [.row 1 g (B E), .row 1 0 (B X)]⟩) 16
    ⟨[1, 2], by simp [gcSt, keepOk, finG, resV, resOne, resAll, idx, V.ren, V.renL, Obj.ren, get_cons, get_nil, RTree, RTup, RRow], 0, E, [], by omega, rfl, bE, rfl, by omega, ?_, by simp [B_length, gcSt, keepOk, finG, resV, resOne, resAll, idx, V.ren, V.renL, Obj.ren, get_cons, get_nil, RTree, RTup, RRow]⟩ ?_
  · have e : List.replicate bit false ++ [] ++ List.replicate (8 * E.length - bit - 0) false = List.replicate (bitsOf E).length false := by
      rw [bitsOf_length, List.append_nil, List.replicate_append_replicate]
      congr 1
      omega
    rw [e, zip_false]
  rintro m s ⟨k, X, Bk, hm, hX, hXb, hBk, hbk, hbits, rfl⟩
  by_cases hk : k < 16 ∧ bit + k < 8 * E.length
  · have d1 : decide ((k : Int) < 16) = true := decide_eq_true (by omega)
    have d2 : decide ((bit : Int) + k < (X.length : Int) * 8) = true := decide_eq_true (by omega)
    have hi : (bit + k) / 8 < X.length := by omega
    have q8 : ((bit : Int) + k).tdiv 8 = (((bit + k) / 8 : Nat) : Int) := by rw [Int.tdiv_eq_ediv_of_nonneg (by omega)]; omega
    have r8 : ((bit : Int) + k).tmod 8 = (((bit + k) % 8 : Nat) : Int) := by rw [Int.tmod_eq_emod_of_nonneg (by omega)]; omega
    have hax := at_B' (l := X) (i := (bit + k) / 8) hi
    have hxb := hXb _ (List.getElem_mem hi)
    obtain ⟨hs1', hs2⟩ := shr_fin ⟨(bit + k) % 8, by omega⟩
    simp only [Int.toNat_natCast] at hs1' hs2
    have hx8 := xor_u8n (a := (X[(bit + k) / 8]'hi).toNat) (b := 128 >>> ((bit + k) % 8)) (by omega) hs2
    rw [Int.toNat_of_nonneg hxb.1] at hx8
    have hrep : List.replicate (8 * E.length - bit - k) false = false :: List.replicate (8 * E.length - bit - (k + 1)) false := by
      rw [← List.replicate_succ]; congr 1; omega
    simp (maxSteps := 4000000) -implicitDefEqProofs (disch := omega) only [d1, d2, ↓sxPre, sxPost, sxLib, if_true, if_false, Nat.reduceEqDiff, ↓reduceIte, Nat.reduceAdd, Nat.reduceSub, Nat.reduceMul, Nat.reduceLT, Nat.reduceLeDiff, reduceCtorEq, eq_self, K.isEff, List.reduceReplicate]
    refine ⟨by omega, condV_dec (fun hbit1 => ?_) fun hbit1 => ?_⟩
    · have hxlt : (X[(bit + k) / 8]'hi).toNat ^^^ (128 >>> ((bit + k) % 8)) < 256 := Nat.xor_lt_two_pow (n := 8) (by omega) hs2
      simp (maxSteps := 4000000) -implicitDefEqProofs (disch := omega) only [q8, r8, Int.toNat_natCast, kload1_elt, hax, kstore_elt, elemPut_int, at_zero, B_set8, B_length, hs1', hx8, ↓sxPre, sxPost, sxLib, if_true, if_false, Nat.reduceEqDiff, ↓reduceIte, Nat.reduceAdd, Nat.reduceSub, Nat.reduceMul, Nat.reduceLT, Nat.reduceLeDiff, reduceCtorEq, eq_self, K.isEff, List.reduceReplicate]
      refine ⟨by decide, ⟨by omega, by omega⟩, by decide, by omega, ⟨by omega, by omega⟩, hi, m - 1, by omega, [0, 1], by simp [gcSt, keepOk, finG, resV, resOne, resAll, idx, V.ren, V.renL, Obj.ren, get_cons, get_nil, RTree, RTup, RRow], k + 1, X.set ((bit + k) / 8) (((X[(bit + k) / 8]'hi).toNat ^^^ (128 >>> ((bit + k) % 8)) : Nat) : Int), Bk ++ [true], by omega, by simp [hX], hXb.set ⟨Int.natCast_nonneg _, Int.ofNat_lt.2 hxlt⟩ _, by simp [hBk], by omega, ?_, by simp [gcSt, keepOk, finG, resV, resOne, resAll, idx, V.ren, V.renL, Obj.ren, get_cons, get_nil, RTree, RTup, RRow]⟩
      have hpos : 8 * ((bit + k) / 8) + (bit + k) % 8 = bit + k := by omega
      have hD : (List.replicate bit false ++ Bk ++ List.replicate (8 * E.length - bit - k) false).length = 8 * E.length := by simp; omega
      have hz := zip_flip (bitsOf E) (List.replicate bit false ++ Bk ++ List.replicate (8 * E.length - bit - k) false) (bit + k) (by rw [bitsOf_length, hD]) (by
        rw [hrep, List.getElem?_append_right (by simp [hBk]), List.length_append, List.length_replicate, hBk, Nat.sub_self]; rfl)
      rw [bitsOf_flip X _ _ hi hXb (by omega), hpos, hbits, ← hz, hrep, List.set_append_right _ _ (by simp [hBk]), List.length_append, List.length_replicate, hBk, Nat.sub_self]
      simp
    · refine ⟨m - 1, by omega, [0, 1], by simp [gcSt, keepOk, finG, resV, resOne, resAll, idx, V.ren, V.renL, Obj.ren, get_cons, get_nil, RTree, RTup, RRow], k + 1, X, Bk ++ [false], by omega, hX, hXb, by simp [hBk], by omega, ?_, by simp [gcSt, keepOk, finG, resV, resOne, resAll, idx, V.ren, V.renL, Obj.ren, get_cons, get_nil, RTree, RTup, RRow]⟩
      rw [hbits, hrep]
      simp
  · have hcase : (decide ((k : Int) < 16) = true ∧ decide ((bit : Int) + k < (X.length : Int) * 8) = false) ∨ (decide ((k : Int) < 16) = false ∧ True) := by
      by_cases h : (k : Int) < 16
      · exact .inl ⟨decide_eq_true h, decide_eq_false (fun h' => hk ⟨by omega, by omega⟩)⟩
      · exact .inr ⟨decide_eq_false h, trivial⟩
    have hB := hburst X hXb hX bit (8 * E.length - bit - k) Bk (by omega) (by omega) hbits
    have cD := Decode_sc X hXb (by omega) false
    have hse := str_eq hXb bE
    have i1 := B_isByte hXb
    have i2 := B_isByte bE
    generalize dec X = D at *
    obtain ⟨q, e⟩ := D
    simp only at hB
    rcases hcase with ⟨d1, d2⟩ | ⟨d1, d2⟩
    all_goals
      simp (maxSteps := 4000000) -implicitDefEqProofs (disch := omega) only [d1, d2, ↓sxPre, sxPost, sxLib, if_true, if_false, Nat.reduceEqDiff, ↓reduceIte, Nat.reduceAdd, Nat.reduceSub, Nat.reduceMul, Nat.reduceLT, Nat.reduceLeDiff, reduceCtorEq, eq_self, K.isEff, List.reduceReplicate]
      refine step_dec (D := (q, e)) ?_ (fun ha => ?_) (fun ga => ?_)
      · simpa [Abs.view, viewL, rowOf, Abs.get, ev, B_all] using cD
      all_goals
        unfold Pk.vals
        by_cases hXE : X = E
        · have dX : decide (X = E) = true := decide_eq_true hXE
          simp (maxSteps := 4000000) -implicitDefEqProofs (disch := omega) only [B_length, kstore_ref, putAt_zero, ktoStr, elems_sl, B_all, i1, i2, hse, dX, ↓sxPre, sxPost, sxLib, if_true, if_false, Nat.reduceEqDiff, ↓reduceIte, Nat.reduceAdd, Nat.reduceSub, Nat.reduceMul, Nat.reduceLT, Nat.reduceLeDiff, reduceCtorEq, eq_self, K.isEff, List.reduceReplicate]
          refine step_guard rfl (fun _ => step_tree awake33_sc rfl ?_) (fun h => absurd rfl h)
          simp (maxSteps := 4000000) -implicitDefEqProofs (disch := omega) only [↓sxPre, sxPost, sxLib, if_true, if_false, Nat.reduceEqDiff, ↓reduceIte, Nat.reduceAdd, Nat.reduceSub, Nat.reduceMul, Nat.reduceLT, Nat.reduceLeDiff, reduceCtorEq, eq_self, K.isEff, List.reduceReplicate]
          refine finK_gc [] ?_
          simp [gcSt, keepOk, finG, resV, resOne, resAll, idx, V.ren, V.renL, Obj.ren, get_cons, get_nil, RTree, RTup, RRow]
        · have dX : decide (X = E) = false := decide_eq_false hXE
          have de : decide (e = 28) = true := decide_eq_true (hB.resolve_left hXE)
          simp (maxSteps := 4000000) -implicitDefEqProofs (disch := omega) only [B_length, kstore_ref, putAt_zero, ktoStr, elems_sl, B_all, i1, i2, hse, dX, de, ↓sxPre, sxPost, sxLib, if_true, if_false, Nat.reduceEqDiff, ↓reduceIte, Nat.reduceAdd, Nat.reduceSub, Nat.reduceMul, Nat.reduceLT, Nat.reduceLeDiff, reduceCtorEq, eq_self, K.isEff, List.reduceReplicate]
          refine step_guard rfl (fun _ => step_tree awake33_sc rfl ?_) (fun h => absurd rfl h)
          simp (maxSteps := 4000000) -implicitDefEqProofs (disch := omega) only [↓sxPre, sxPost, sxLib, if_true, if_false, Nat.reduceEqDiff, ↓reduceIte, Nat.reduceAdd, Nat.reduceSub, Nat.reduceMul, Nat.reduceLT, Nat.reduceLeDiff, reduceCtorEq, eq_self, K.isEff, List.reduceReplicate]
          refine finK_gc [] ?_
          simp [gcSt, keepOk, finG, resV, resOne, resAll, idx, V.ren, V.renL, Obj.ren, get_cons, get_nil, RTree, RTup, RRow]

theorem PacketBursts_sc {W : World} {ts : List T} {cs : List Value} (h : Cells W [.int .i64, .int .i64, .int .i64, .int .i64, .int .i64, .lst false [.int .u8]] ts cs) (a : Int) (ha : -2 ^ 63 ≤ a ∧ a < 2 ^ 63) (w : Int) (hw : -2 ^ 63 ≤ w ∧ w < 2 ^ 63) :
    SCall PP N.debuggerlaw33_PacketBursts [.t (.agg ts), .t (.int .i64 a), .t (.int .i64 w)] [] (RTree (.bool true)) := by
  obtain ⟨p, hp, rfl⟩ := Cells.pk h
  exact PacketBursts_main p hp a w
end Go.Proofs.Ytljjabccgbakgaa
