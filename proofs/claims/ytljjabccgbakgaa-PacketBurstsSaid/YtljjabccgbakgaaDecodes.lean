/- PacketDecodes: what the law returns. By the session itself. -/
import Derived.Test.YtljjabccgbakgaaPack7
import Derived.Test.YtljjabccgbakgaaPack8
import Derived.Test.YtljjabccgbakgaaCodes
namespace Go.Proofs.Ytljjabccgbakgaa
open Go Go.Abs
set_option maxRecDepth 100000
set_option maxHeartbeats 4000000
set_option linter.unusedSimpArgs false
set_option linter.unusedVariables false

theorem toElem_sl {H : Heap} {id off len gen sz : Nat} : toElem H (.sl id off len gen sz) = (match rowOf H[id]? with
    | some (sz', g, xs) => if gen = g ∧ sz' = sz then some (.lst sz false ((xs.drop off).take len), H.set id (.frz sz g xs)) else none
    | none => none) := (rfl)

theorem xor_u8 (a b : Int) : 0 ≤ Abs.bits .xor .u8 a b ∧ Abs.bits .xor .u8 a b < 256 := by
  have e : ∃ n : Int, Abs.bits .xor .u8 a b = IntKind.u8.wrap n := ⟨_, rfl⟩
  obtain ⟨n, e⟩ := e
  rw [e, wu8_mod]; omega

theorem Bytes.set {l : List Int} (h : Bytes l) {x : Int} (hx : 0 ≤ x ∧ x < 256) (i : Nat) : Bytes (l.set i x) := by
  intro y hy
  rcases List.mem_or_eq_of_mem_set hy with h1 | rfl
  · exact h y h1
  · exact hx

theorem dec_bytes {l : List Int} (hb : Bytes l) : Bytes (dec l).1.body := by
  unfold dec
  split
  · intro x hx; cases hx
  split
  · intro x hx; cases hx
  cases hr : readP (l.take (l.length - 2)) with
  | none => intro x hx; cases hx
  | some p =>
    simp only
    unfold readP at hr
    split at hr
    · cases hr
    · split at hr
      · cases hr
        exact fun x hx => hb x (List.mem_of_mem_take (List.mem_of_mem_drop hx))
      · cases hr

theorem B_set8 (l : List Int) (i : Nat) (x : Int) : (B l).set i (.int .u8 x) = B (l.set i x) := by simp [B, List.map_set]

theorem PacketDecodes_main (raw : List Int) (hraw : Bytes raw) (hrl : raw.length ≤ 2 ^ 47) (p : Pk) (hp : p.Ok) (at_ : List Int) (hat : I64s at_) (hal : at_.length ≤ 2 ^ 47) (by_ cut : Int) :
    SCall PP N.debuggerlaw33_PacketDecodes [.t (.lst 1 false (B raw)), .t (.agg (p.cells 1 false)), .t (.lst 1 false (Ns at_)), .t (.int .u8 by_), .t (.int .i64 cut)] [] (RTree (.bool true)) := by
  refine debuggerlaw33_PacketDecodes.intro (by simp) ?_
  have hb1 : p.body.length < 2 ^ 63 := hp.2.2.2.2.2.2
  by_cases h1 : (200 : Int) < p.body.length
  · have g1 : decide ((200 : Int) < p.body.length) = true := decide_eq_true h1
    simp only [Pk.cells]
    simp (maxSteps := 4000000) -implicitDefEqProofs (disch := omega) only [B_length, g1, ↓sxPre, sxPost, sxLib, if_true, if_false, Nat.reduceEqDiff, ↓reduceIte, Nat.reduceAdd, Nat.reduceSub, Nat.reduceMul, Nat.reduceLT, Nat.reduceLeDiff, reduceCtorEq, eq_self, K.isEff, List.reduceReplicate]
    refine step_tree awake33_sc rfl ?_
    simp (maxSteps := 4000000) -implicitDefEqProofs (disch := omega) only [↓sxPre, sxPost, sxLib, if_true, if_false, Nat.reduceEqDiff, ↓reduceIte, Nat.reduceAdd, Nat.reduceSub, Nat.reduceMul, Nat.reduceLT, Nat.reduceLeDiff, reduceCtorEq, eq_self, K.isEff, List.reduceReplicate]
    refine finK_gc [] ?_
    simp [gcSt, keepOk, finG, resV, resOne, resAll, idx, V.ren, V.renL, Obj.ren, get_cons, get_nil, RTree, RTup, RRow]
  have g1 : decide ((200 : Int) < p.body.length) = false := decide_eq_false h1
  by_cases h2 : (8000 : Int) < raw.length
  · have g2 : decide ((8000 : Int) < raw.length) = true := decide_eq_true h2
    simp only [Pk.cells]
    simp (maxSteps := 4000000) -implicitDefEqProofs (disch := omega) only [B_length, g1, g2, ↓sxPre, sxPost, sxLib, if_true, if_false, Nat.reduceEqDiff, ↓reduceIte, Nat.reduceAdd, Nat.reduceSub, Nat.reduceMul, Nat.reduceLT, Nat.reduceLeDiff, reduceCtorEq, eq_self, K.isEff, List.reduceReplicate]
    refine step_tree awake33_sc rfl ?_
    simp (maxSteps := 4000000) -implicitDefEqProofs (disch := omega) only [↓sxPre, sxPost, sxLib, if_true, if_false, Nat.reduceEqDiff, ↓reduceIte, Nat.reduceAdd, Nat.reduceSub, Nat.reduceMul, Nat.reduceLT, Nat.reduceLeDiff, reduceCtorEq, eq_self, K.isEff, List.reduceReplicate]
    refine finK_gc [] ?_
    simp [gcSt, keepOk, finG, resV, resOne, resAll, idx, V.ren, V.renL, Obj.ren, get_cons, get_nil, RTree, RTup, RRow]
  have g2 : decide ((8000 : Int) < raw.length) = false := decide_eq_false h2
  have n1 := near_sc p 11 1 false (.inl rfl)
  have o1 := Pk.near_ok hp 11
  have r1 := near11_right (p := p) (by omega)
  generalize p.near 11 = p' at *
  simp only [Pk.cells] at n1 ⊢
  have bp : Bytes p'.body := o1.2.2.2.2.2.1
  simp (maxSteps := 4000000) -implicitDefEqProofs (disch := omega) only [B_length, g1, g2, ↓sxPre, sxPost, sxLib, if_true, if_false, Nat.reduceEqDiff, ↓reduceIte, Nat.reduceAdd, Nat.reduceSub, Nat.reduceMul, Nat.reduceLT, Nat.reduceLeDiff, reduceCtorEq, eq_self, K.isEff, List.reduceReplicate]
  refine step_pk (q := p') ?_ fun s1 t1 hs1 => ?_
  · simpa [V.ren, V.renL, Abs.get, ev] using n1
  have cE := rEncode_sc p' o1 r1 s1 t1 hs1
  have bE := Pk.enc_bytes bp
  obtain ⟨l1, l2⟩ := Pk.head_len r1
  have hlen : p'.enc.length = p'.head.length + 2 := by simp [Pk.enc]
  generalize p'.enc = E at *
  simp only [Pk.cells] at cE ⊢
  refine step_enc (ys := E) ?_ fun g => ?_
  · simpa [Abs.view, viewL, Abs.get, ev] using cE
  simp (maxSteps := 4000000) -implicitDefEqProofs (disch := omega) only [B_length, keff_buildSlice, toElems_nil, setElems_nil, kappend_nil, elems_sl, B_all, ↓sxPre, sxPost, sxLib, if_true, if_false, Nat.reduceEqDiff, ↓reduceIte, Nat.reduceAdd, Nat.reduceSub, Nat.reduceMul, Nat.reduceLT, Nat.reduceLeDiff, reduceCtorEq, eq_self, K.isEff, List.reduceReplicate]
  refine ⟨by omega, ?_⟩
  refine wpC_loop_any [0, 2, 3, 4, 11, 13, 14] (fun m s => ∃ (i : Nat) (X : List Int), m + i = at_.length ∧ X.length = E.length ∧ Bytes X ∧
      s = ⟨[(0, .t (.lst 1 false (B raw))), (2, .t (.lst 1 false (Ns at_))), (3, .t (.int .u8 by_)), (4, .t (.int .i64 cut)), (11, .sl 0 0 E.length g 1), (13, .sl 1 0 X.length 0 1), (14, .t (.int .i64 i))], [.row 1 g (B E), .row 1 0 (B X)]⟩) at_.length
    ⟨[1, 2], by simp [gcSt, keepOk, finG, resV, resOne, resAll, idx, V.ren, V.renL, Obj.ren, get_cons, get_nil, RTree, RTup, RRow], 0, E, by omega, rfl, bE, by simp [B_length, gcSt, keepOk, finG, resV, resOne, resAll, idx, V.ren, V.renL, Obj.ren, get_cons, get_nil, RTree, RTup, RRow]⟩ ?_
  rintro m s ⟨i, X, hm, hX, hXb, rfl⟩
  by_cases hi : i < at_.length ∧ i < 3
  · have d1 : decide ((i : Int) < at_.length) = true := decide_eq_true (by omega)
    have d2 : decide ((i : Int) < 3) = true := decide_eq_true (by omega)
    have hai := hat _ (List.getElem_mem hi.1)
    have hmod : 0 ≤ at_[i] % (X.length : Int) ∧ at_[i] % (X.length : Int) < X.length := ⟨Int.emod_nonneg _ (by omega), Int.emod_lt_of_pos _ (by omega)⟩
    have hax := at_B' (l := X) (i := (at_[i] % (X.length : Int)).toNat) (by omega)
    have cM := Mod_sc at_[i] X.length (by omega) (by omega)
    have hai' : (i : Int) < at_.length := by omega
    simp (maxSteps := 4000000) -implicitDefEqProofs (disch := omega) only [d1, d2, Ns_length, Int.toNat_natCast, at_Ns hi.1, at_zero, ↓sxPre, sxPost, sxLib, if_true, if_false, Nat.reduceEqDiff, ↓reduceIte, Nat.reduceAdd, Nat.reduceSub, Nat.reduceMul, Nat.reduceLT, Nat.reduceLeDiff, reduceCtorEq, eq_self, K.isEff, List.reduceReplicate]
    refine ⟨by omega, step_tree (x := .int .i64 (at_[i] % (X.length : Int))) ?_ rfl ?_⟩
    · simpa [Abs.view, viewL, Abs.get, ev] using cM
    simp (maxSteps := 4000000) -implicitDefEqProofs (disch := omega) only [kload1_elt, hax, kstore_elt, elemPut_int, at_zero, B_set8, B_length, ↓sxPre, sxPost, sxLib, if_true, if_false, Nat.reduceEqDiff, ↓reduceIte, Nat.reduceAdd, Nat.reduceSub, Nat.reduceMul, Nat.reduceLT, Nat.reduceLeDiff, reduceCtorEq, eq_self, K.isEff, List.reduceReplicate]
    have hx8 := xor_u8 (X[(at_[i] % (X.length : Int)).toNat]'(by omega)) by_
    refine ⟨by omega, by omega, by omega, m - 1, by omega, [0, 1], by simp [gcSt, keepOk, finG, resV, resOne, resAll, idx, V.ren, V.renL, Obj.ren, get_cons, get_nil, RTree, RTup, RRow], i + 1, X.set (at_[i] % (X.length : Int)).toNat (Abs.bits .xor .u8 (X[(at_[i] % (X.length : Int)).toNat]'(by omega)) by_), by omega, by simp [hX], hXb.set hx8 _, by simp [gcSt, keepOk, finG, resV, resOne, resAll, idx, V.ren, V.renL, Obj.ren, get_cons, get_nil, RTree, RTup, RRow]⟩
  have hcase : (decide ((i : Int) < at_.length) = true ∧ decide ((i : Int) < 3) = false) ∨ (decide ((i : Int) < at_.length) = false ∧ True) := by
    by_cases h : (i : Int) < at_.length
    · exact .inl ⟨decide_eq_true h, decide_eq_false (fun h' => hi ⟨by omega, by omega⟩)⟩
    · exact .inr ⟨decide_eq_false h, trivial⟩
  have hmod : 0 ≤ cut % ((X.length : Int) - 1) ∧ cut % ((X.length : Int) - 1) < (X.length : Int) - 1 := ⟨Int.emod_nonneg _ (by omega), Int.emod_lt_of_pos _ (by omega)⟩
  have cM := Mod_sc cut ((X.length : Int) - 1) (by omega) (by omega)
  generalize hk : cut % ((X.length : Int) - 1) = kk0 at *
  rcases hcase with ⟨d1, d2⟩ | ⟨d1, d2⟩
  all_goals
    simp (maxSteps := 4000000) -implicitDefEqProofs (disch := omega) only [d1, d2, Ns_length, ↓sxPre, sxPost, sxLib, if_true, if_false, Nat.reduceEqDiff, ↓reduceIte, Nat.reduceAdd, Nat.reduceSub, Nat.reduceMul, Nat.reduceLT, Nat.reduceLeDiff, reduceCtorEq, eq_self, K.isEff, List.reduceReplicate]
    refine step_tree (x := .int .i64 kk0) ?_ rfl ?_
    · simpa [Abs.view, viewL, Abs.get, ev] using cM
    simp (maxSteps := 4000000) -implicitDefEqProofs (disch := omega) only [B_length, keff_buildSlice, toElems_nil, setElems_nil, kappend_nil, elems_sl, B_take, ↓sxPre, sxPost, sxLib, if_true, if_false, Nat.reduceEqDiff, ↓reduceIte, Nat.reduceAdd, Nat.reduceSub, Nat.reduceMul, Nat.reduceLT, Nat.reduceLeDiff, reduceCtorEq, eq_self, K.isEff, List.reduceReplicate]
    have bY0 : Bytes (X.take kk0.toNat) := hXb.take _
    have lY0 : (X.take kk0.toNat).length ≤ 6060 := by simp; omega
    refine ⟨⟨by omega, by omega⟩, by omega, ?_⟩
    generalize X.take kk0.toNat = Y0 at *
    have cS := rSum_sc Y0 bY0 (by omega) false
    have hc := crc_lt bY0
    refine step_tree (x := .int .i64 (crc Y0)) ?_ rfl ?_
    · simpa [Abs.view, viewL, rowOf, Abs.get, ev, B_all] using cS
    generalize crc Y0 = c at *
    have hc1 : IntKind.u8.wrap ((c / 256 : Nat) : Int) = ((c / 256 : Nat) : Int) := wu8 (by omega)
    have hc2 : IntKind.u8.wrap ((c % 256 : Nat) : Int) = ((c % 256 : Nat) : Int) := wu8 (by omega)
    obtain ⟨Y, hY⟩ : ∃ Y, Y = Y0 ++ [((c / 256 : Nat) : Int), ((c % 256 : Nat) : Int)] := ⟨_, rfl⟩
    have hYB : B Y0 ++ [T.int .u8 ((c / 256 : Nat) : Int), T.int .u8 ((c % 256 : Nat) : Int)] = B Y := by rw [hY]; simp [B]
    have bY : Bytes Y := by rw [hY]; exact bY0.append (by intro x hx; simp at hx; omega)
    have lY : Y.length = Y0.length + 2 := by rw [hY]; simp
    have hX2 : ((X.length : Int) - 2).toNat = X.length - 2 := by omega
    simp (maxSteps := 4000000) -implicitDefEqProofs (disch := omega) only [quo256, rem256, hc1, hc2, B_length, keff_buildSlice, toElems_cons, toElems_nil, toElem_t, setElems_cons, setElems_nil, elems_lst', elems_sl, B_take, kappend_nil, hYB, ← lY, hX2, ↓sxPre, sxPost, sxLib, if_true, if_false, Nat.reduceEqDiff, ↓reduceIte, Nat.reduceAdd, Nat.reduceSub, Nat.reduceMul, Nat.reduceLT, Nat.reduceLeDiff, reduceCtorEq, eq_self, K.isEff, List.reduceReplicate]
    have bZ0 : Bytes (X.take (X.length - 2)) := hXb.take _
    have lZ0 : (X.take (X.length - 2)).length ≤ 6060 := by simp; omega
    refine ⟨by decide, by decide, by omega, by omega, by omega, ?_⟩
    generalize X.take (X.length - 2) = Z0 at *
    have cS2 := rSum_sc Z0 bZ0 (by omega) false
    have hc' := crc_lt bZ0
    refine step_tree (x := .int .i64 (crc Z0)) ?_ rfl ?_
    · simpa [Abs.view, viewL, rowOf, Abs.get, ev, B_all] using cS2
    generalize crc Z0 = c' at *
    have hc1' : IntKind.u8.wrap ((c' / 256 : Nat) : Int) = ((c' / 256 : Nat) : Int) := wu8 (by omega)
    have hc2' : IntKind.u8.wrap ((c' % 256 : Nat) : Int) = ((c' % 256 : Nat) : Int) := wu8 (by omega)
    obtain ⟨Z, hZ⟩ : ∃ Z, Z = Z0 ++ [((c' / 256 : Nat) : Int), ((c' % 256 : Nat) : Int)] := ⟨_, rfl⟩
    have hZB : B Z0 ++ [T.int .u8 ((c' / 256 : Nat) : Int), T.int .u8 ((c' % 256 : Nat) : Int)] = B Z := by rw [hZ]; simp [B]
    have bZ : Bytes Z := by rw [hZ]; exact bZ0.append (by intro x hx; simp at hx; omega)
    have lZ : Z.length = Z0.length + 2 := by rw [hZ]; simp
    simp (maxSteps := 4000000) -implicitDefEqProofs (disch := omega) only [quo256, rem256, hc1', hc2', B_length, keff_buildSlice, toElems_cons, toElems_nil, toElem_t, toElem_sl, setElems_cons, setElems_nil, elems_lst', elems_sl, B_all, kappend_nil, hZB, ← lZ, ↓sxPre, sxPost, sxLib, if_true, if_false, Nat.reduceEqDiff, ↓reduceIte, Nat.reduceAdd, Nat.reduceSub, Nat.reduceMul, Nat.reduceLT, Nat.reduceLeDiff, reduceCtorEq, eq_self, K.isEff, List.reduceReplicate]
    refine ⟨by decide, by decide, by omega, ?_⟩
    obtain ⟨L, hL⟩ : ∃ L, L = [T.lst 1 false (B raw), T.lst 1 false (B E), T.lst 1 false (B X), T.lst 1 false (B Y), T.lst 1 false (B Z)] := ⟨_, rfl⟩
    have hLat : ∀ i, i < 5 → ∃ l : List Int, Bytes l ∧ l.length ≤ 2 ^ 40 ∧ T.at L i = .lst 1 false (B l) := by
      intro i hi
      subst hL
      match i, hi with
      | 0, _ => exact ⟨raw, hraw, by omega, rfl⟩
      | 1, _ => exact ⟨E, bE, by omega, rfl⟩
      | 2, _ => exact ⟨X, hXb, by omega, rfl⟩
      | 3, _ => exact ⟨Y, bY, by omega, rfl⟩
      | 4, _ => exact ⟨Z, bZ, by omega, rfl⟩
    have hLl : L.length = 5 := by rw [hL]; rfl
    rw [← hL]
    clear hL
    refine wpC_loop_gc [111, 112, 113] [] (fun m s => ∃ i : Nat, m + i = 5 ∧ s = ⟨[(111, .t (.lst 1 true L)), (112, .t (.int .i64 5)), (113, .t (.int .i64 i))], []⟩) 5
      ⟨by simp [gcSt, keepOk, finG, resV, resOne, resAll, idx, V.ren, V.renL, Obj.ren, get_cons, get_nil, RTree, RTup, RRow], 0, by omega, by simp [gcSt, keepOk, finG, resV, resOne, resAll, idx, V.ren, V.renL, Obj.ren, get_cons, get_nil, RTree, RTup, RRow]⟩ ?_
    rintro m s ⟨i, hm, rfl⟩
    by_cases hi : i < 5
    · have hi' : (i : Int) < 5 := by omega
      obtain ⟨l, hlb, hll, hat⟩ := hLat i hi
      have cD := Decode_sc l hlb hll false
      have cD2 := rDecode_sc l hlb hll false
      have hbody := dec_bytes hlb
      generalize dec l = D at *
      obtain ⟨q, e⟩ := D
      simp only at hbody
      simp (maxSteps := 4000000) -implicitDefEqProofs (disch := omega) only [hi', hat, Int.toNat_natCast, at_zero, ↓sxPre, sxPost, sxLib, if_true, if_false, Nat.reduceEqDiff, ↓reduceIte, Nat.reduceAdd, Nat.reduceSub, Nat.reduceMul, Nat.reduceLT, Nat.reduceLeDiff, reduceCtorEq, eq_self, K.isEff, List.reduceReplicate]
      refine ⟨by omega, step_dec (D := (q, e)) ?_ (fun ha => ?_) (fun ga => ?_)⟩
      · simpa [Abs.view, viewL, rowOf, Abs.get, ev, B_all] using cD
      all_goals
        unfold Pk.vals
        simp (maxSteps := 4000000) -implicitDefEqProofs (disch := omega) only [B_length, kstore_ref, putAt_zero, ↓sxPre, sxPost, sxLib, if_true, if_false, Nat.reduceEqDiff, ↓reduceIte, Nat.reduceAdd, Nat.reduceSub, Nat.reduceMul, Nat.reduceLT, Nat.reduceLeDiff, reduceCtorEq, eq_self, K.isEff, List.reduceReplicate]
        refine step_dec (D := (q, e)) ?_ (fun hb => ?_) (fun gb => ?_)
        · simpa [Abs.view, viewL, rowOf, Abs.get, ev, B_all] using cD2
        all_goals
          unfold Pk.vals
          simp (maxSteps := 4000000) -implicitDefEqProofs (disch := omega) only [B_length, kstore_ref, putAt_zero, ↓sxPre, sxPost, sxLib, if_true, if_false, Nat.reduceEqDiff, ↓reduceIte, Nat.reduceAdd, Nat.reduceSub, Nat.reduceMul, Nat.reduceLT, Nat.reduceLeDiff, reduceCtorEq, eq_self, K.isEff, List.reduceReplicate]
          refine step_guard rfl (fun _ => step_tree (x := .bool true) ?_ rfl ?_) (fun h => absurd rfl h)
          · first
              | (have ha : q.body = [] := ha
                 have cS := Same_sc q q hbody hbody 0 0 true true (.inr ha) (.inr ha)
                 rw [decide_eq_true rfl] at cS
                 simp only [Pk.cells] at cS
                 rw [ha] at cS
                 simpa [Abs.view, viewL, rowOf, Abs.get, ev, B] using cS)
              | (have ha : q.body = [] := ha
                 have cS := Same_sc q q hbody hbody 0 1 true false (.inr ha) (.inl rfl)
                 rw [decide_eq_true rfl] at cS
                 simp only [Pk.cells] at cS
                 rw [ha] at cS
                 simpa [Abs.view, viewL, rowOf, Abs.get, ev, ha, B] using cS)
              | (have ha : q.body = [] := hb
                 have cS := Same_sc q q hbody hbody 1 0 false true (.inl rfl) (.inr ha)
                 rw [decide_eq_true rfl] at cS
                 simp only [Pk.cells] at cS
                 rw [ha] at cS
                 simpa [Abs.view, viewL, rowOf, Abs.get, ev, ha, B] using cS)
              | (have cS := Same_sc q q hbody hbody 1 1 false false (.inl rfl) (.inl rfl)
                 rw [decide_eq_true rfl] at cS
                 simp only [Pk.cells] at cS
                 simpa [Abs.view, viewL, rowOf, Abs.get, ev, B_all] using cS)
          simp (maxSteps := 4000000) -implicitDefEqProofs (disch := omega) only [↓sxPre, sxPost, sxLib, if_true, if_false, Nat.reduceEqDiff, ↓reduceIte, Nat.reduceAdd, Nat.reduceSub, Nat.reduceMul, Nat.reduceLT, Nat.reduceLeDiff, reduceCtorEq, eq_self, K.isEff, List.reduceReplicate]
          refine ⟨m - 1, by omega, by simp [gcSt, keepOk, finG, resV, resOne, resAll, idx, V.ren, V.renL, Obj.ren, get_cons, get_nil, RTree, RTup, RRow], i + 1, by omega, by simp [gcSt, keepOk, finG, resV, resOne, resAll, idx, V.ren, V.renL, Obj.ren, get_cons, get_nil, RTree, RTup, RRow]⟩
    · have hi' : ¬ (i : Int) < 5 := by omega
      simp (maxSteps := 4000000) -implicitDefEqProofs (disch := omega) only [hi', ↓sxPre, sxPost, sxLib, if_true, if_false, Nat.reduceEqDiff, ↓reduceIte, Nat.reduceAdd, Nat.reduceSub, Nat.reduceMul, Nat.reduceLT, Nat.reduceLeDiff, reduceCtorEq, eq_self, K.isEff, List.reduceReplicate]
      refine step_tree awake33_sc rfl ?_
      simp (maxSteps := 4000000) -implicitDefEqProofs (disch := omega) only [↓sxPre, sxPost, sxLib, if_true, if_false, Nat.reduceEqDiff, ↓reduceIte, Nat.reduceAdd, Nat.reduceSub, Nat.reduceMul, Nat.reduceLT, Nat.reduceLeDiff, reduceCtorEq, eq_self, K.isEff, List.reduceReplicate]
      refine finK_gc [] ?_
      simp [gcSt, keepOk, finG, resV, resOne, resAll, idx, V.ren, V.renL, Obj.ren, get_cons, get_nil, RTree, RTup, RRow]

theorem PacketDecodes_sc {W : World} {a : Option Addr} {len cap : Nat} {z : List Int} (w : IsRow .u8 W a len cap z) (y : len * 1 ≤ 140737488351232)
    {ts : List T} {cs : List Value} (h : Cells W [.int .i64, .int .i64, .int .i64, .int .i64, .int .i64, .lst false [.int .u8]] ts cs)
    {a2 : Option Addr} {len2 cap2 : Nat} {z2 : List Int} (w2 : IsRow .i64 W a2 len2 cap2 z2) (y2 : len2 * 8 ≤ 140737488351232) (by_ : Int) (hby : 0 ≤ by_ ∧ by_ < 256) (cut : Int) (hcut : -2 ^ 63 ≤ cut ∧ cut < 2 ^ 63) :
    SCall PP N.debuggerlaw33_PacketDecodes [.t (.lst 1 false ((z.take len).map (T.int .u8))), .t (.agg ts), .t (.lst 1 false ((z2.take len2).map (T.int .i64))), .t (.int .u8 by_), .t (.int .i64 cut)] [] (RTree (.bool true)) := by
  obtain ⟨p, hp, rfl⟩ := Cells.pk h
  exact PacketDecodes_main (z.take len) (IsRow.bytes w) (by rw [w.length]; omega) p hp (z2.take len2) (fun x hx => i64_of (w2.wf x hx)) (by rw [w2.length]; omega) by_ cut
end Go.Proofs.Ytljjabccgbakgaa
