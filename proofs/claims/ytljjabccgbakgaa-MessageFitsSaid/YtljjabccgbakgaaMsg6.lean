/- MessageCommands: what the law returns. By the session itself. -/
import Derived.Test.YtljjabccgbakgaaMsg5
import Derived.Test.YtljjabccgbakgaaCodes
import Derived.Test.YtljjabccgbakgaaFdebuggerlaw36
namespace Go.Proofs.Ytljjabccgbakgaa
open Go Go.Abs
set_option maxRecDepth 100000
set_option maxHeartbeats 4000000
set_option linter.unusedSimpArgs false
set_option linter.unusedVariables false

theorem Ints_sc (a b : List Int) (s1 s2 : Nat) (t1 t2 : Bool) (h1 : s1 = 1 ∨ a = []) (h2 : s2 = 1 ∨ b = []) (hl : a.length < 2 ^ 62) :
    SCall PP N.debuggerref25_Ints [.t (.lst s1 t1 (Ns a)), .t (.lst s2 t2 (Ns b))] [] (RTree (.bool (decide (a = b)))) := by
  refine debuggerref25_Ints.intro (by simp) ?_
  simp (maxSteps := 4000000) -implicitDefEqProofs (disch := omega) only [Ns_length, ↓sxPre, sxPost, sxLib, if_true, if_false, Nat.reduceEqDiff, ↓reduceIte, Nat.reduceAdd, Nat.reduceSub, Nat.reduceMul, Nat.reduceLT, Nat.reduceLeDiff, reduceCtorEq, eq_self, K.isEff, List.reduceReplicate]
  refine condV_ndec (fun h => ?_) fun h => ?_
  · refine finK_gc [] ?_
    have : ¬ a = b := by rintro rfl; exact h rfl
    simp [this, gcSt, keepOk, finG, resV, resOne, resAll, idx, V.ren, V.renL, Obj.ren, get_cons, get_nil, RTree, RTup, RRow]
  · have hl : a.length = b.length := by omega
    refine wpC_loop_gc [0, 1, 5] [] (fun m s => ∃ i : Nat, m + i = a.length ∧ a.take i = b.take i ∧ s = ⟨[(0, .t (.lst s1 t1 (Ns a))), (1, .t (.lst s2 t2 (Ns b))), (5, .t (.int .i64 i))], []⟩) a.length
      ⟨by simp [gcSt, keepOk, finG, resV, resOne, resAll, idx, V.ren, V.renL, Obj.ren, get_cons, get_nil, RTree, RTup, RRow], 0, by omega, by simp, by simp [gcSt, keepOk, finG, resV, resOne, resAll, idx, V.ren, V.renL, Obj.ren, get_cons, get_nil, RTree, RTup, RRow]⟩ ?_
    rintro m s ⟨i, hm, heq, rfl⟩
    by_cases hi : i < a.length
    · have hi' : (i : Int) < a.length := by omega
      have hib : i < b.length := by omega
      have k1 : s1 = 1 := h1.resolve_right (by rintro rfl; simp at hi)
      have k2 : s2 = 1 := h2.resolve_right (by rintro rfl; simp at hib)
      subst k1 k2
      simp (maxSteps := 4000000) -implicitDefEqProofs (disch := omega) only [Ns_length, hi', Int.toNat_natCast, at_Ns hi, at_Ns hib, at_zero, ↓sxPre, sxPost, sxLib, if_true, if_false, Nat.reduceEqDiff, ↓reduceIte, Nat.reduceAdd, Nat.reduceSub, Nat.reduceMul, Nat.reduceLT, Nat.reduceLeDiff, reduceCtorEq, eq_self, K.isEff, List.reduceReplicate]
      refine ⟨by omega, by omega, condV_ndec (fun hne => ?_) fun he => ?_⟩
      · refine finK_gc [] ?_
        have : ¬ a = b := by rintro rfl; exact hne rfl
        simp [this, gcSt, keepOk, finG, resV, resOne, resAll, idx, V.ren, V.renL, Obj.ren, get_cons, get_nil, RTree, RTup, RRow]
      · refine ⟨m - 1, by omega, by simp [gcSt, keepOk, finG, resV, resOne, resAll, idx, V.ren, V.renL, Obj.ren, get_cons, get_nil, RTree, RTup, RRow], i + 1, by omega, ?_, by simp [gcSt, keepOk, finG, resV, resOne, resAll, idx, V.ren, V.renL, Obj.ren, get_cons, get_nil, RTree, RTup, RRow]⟩
        rw [List.take_succ_eq_append_getElem hi, List.take_succ_eq_append_getElem hib, heq, he]
    · have hi' : ¬ (i : Int) < a.length := by omega
      simp (maxSteps := 4000000) -implicitDefEqProofs (disch := omega) only [Ns_length, hi', ↓sxPre, sxPost, sxLib, if_true, if_false, Nat.reduceEqDiff, ↓reduceIte, Nat.reduceAdd, Nat.reduceSub, Nat.reduceMul, Nat.reduceLT, Nat.reduceLeDiff, reduceCtorEq, eq_self, K.isEff, List.reduceReplicate]
      refine finK_gc [] ?_
      rw [List.take_of_length_le (by omega), List.take_of_length_le (by omega)] at heq
      simp [heq, gcSt, keepOk, finG, resV, resOne, resAll, idx, V.ren, V.renL, Obj.ren, get_cons, get_nil, RTree, RTup, RRow]

theorem toT_sl {H : Heap} {id off len gen sz : Nat} : toT H (.sl id off len gen sz) = (match rowOf H[id]? with
    | some (sz', g, xs) => if gen = g ∧ sz' = sz then some (.lst sz false ((xs.drop off).take len), H.set id (.frz sz g xs)) else none
    | none => none) := (rfl)

/-- Two commands that are the same. -/
theorem SameCommand_eq (p : Cm) (hl : p.words.length < 2 ^ 62) (s1 s2 : Nat) (t1 t2 : Bool) (h1 : s1 = 1 ∨ p.words = []) (h2 : s2 = 1 ∨ p.words = []) :
    SCall PP N.debuggerequal_SameCommand [.agg ((p.cells s1 t1).map V.t), .agg ((p.cells s2 t2).map V.t)] [] (RTree (.bool true)) := by
  refine debuggerequal_SameCommand.intro (by simp) ?_
  have c := Ints_sc p.words p.words s1 s2 t1 t2 h1 h2 hl
  rw [decide_eq_true rfl] at c
  simp only [Cm.cells]
  simp (maxSteps := 4000000) -implicitDefEqProofs (disch := omega) only [↓sxPre, sxPost, sxLib, if_true, if_false, Nat.reduceEqDiff, ↓reduceIte, Nat.reduceAdd, Nat.reduceSub, Nat.reduceMul, Nat.reduceLT, Nat.reduceLeDiff, reduceCtorEq, eq_self, K.isEff, List.reduceReplicate]
  refine step_guard rfl (fun _ => step_tree c rfl ?_) (fun h => absurd rfl h)
  simp (maxSteps := 4000000) -implicitDefEqProofs (disch := omega) only [↓sxPre, sxPost, sxLib, if_true, if_false, Nat.reduceEqDiff, ↓reduceIte, Nat.reduceAdd, Nat.reduceSub, Nat.reduceMul, Nat.reduceLT, Nat.reduceLeDiff, reduceCtorEq, eq_self, K.isEff, List.reduceReplicate]
  refine finK_gc [] ?_
  simp [gcSt, keepOk, finG, resV, resOne, resAll, idx, V.ren, V.renL, Obj.ren, get_cons, get_nil, RTree, RTup, RRow]

theorem step_decC {P : Program} {f : FuncId} {H : Heap} {K : St → Prop} {vs : List (Nat × V)} {r : List Ins} {d : Nat} {xs : List Opnd} {D : Cm × Int}
    (h : SCall P f ((xs.map (ev vs)).map (Abs.view H)) [] (RDecC D))
    (h1 : D.1.words = [] → wpR (SCall P) r K ⟨(d, .tup [.agg (D.1.vals (.t (.lst 0 true []))), .t (.int .i64 D.2)]) :: vs, H⟩)
    (h2 : ∀ (g : Nat), wpR (SCall P) r K ⟨(d, .tup [.agg (D.1.vals (.sl H.length 0 D.1.words.length g 1)), .t (.int .i64 D.2)]) :: vs, H ++ [.row 1 g (Ns D.1.words)]⟩) : wpR (SCall P) (⟨some d, none, .call f xs⟩ :: r) K ⟨vs, H⟩ := by
  refine step_call (call_any h ?_ ?_)
  · rintro r N ⟨x, rfl, hx⟩
    rcases hx with ⟨rfl, _, rfl⟩ | ⟨g, rfl, rfl⟩
    · exact ⟨by simp [V.flatV, V.flatL, Cm.vals, T.flat, T.cells, T.scal], rfl⟩
    · exact ⟨by simp [V.flatV, V.flatL, Cm.vals, T.flat, T.cells, T.scal], by simpa [Obj.flatO] using Ns_flat D.1.words⟩
  · rintro r N ⟨x, rfl, hx⟩
    rcases hx with ⟨rfl, hq, rfl⟩ | ⟨g, rfl, rfl⟩
    · simpa [V.ren, V.renL, Cm.vals] using h1 hq
    · simpa [V.ren, V.renL, Cm.vals, tau, Obj.ren] using h2 g

theorem enI_bytes (l : List Int) : Bytes (enI l) := (Bytes.groups _).append (rows_bytes l)
theorem Cm.enc_bytes (p : Cm) : Bytes p.enc := (enI_bytes _).append (enI_bytes _)

theorem awake36_sc : SCall PP N.debuggerlaw36_awake [] [] (RTree (.bool true)) := by
  refine debuggerlaw36_awake.intro (by simp) ?_
  have hok : (⟨2, 0, 0, 0, []⟩ : Cm).Ok := ⟨⟨by decide, by decide⟩, ⟨by decide, by decide⟩, ⟨by decide, by decide⟩, ⟨by decide, by decide⟩, (fun x h => by cases h), by decide⟩
  have c := EncodeCommand_sc ⟨2, 0, 0, 0, []⟩ (by simp) hok 0 true (.inr rfl)
  have hD := decC_enc hok (by simp)
  have hE : (Cm.enc ⟨2, 0, 0, 0, []⟩).length = 6 := by simp [Cm.enc, Cm.head, enI, rows, zig, groups_lt]
  have cD := DecodeCommand_sc (Cm.enc ⟨2, 0, 0, 0, []⟩) (Cm.enc_bytes _) (by omega)
  rw [hD] at cD
  generalize Cm.enc ⟨2, 0, 0, 0, []⟩ = E at *
  simp only [Cm.cells] at c
  have hd6 : decide ((E.length : Int) = 6) = true := decide_eq_true (by omega)
  simp (maxSteps := 4000000) -implicitDefEqProofs (disch := omega) only [stepK_build', fillV, putAt_zero, putAt_succ, ↓sxPre, sxPost, sxLib, if_true, if_false, Nat.reduceEqDiff, ↓reduceIte, Nat.reduceAdd, Nat.reduceSub, Nat.reduceMul, Nat.reduceLT, Nat.reduceLeDiff, reduceCtorEq, eq_self, K.isEff, List.reduceReplicate]
  refine step_enc (ys := E) ?_ fun g => ?_
  · simpa [Abs.view, viewL, Abs.get, ev, Ns] using c
  simp (maxSteps := 4000000) -implicitDefEqProofs (disch := omega) only [↓sxPre, sxPost, sxLib, if_true, if_false, Nat.reduceEqDiff, ↓reduceIte, Nat.reduceAdd, Nat.reduceSub, Nat.reduceMul, Nat.reduceLT, Nat.reduceLeDiff, reduceCtorEq, eq_self, K.isEff, List.reduceReplicate]
  refine step_decC (D := (⟨2, 0, 0, 0, []⟩, 0)) ?_ (fun h => ?_) (fun g2 => ?_)
  · simpa [Abs.view, viewL, rowOf, Abs.get, ev, B_all] using cD
  all_goals
    unfold Cm.vals
    simp (maxSteps := 4000000) -implicitDefEqProofs (disch := omega) only [hd6, kstore_ref, putAt_zero, putAt_succ, ↓sxPre, sxPost, sxLib, if_true, if_false, Nat.reduceEqDiff, ↓reduceIte, Nat.reduceAdd, Nat.reduceSub, Nat.reduceMul, Nat.reduceLT, Nat.reduceLeDiff, reduceCtorEq, eq_self, K.isEff, List.reduceReplicate]
    refine finK_gc [] ?_
    simp [gcSt, keepOk, finG, resV, resOne, resAll, idx, V.ren, V.renL, Obj.ren, get_cons, get_nil, RTree, RTup, RRow]

theorem MessageCommands_main (p : Cm) (hok : p.Ok) (n : Int) : SCall PP N.debuggerlaw36_MessageCommands [.t (.agg (p.cells 1 false)), .t (.int .i64 n)] [] (RTree (.bool true)) := by
  refine debuggerlaw36_MessageCommands.intro (by simp) ?_
  have hwl : p.words.length < 2 ^ 63 := hok.2.2.2.2.2
  by_cases h1 : (400 : Int) < p.words.length
  · have g1 : decide ((400 : Int) < p.words.length) = true := decide_eq_true h1
    simp only [Cm.cells]
    simp (maxSteps := 4000000) -implicitDefEqProofs (disch := omega) only [Ns_length, g1, ↓sxPre, sxPost, sxLib, if_true, if_false, Nat.reduceEqDiff, ↓reduceIte, Nat.reduceAdd, Nat.reduceSub, Nat.reduceMul, Nat.reduceLT, Nat.reduceLeDiff, reduceCtorEq, eq_self, K.isEff, List.reduceReplicate]
    refine step_tree awake36_sc rfl ?_
    simp (maxSteps := 4000000) -implicitDefEqProofs (disch := omega) only [↓sxPre, sxPost, sxLib, if_true, if_false, Nat.reduceEqDiff, ↓reduceIte, Nat.reduceAdd, Nat.reduceSub, Nat.reduceMul, Nat.reduceLT, Nat.reduceLeDiff, reduceCtorEq, eq_self, K.isEff, List.reduceReplicate]
    refine finK_gc [] ?_
    simp [gcSt, keepOk, finG, resV, resOne, resAll, idx, V.ren, V.renL, Obj.ren, get_cons, get_nil, RTree, RTup, RRow]
  have g1 : decide ((400 : Int) < p.words.length) = false := decide_eq_false h1
  have m4 : 0 ≤ n % 4 ∧ n % 4 < 4 := by omega
  have hW : ((126 : Int) + n % 4).toNat = 126 + (n % 4).toNat := by omega
  have hrep : List.replicate (126 + (n % 4).toNat) (T.int .i64 0) = Ns (List.replicate (126 + (n % 4).toNat) 0) := by simp [Ns]
  simp only [Cm.cells]
  simp (maxSteps := 4000000) -implicitDefEqProofs (disch := omega) only [Ns_length, g1, kstore_ref, putAt_zero, putAt_succ, ↓sxPre, sxPost, sxLib, if_true, if_false, Nat.reduceEqDiff, ↓reduceIte, Nat.reduceAdd, Nat.reduceSub, Nat.reduceMul, Nat.reduceLT, Nat.reduceLeDiff, reduceCtorEq, eq_self, K.isEff, List.reduceReplicate]
  refine step_tree (Mod_sc n 4 (by decide) (by decide)) rfl ?_
  obtain ⟨w0, hw0⟩ : ∃ w0, w0 = List.replicate (126 + (n % 4).toNat) (0 : Int) := ⟨_, rfl⟩
  have hw0l : w0.length = 126 + (n % 4).toNat := by rw [hw0]; simp
  have hw0b : I64s w0 := by rw [hw0]; intro x hx; rw [List.eq_of_mem_replicate hx]; omega
  have htk : (Ns w0).take (126 + (n % 4).toNat) = Ns w0 := List.take_of_length_le (by rw [Ns_length]; omega)
  rw [← hw0] at hrep
  simp (maxSteps := 4000000) -implicitDefEqProofs (disch := omega) only [kstore_ref, putAt_zero, putAt_succ, hW, hrep, htk, toT_sl, keff_buildSlice, toElems_cons, toElems_nil, toElem_t, toElem_agg, toTs_cons, toTs_nil, toT_t, setElems_cons, setElems_nil, ↓sxPre, sxPost, sxLib, if_true, if_false, Nat.reduceEqDiff, ↓reduceIte, Nat.reduceAdd, Nat.reduceSub, Nat.reduceMul, Nat.reduceLT, Nat.reduceLeDiff, reduceCtorEq, eq_self, K.isEff, List.reduceReplicate]
  refine ⟨⟨by omega, by omega, by omega, by omega⟩, ?_⟩
  obtain ⟨L, hL⟩ : ∃ L, L = [T.agg (p.cells 1 false), T.agg ((⟨p.kind, p.thread, p.addr, p.n, w0⟩ : Cm).cells 1 false)] := ⟨_, rfl⟩
  have hLat : ∀ i, i < 2 → ∃ (q : Cm) (sz : Nat) (t : Bool), q.Ok ∧ q.words.length < 2 ^ 62 ∧ (sz = 1 ∨ q.words = []) ∧ T.at L i = .agg (q.cells sz t) := by
    intro i hi
    subst hL
    match i, hi with
    | 0, _ => exact ⟨p, 1, false, hok, by omega, .inl rfl, rfl⟩
    | 1, _ => exact ⟨⟨p.kind, p.thread, p.addr, p.n, w0⟩, 1, false, ⟨hok.1, hok.2.1, hok.2.2.1, hok.2.2.2.1, hw0b, by simp only; omega⟩, by simp only; omega, .inl rfl, rfl⟩
  have hLl : L.length = 2 := by rw [hL]; rfl
  simp only [Cm.cells] at hL
  rw [← hL]
  clear hL
  refine wpC_loop_gc [27, 28, 29] [] (fun m s => ∃ i : Nat, m + i = 2 ∧ s = ⟨[(27, .t (.lst 5 true L)), (28, .t (.int .i64 2)), (29, .t (.int .i64 i))], []⟩) 2
    ⟨by simp [gcSt, keepOk, finG, resV, resOne, resAll, idx, V.ren, V.renL, Obj.ren, get_cons, get_nil, RTree, RTup, RRow], 0, by omega, by simp [gcSt, keepOk, finG, resV, resOne, resAll, idx, V.ren, V.renL, Obj.ren, get_cons, get_nil, RTree, RTup, RRow]⟩ ?_
  rintro m s ⟨i, hm, rfl⟩
  by_cases hi : i < 2
  case neg =>
    have hi' : ¬ (i : Int) < 2 := by omega
    simp (maxSteps := 4000000) -implicitDefEqProofs (disch := omega) only [hi', ↓sxPre, sxPost, sxLib, if_true, if_false, Nat.reduceEqDiff, ↓reduceIte, Nat.reduceAdd, Nat.reduceSub, Nat.reduceMul, Nat.reduceLT, Nat.reduceLeDiff, reduceCtorEq, eq_self, K.isEff, List.reduceReplicate]
    refine step_tree awake36_sc rfl ?_
    simp (maxSteps := 4000000) -implicitDefEqProofs (disch := omega) only [↓sxPre, sxPost, sxLib, if_true, if_false, Nat.reduceEqDiff, ↓reduceIte, Nat.reduceAdd, Nat.reduceSub, Nat.reduceMul, Nat.reduceLT, Nat.reduceLeDiff, reduceCtorEq, eq_self, K.isEff, List.reduceReplicate]
    refine finK_gc [] ?_
    simp [gcSt, keepOk, finG, resV, resOne, resAll, idx, V.ren, V.renL, Obj.ren, get_cons, get_nil, RTree, RTup, RRow]
  have hi' : (i : Int) < 2 := by omega
  obtain ⟨q, sz, t, hq, hql, hsz, hat⟩ := hLat i hi
  have hiL : (i : Int) < L.length := by omega
  by_cases hqw : q.words.length ≤ 128
  · have cE := EncodeCommand_sc q hqw hq sz t hsz
    have cE2 := rEncodeCommand_sc q hqw hq sz t hsz
    have hb := B_isByte q.enc_bytes
    have hD := decC_enc hq hqw
    have hlen : q.enc.length ≤ 2 ^ 40 := by
      have a1 := enI_len (Cm.head_ok hq) (by simp [Cm.head])
      have a2 := enI_len hq.2.2.2.2.1 (by omega)
      have a3 : q.head.length = 4 := rfl
      rw [Cm.enc, List.length_append]; omega
    have cD := DecodeCommand_sc q.enc q.enc_bytes hlen
    rw [hD] at cD
    generalize q.enc = E at *
    simp only [Cm.cells] at cE cE2 hat
    simp (maxSteps := 4000000) -implicitDefEqProofs (disch := omega) only [hi', hat, Int.toNat_natCast, kloadN_ip, kstore_ref, putAt_zero, ↓sxPre, sxPost, sxLib, if_true, if_false, Nat.reduceEqDiff, ↓reduceIte, Nat.reduceAdd, Nat.reduceSub, Nat.reduceMul, Nat.reduceLT, Nat.reduceLeDiff, reduceCtorEq, eq_self, K.isEff, List.reduceReplicate]
    refine ⟨by omega, step_enc (ys := E) ?_ fun g => ?_⟩
    · simpa [Abs.view, viewL, Abs.get, ev] using cE
    simp (maxSteps := 4000000) -implicitDefEqProofs (disch := omega) only [B_length, ↓sxPre, sxPost, sxLib, if_true, if_false, Nat.reduceEqDiff, ↓reduceIte, Nat.reduceAdd, Nat.reduceSub, Nat.reduceMul, Nat.reduceLT, Nat.reduceLeDiff, reduceCtorEq, eq_self, K.isEff, List.reduceReplicate]
    refine step_enc (ys := E) ?_ fun g2 => ?_
    · simpa [Abs.view, viewL, Abs.get, ev] using cE2
    simp (maxSteps := 4000000) -implicitDefEqProofs (disch := omega) only [B_length, ktoStr, elems_sl, B_all, hb, ↓sxPre, sxPost, sxLib, if_true, if_false, Nat.reduceEqDiff, ↓reduceIte, Nat.reduceAdd, Nat.reduceSub, Nat.reduceMul, Nat.reduceLT, Nat.reduceLeDiff, reduceCtorEq, eq_self, K.isEff, List.reduceReplicate]
    refine step_decC (D := (q, 0)) ?_ (fun hq0 => ?_) (fun g3 => ?_)
    · simpa [Abs.view, viewL, rowOf, Abs.get, ev, B_all] using cD
    all_goals
      unfold Cm.vals
      simp (maxSteps := 4000000) -implicitDefEqProofs (disch := omega) only [B_length, kstore_ref, putAt_zero, ↓sxPre, sxPost, sxLib, if_true, if_false, Nat.reduceEqDiff, ↓reduceIte, Nat.reduceAdd, Nat.reduceSub, Nat.reduceMul, Nat.reduceLT, Nat.reduceLeDiff, reduceCtorEq, eq_self, K.isEff, List.reduceReplicate]
    · have hq0 : q.words = [] := hq0
      have cS := SameCommand_eq q hql sz 0 t true hsz (.inr hq0)
      simp only [Cm.cells] at cS
      rw [hq0] at cS
      refine step_guard rfl (fun _ => step_tree (x := .bool true) ?_ rfl ?_) (fun h => absurd rfl h)
      · simpa [Abs.view, viewL, Abs.get, ev, hq0, Ns] using cS
      simp (maxSteps := 4000000) -implicitDefEqProofs (disch := omega) only [↓sxPre, sxPost, sxLib, if_true, if_false, Nat.reduceEqDiff, ↓reduceIte, Nat.reduceAdd, Nat.reduceSub, Nat.reduceMul, Nat.reduceLT, Nat.reduceLeDiff, reduceCtorEq, eq_self, K.isEff, List.reduceReplicate]
      refine ⟨m - 1, by omega, by simp [gcSt, keepOk, finG, resV, resOne, resAll, idx, V.ren, V.renL, Obj.ren, get_cons, get_nil, RTree, RTup, RRow], i + 1, by omega, by simp [gcSt, keepOk, finG, resV, resOne, resAll, idx, V.ren, V.renL, Obj.ren, get_cons, get_nil, RTree, RTup, RRow]⟩
    · have cS := SameCommand_eq q hql sz 1 t false hsz (.inl rfl)
      have hNt : (Ns q.words).take q.words.length = Ns q.words := List.take_of_length_le (by rw [Ns_length]; omega)
      refine step_guard rfl (fun _ => step_tree (x := .bool true) ?_ rfl ?_) (fun h => absurd rfl h)
      · simpa [Abs.view, viewL, rowOf, Abs.get, ev, Cm.cells, hNt] using cS
      simp (maxSteps := 4000000) -implicitDefEqProofs (disch := omega) only [↓sxPre, sxPost, sxLib, if_true, if_false, Nat.reduceEqDiff, ↓reduceIte, Nat.reduceAdd, Nat.reduceSub, Nat.reduceMul, Nat.reduceLT, Nat.reduceLeDiff, reduceCtorEq, eq_self, K.isEff, List.reduceReplicate]
      refine ⟨m - 1, by omega, by simp [gcSt, keepOk, finG, resV, resOne, resAll, idx, V.ren, V.renL, Obj.ren, get_cons, get_nil, RTree, RTup, RRow], i + 1, by omega, by simp [gcSt, keepOk, finG, resV, resOne, resAll, idx, V.ren, V.renL, Obj.ren, get_cons, get_nil, RTree, RTup, RRow]⟩
  · have cE := EncodeCommand_bad q (by omega) hq sz t
    have cE2 := rEncodeCommand_bad q (by omega) hq sz t
    have d5 : decide ((5 : Int) = 0) = false := by decide
    simp only [Cm.cells] at cE cE2 hat
    simp (maxSteps := 4000000) -implicitDefEqProofs (disch := omega) only [hi', hat, Int.toNat_natCast, kloadN_ip, kstore_ref, putAt_zero, ↓sxPre, sxPost, sxLib, if_true, if_false, Nat.reduceEqDiff, ↓reduceIte, Nat.reduceAdd, Nat.reduceSub, Nat.reduceMul, Nat.reduceLT, Nat.reduceLeDiff, reduceCtorEq, eq_self, K.isEff, List.reduceReplicate]
    refine ⟨by omega, step_tup (ys := [.lst 0 true [], .int .i64 5]) ?_ rfl ?_⟩
    · simpa [Abs.view, viewL, Abs.get, ev] using cE
    simp (maxSteps := 4000000) -implicitDefEqProofs (disch := omega) only [B_length, ↓sxPre, sxPost, sxLib, if_true, if_false, Nat.reduceEqDiff, ↓reduceIte, Nat.reduceAdd, Nat.reduceSub, Nat.reduceMul, Nat.reduceLT, Nat.reduceLeDiff, reduceCtorEq, eq_self, K.isEff, List.reduceReplicate]
    refine step_tup (ys := [.lst 0 true [], .int .i64 5]) ?_ rfl ?_
    · simpa [Abs.view, viewL, Abs.get, ev] using cE2
    simp (maxSteps := 4000000) -implicitDefEqProofs (disch := omega) only [B_length, ktoStr, elems_nil, d5, ↓sxPre, sxPost, sxLib, if_true, if_false, Nat.reduceEqDiff, ↓reduceIte, Nat.reduceAdd, Nat.reduceSub, Nat.reduceMul, Nat.reduceLT, Nat.reduceLeDiff, reduceCtorEq, eq_self, K.isEff, List.reduceReplicate]
    refine ⟨m - 1, by omega, by simp [gcSt, keepOk, finG, resV, resOne, resAll, idx, V.ren, V.renL, Obj.ren, get_cons, get_nil, RTree, RTup, RRow], i + 1, by omega, by simp [gcSt, keepOk, finG, resV, resOne, resAll, idx, V.ren, V.renL, Obj.ren, get_cons, get_nil, RTree, RTup, RRow]⟩

/-- A command that is handed to a law. -/
theorem Cells.cm {W : World} {ts : List T} {cs : List Value} (h : Cells W [.int .i64, .int .i64, .int .i64, .int .i64, .lst false [.int .i64]] ts cs) : ∃ p : Cm, p.Ok ∧ ts = p.cells 1 false := by
  obtain ⟨_, _, _, _, rfl, rfl, f1, _, h⟩ := h.head
  obtain ⟨_, _, _, _, rfl, rfl, f2, _, h⟩ := h.head
  obtain ⟨_, _, _, _, rfl, rfl, f3, _, h⟩ := h.head
  obtain ⟨_, _, _, _, rfl, rfl, f4, _, h⟩ := h.head
  obtain ⟨_, _, _, _, rfl, rfl, f6, _, h⟩ := h.head
  obtain ⟨rfl, rfl⟩ := h.tail_nil
  obtain ⟨n1, rfl, w1⟩ := f1.int_inv
  obtain ⟨n2, rfl, w2⟩ := f2.int_inv
  obtain ⟨n3, rfl, w3⟩ := f3.int_inv
  obtain ⟨n4, rfl, w4⟩ := f4.int_inv
  obtain ⟨l, rfl, wl, hl⟩ := f6.ints_inv
  have hm : maxLen = 2 ^ 63 - 1 := rfl
  exact ⟨⟨n1, n2, n3, n4, l⟩, ⟨i64_of w1, i64_of w2, i64_of w3, i64_of w4, fun x hx => i64_of (wl x hx), by simp only; omega⟩, rfl⟩

theorem MessageCommands_sc {W : World} {ts : List T} {cs : List Value} (h : Cells W [.int .i64, .int .i64, .int .i64, .int .i64, .lst false [.int .i64]] ts cs) (n : Int) (hn : -2 ^ 63 ≤ n ∧ n < 2 ^ 63) :
    SCall PP N.debuggerlaw36_MessageCommands [.t (.agg ts), .t (.int .i64 n)] [] (RTree (.bool true)) := by
  obtain ⟨p, hp, rfl⟩ := Cells.cm h
  exact MessageCommands_main p hp n
end Go.Proofs.Ytljjabccgbakgaa
