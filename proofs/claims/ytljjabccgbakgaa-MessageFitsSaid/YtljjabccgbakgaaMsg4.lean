/- Messages: lists of numbers are written; EncodeCommand. By the session itself. -/
import Derived.Test.YtljjabccgbakgaaMsg3
import Derived.Test.YtljjabccgbakgaaFdebuggerref36
namespace Go.Proofs.Ytljjabccgbakgaa
open Go Go.Abs
set_option maxRecDepth 100000
set_option maxHeartbeats 4000000
set_option linter.unusedSimpArgs false
set_option linter.unusedVariables false

/-- A list of numbers as bytes. -/
def enI (l : List Int) : List Int := groups l.length ++ rows l

theorem step_app {P : Program} {f : FuncId} {H : Heap} {K : St → Prop} {vs : List (Nat × V)} {r : List Ins} {d : Nat} {xs : List Opnd} {ys : List T} (id : Nat) (hid : id < H.length)
    (h : SCall P f ((xs.map (ev vs)).map (V.ren (idx [id]))) (sub H [id]) (RRow 1 ys)) (hk : ∀ g, wpR (SCall P) r K ⟨(d, .sl id 0 ys.length g 1) :: vs, H.set id (.row 1 g ys)⟩) : wpR (SCall P) (⟨some d, none, .call f xs⟩ :: r) K ⟨vs, H⟩ := by
  refine step_call (call_frame [id] (by simp) (by simpa using hid) h ?_)
  rintro r F ⟨g, rfl, rfl⟩
  simpa [merge, setAll, V.ren, Obj.ren, tau] using hk g

theorem app_loop (n : Nat) (p l : List Int) (hl : I64s l) (hll : l.length ≤ 2 ^ 30) (hp : p.length ≤ 2 ^ 40) (sz : Nat) (t : Bool) (hsz : sz = 1 ∨ l = []) (g : Nat) (hn : n ≤ 1) (s : St)
    (h : ∃ keep, keepOk n keep s.h.length ∧ gcSt [0, 12, 13, 14] keep s = ⟨[(0, .sl 0 0 p.length g 1), (12, .t (.lst sz t (Ns l))), (13, .t (.int .i64 l.length)), (14, .t (.int .i64 0))], [.row 1 g (B p)]⟩) :
    wpC (SCall PP) n (.loop message_appendInts.l0) (blockK 0 (thenK (wpC (SCall PP) n (.seq (.rgn message_appendInts.r7) .ret) (exitK n [.tmp 4] (RRow 1 (B (p ++ rows l))))) (exitK n [.tmp 4] (RRow 1 (B (p ++ rows l)))))) s := by
  obtain ⟨keep, h1, h2⟩ := h
  refine wpC_loop_any [0, 12, 13, 14] (fun m s => ∃ (i g : Nat), m + i = l.length ∧ s = ⟨[(0, .sl 0 0 (p ++ rows (l.take i)).length g 1), (12, .t (.lst sz t (Ns l))), (13, .t (.int .i64 l.length)), (14, .t (.int .i64 i))], [.row 1 g (B (p ++ rows (l.take i)))]⟩) l.length
    ⟨keep, h1, 0, g, by omega, by rw [h2]; simp [rows]⟩ ?_
  rintro m s ⟨i, g, hm, rfl⟩
  have hk0 : ∀ len, 0 < len → keepOk n [0] len := by
    intro len h
    refine ⟨?_, by simpa using hn, by simp, by simpa using h⟩
    match n, hn with
    | 0, _ => rfl
    | 1, _ => rfl
  have hri : (rows (l.take i)).length ≤ 10 * 2 ^ 30 := by
    have := rows_len (l.take i) fun x hx => hl x (List.mem_of_mem_take hx)
    have h3 : (l.take i).length ≤ l.length := by simp; omega
    omega
  by_cases hi : i < l.length
  · have hi' : (i : Int) < l.length := by omega
    have h1' : sz = 1 := hsz.resolve_right (by rintro rfl; simp at hi)
    subst h1'
    have cI := AppendInt_sc [] true (l[i]'hi) (hl _ (List.getElem_mem hi)) (by simp)
    rw [List.nil_append] at cI
    have g10 := groups_le10 (zig_lt (hl _ (List.getElem_mem hi)))
    have hr1 := rows_take hi
    generalize hP : p ++ rows (l.take i) = P0 at *
    have hP1 : p ++ rows (l.take (i + 1)) = P0 ++ groups (zig (l[i]'hi)) := by rw [hr1, ← List.append_assoc, hP]
    have hPl : P0.length ≤ 2 ^ 41 := by rw [← hP, List.length_append]; omega
    simp (maxSteps := 4000000) -implicitDefEqProofs (disch := omega) only [hi', Ns_length, Int.toNat_natCast, at_Ns hi, at_zero, ↓sxPre, sxPost, sxLib, if_true, if_false, Nat.reduceEqDiff, ↓reduceIte, Nat.reduceAdd, Nat.reduceSub, Nat.reduceMul, Nat.reduceLT, Nat.reduceLeDiff, reduceCtorEq, eq_self, K.isEff, List.reduceReplicate]
    refine ⟨by omega, step_row (sz := 1) (ys := B (groups (zig (l[i]'hi)))) (nil_at 0 1 rfl cI) (B_flat _) fun g2 => ?_⟩
    generalize groups (zig (l[i]'hi)) = G at *
    simp (maxSteps := 4000000) -implicitDefEqProofs (disch := omega) only [B_length, elems_sl, B_all, ← B_append, ↓sxPre, sxPost, sxLib, if_true, if_false, Nat.reduceEqDiff, ↓reduceIte, Nat.reduceAdd, Nat.reduceSub, Nat.reduceMul, Nat.reduceLT, Nat.reduceLeDiff, reduceCtorEq, eq_self, K.isEff, List.reduceReplicate]
    refine ⟨by omega, m - 1, by omega, [0], hk0 _ (by simp), i + 1, g + 1, by omega, ?_⟩
    have hlen : p.length + (rows (l.take (i + 1))).length = P0.length + G.length := by rw [← List.length_append, hP1, List.length_append]
    rw [hP1]
    simp [hlen, gcSt, keepOk, finG, resV, resOne, resAll, idx, V.ren, V.renL, Obj.ren, get_cons, get_nil, RTree, RTup, RRow]
  · have hi' : ¬ (i : Int) < l.length := by omega
    obtain rfl : i = l.length := by omega
    rw [List.take_length]
    simp (maxSteps := 4000000) -implicitDefEqProofs (disch := omega) only [hi', ↓sxPre, sxPost, sxLib, if_true, if_false, Nat.reduceEqDiff, ↓reduceIte, Nat.reduceAdd, Nat.reduceSub, Nat.reduceMul, Nat.reduceLT, Nat.reduceLeDiff, reduceCtorEq, eq_self, K.isEff, List.reduceReplicate]
    refine finK_gc [0] ⟨hk0 _ (by simp), ?_⟩
    simp [resV, resOne, get_cons, V.ren, idx, RRow, Obj.ren, B_length]

theorem app_nil (l : List Int) (hl : I64s l) (hll : l.length ≤ 2 ^ 30) (sz : Nat) (t : Bool) (hsz : sz = 1 ∨ l = []) : SCall PP N.message_appendInts [.t (.lst 0 true []), .t (.lst sz t (Ns l))] [] (RRow 1 (B (enI l))) := by
  refine message_appendInts.intro (by simp) ?_
  have cU := AppendUint_sc [] true l.length (by omega) (by simp)
  rw [if_neg (by omega), Int.toNat_natCast, List.nil_append] at cU
  have g10 := groups_le10 (v := l.length) (by omega)
  have hL := fun g n hn s h => app_loop n (groups l.length) l hl hll (by omega) sz t hsz g hn s h
  unfold enI
  simp (maxSteps := 4000000) -implicitDefEqProofs (disch := omega) only [Ns_length, ↓sxPre, sxPost, sxLib, if_true, if_false, Nat.reduceEqDiff, ↓reduceIte, Nat.reduceAdd, Nat.reduceSub, Nat.reduceMul, Nat.reduceLT, Nat.reduceLeDiff, reduceCtorEq, eq_self, K.isEff, List.reduceReplicate]
  refine step_row (sz := 1) (ys := B (groups l.length)) (nil_at 0 1 rfl cU) (B_flat _) fun g => ?_
  generalize groups l.length = G at *
  simp (maxSteps := 4000000) -implicitDefEqProofs (disch := omega) only [Ns_length, B_length, elems_sl, B_all, kappend_nil, ↓sxPre, sxPost, sxLib, if_true, if_false, Nat.reduceEqDiff, ↓reduceIte, Nat.reduceAdd, Nat.reduceSub, Nat.reduceMul, Nat.reduceLT, Nat.reduceLeDiff, reduceCtorEq, eq_self, K.isEff, List.reduceReplicate]
  refine ⟨by omega, hL 0 0 (by omega) _ ⟨[1], by simp [gcSt, keepOk, finG, resV, resOne, resAll, idx, V.ren, V.renL, Obj.ren, get_cons, get_nil, RTree, RTup, RRow], by simp [gcSt, keepOk, finG, resV, resOne, resAll, idx, V.ren, V.renL, Obj.ren, get_cons, get_nil, RTree, RTup, RRow]⟩⟩

theorem app_row (p l : List Int) (hp : p.length ≤ 2 ^ 39) (hl : I64s l) (hll : l.length ≤ 2 ^ 30) (sz : Nat) (t : Bool) (hsz : sz = 1 ∨ l = []) (g0 : Nat) : SCall PP N.message_appendInts [.sl 0 0 p.length g0 1, .t (.lst sz t (Ns l))] [.row 1 g0 (B p)] (RRow 1 (B (p ++ enI l))) := by
  refine message_appendInts.intro (by simp) ?_
  have cU := AppendUint_sc [] true l.length (by omega) (by simp)
  rw [if_neg (by omega), Int.toNat_natCast, List.nil_append] at cU
  have g10 := groups_le10 (v := l.length) (by omega)
  have hL := fun g n hn s h => app_loop n (p ++ groups l.length) l hl hll (by simp; omega) sz t hsz g hn s h
  unfold enI
  rw [← List.append_assoc]
  generalize hE : p ++ groups l.length ++ rows l = E at *
  simp (maxSteps := 4000000) -implicitDefEqProofs (disch := omega) only [Ns_length, ↓sxPre, sxPost, sxLib, if_true, if_false, Nat.reduceEqDiff, ↓reduceIte, Nat.reduceAdd, Nat.reduceSub, Nat.reduceMul, Nat.reduceLT, Nat.reduceLeDiff, reduceCtorEq, eq_self, K.isEff, List.reduceReplicate]
  refine step_row (sz := 1) (ys := B (groups l.length)) (nil_at 0 1 rfl cU) (B_flat _) fun g => ?_
  generalize groups l.length = G at *
  have hPG : (p ++ G).length = p.length + G.length := by simp
  have hBG : B p ++ B G = B (p ++ G) := by rw [B_append]
  generalize p ++ G = PG at *
  simp (maxSteps := 4000000) -implicitDefEqProofs (disch := omega) only [Ns_length, B_length, elems_sl, B_all, hBG, ← hPG, ↓sxPre, sxPost, sxLib, if_true, if_false, Nat.reduceEqDiff, ↓reduceIte, Nat.reduceAdd, Nat.reduceSub, Nat.reduceMul, Nat.reduceLT, Nat.reduceLeDiff, reduceCtorEq, eq_self, K.isEff, List.reduceReplicate]
  refine ⟨by omega, hL (g0 + 1) 1 (by omega) _ ⟨[0], by simp [gcSt, keepOk, finG, resV, resOne, resAll, idx, V.ren, V.renL, Obj.ren, get_cons, get_nil, RTree, RTup, RRow], by simp [gcSt, keepOk, finG, resV, resOne, resAll, idx, V.ren, V.renL, Obj.ren, get_cons, get_nil, RTree, RTup, RRow]⟩⟩

theorem rlist_sc (p l : List Int) (hp : p.length ≤ 2 ^ 38) (hl : I64s l) (hll : l.length ≤ 2 ^ 30) (t0 : Bool) (sz : Nat) (t : Bool) (hsz : sz = 1 ∨ l = []) : SCall PP N.debuggerref36_list [.t (.lst 1 t0 (B p)), .t (.lst sz t (Ns l))] [] (RRow 1 (B (p ++ enI l))) := by
  refine debuggerref36_list.intro (by simp) ?_
  have cU := rAppendUint_sc p t0 l.length (by omega) (by omega)
  rw [if_neg (by omega), Int.toNat_natCast] at cU
  have g10 := groups_le10 (v := l.length) (by omega)
  unfold enI
  rw [← List.append_assoc]
  generalize hE : p ++ groups l.length ++ rows l = E at *
  simp (maxSteps := 4000000) -implicitDefEqProofs (disch := omega) only [Ns_length, ↓sxPre, sxPost, sxLib, if_true, if_false, Nat.reduceEqDiff, ↓reduceIte, Nat.reduceAdd, Nat.reduceSub, Nat.reduceMul, Nat.reduceLT, Nat.reduceLeDiff, reduceCtorEq, eq_self, K.isEff, List.reduceReplicate]
  refine step_row (sz := 1) (ys := B (p ++ groups l.length)) cU (B_flat _) fun g => ?_
  have hPG : (p ++ groups l.length).length ≤ 2 ^ 39 := by simp; omega
  generalize p ++ groups l.length = P1 at *
  simp (maxSteps := 4000000) -implicitDefEqProofs (disch := omega) only [B_length, ↓sxPre, sxPost, sxLib, if_true, if_false, Nat.reduceEqDiff, ↓reduceIte, Nat.reduceAdd, Nat.reduceSub, Nat.reduceMul, Nat.reduceLT, Nat.reduceLeDiff, reduceCtorEq, eq_self, K.isEff, List.reduceReplicate]
  refine wpC_loop_any [0, 1, 5] (fun m s => ∃ (i g : Nat), m + i = l.length ∧ s = ⟨[(0, .sl 0 0 (P1 ++ rows (l.take i)).length g 1), (1, .t (.lst sz t (Ns l))), (5, .t (.int .i64 i))], [.row 1 g (B (P1 ++ rows (l.take i)))]⟩) l.length
    ⟨[0], by simp [gcSt, keepOk, finG, resV, resOne, resAll, idx, V.ren, V.renL, Obj.ren, get_cons, get_nil, RTree, RTup, RRow], 0, g, by omega, by simp [rows, gcSt, keepOk, finG, resV, resOne, resAll, idx, V.ren, V.renL, Obj.ren, get_cons, get_nil, RTree, RTup, RRow]⟩ ?_
  rintro m s ⟨i, g, hm, rfl⟩
  have hri : (rows (l.take i)).length ≤ 10 * 2 ^ 30 := by
    have := rows_len (l.take i) fun x hx => hl x (List.mem_of_mem_take hx)
    have h3 : (l.take i).length ≤ l.length := by simp; omega
    omega
  by_cases hi : i < l.length
  · have hi' : (i : Int) < l.length := by omega
    have h1' : sz = 1 := hsz.resolve_right (by rintro rfl; simp at hi)
    subst h1'
    have hr1 := rows_take hi
    have hPl : (P1 ++ rows (l.take i)).length ≤ 2 ^ 40 := by rw [List.length_append]; omega
    have cI := rAppendInt_sc (P1 ++ rows (l.take i)) false (l[i]'hi) (hl _ (List.getElem_mem hi)) hPl
    have hP1 : P1 ++ rows (l.take (i + 1)) = P1 ++ rows (l.take i) ++ groups (zig (l[i]'hi)) := by rw [hr1, List.append_assoc]
    rw [← hP1] at cI
    generalize P1 ++ rows (l.take i) = P0 at *
    simp (maxSteps := 4000000) -implicitDefEqProofs (disch := omega) only [hi', Ns_length, Int.toNat_natCast, at_Ns hi, at_zero, ↓sxPre, sxPost, sxLib, if_true, if_false, Nat.reduceEqDiff, ↓reduceIte, Nat.reduceAdd, Nat.reduceSub, Nat.reduceMul, Nat.reduceLT, Nat.reduceLeDiff, reduceCtorEq, eq_self, K.isEff, List.reduceReplicate]
    refine ⟨by omega, step_row (sz := 1) (ys := B (P1 ++ rows (l.take (i + 1)))) ?_ (B_flat _) fun g2 => ?_⟩
    · simpa [Abs.view, rowOf, Abs.get, ev, B_all] using cI
    generalize hP2 : P1 ++ rows (l.take (i + 1)) = P2 at *
    simp (maxSteps := 4000000) -implicitDefEqProofs (disch := omega) only [B_length, ↓sxPre, sxPost, sxLib, if_true, if_false, Nat.reduceEqDiff, ↓reduceIte, Nat.reduceAdd, Nat.reduceSub, Nat.reduceMul, Nat.reduceLT, Nat.reduceLeDiff, reduceCtorEq, eq_self, K.isEff, List.reduceReplicate]
    refine ⟨m - 1, by omega, [1], by simp [gcSt, keepOk, finG, resV, resOne, resAll, idx, V.ren, V.renL, Obj.ren, get_cons, get_nil, RTree, RTup, RRow], i + 1, g2, by omega, ?_⟩
    have hlen : P2.length = P1.length + (rows (l.take (i + 1))).length := by rw [← hP2, List.length_append]
    rw [hP2]
    simp [hlen, gcSt, keepOk, finG, resV, resOne, resAll, idx, V.ren, V.renL, Obj.ren, get_cons, get_nil, RTree, RTup, RRow]
  · have hi' : ¬ (i : Int) < l.length := by omega
    obtain rfl : i = l.length := by omega
    rw [List.take_length, hE]
    simp (maxSteps := 4000000) -implicitDefEqProofs (disch := omega) only [hi', Ns_length, ↓sxPre, sxPost, sxLib, if_true, if_false, Nat.reduceEqDiff, ↓reduceIte, Nat.reduceAdd, Nat.reduceSub, Nat.reduceMul, Nat.reduceLT, Nat.reduceLeDiff, reduceCtorEq, eq_self, K.isEff, List.reduceReplicate]
    refine finK_gc [0] ?_
    simp [B_length, gcSt, keepOk, finG, resV, resOne, resAll, idx, V.ren, V.renL, Obj.ren, get_cons, get_nil, RTree, RTup, RRow]
end Go.Proofs.Ytljjabccgbakgaa
