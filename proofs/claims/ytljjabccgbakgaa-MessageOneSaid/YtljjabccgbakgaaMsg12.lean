/- Messages: the state of a thread is read. By the session itself. -/
import Derived.Test.YtljjabccgbakgaaMsg11
import Derived.Test.YtljjabccgbakgaaL2
namespace Go.Proofs.Ytljjabccgbakgaa
open Go Go.Abs
set_option maxRecDepth 100000
set_option maxHeartbeats 4000000
set_option linter.unusedSimpArgs false
set_option linter.unusedVariables false

theorem toTs_ts {H : Heap} {vs : List V} {ys : List T} {H1 : Heap} (h : toTs H vs = some (ys, H1)) : ∀ xs : List T, toTs H (xs.map V.t ++ vs) = some (xs ++ ys, H1)
  | [] => h
  | x :: xs => by
    rw [List.map_cons, List.cons_append, toTs_cons, toT_t]
    simp only [toTs_ts h xs, List.cons_append]

/-- The cells of a thread whose arguments may be new memory. -/
def vcells (st fn pc : Int) (r : List Int) (x : V) : List V := .t (.int .i64 st) :: ((Ns r).map V.t ++ [.t (.int .i64 pc), .t (.int .i64 fn), x])

theorem vfacts (st fn pc : Int) (r : List Int) (hr : r.length = 16) :
    (∀ x, (vcells st fn pc r x).length = 20) ∧ (∀ x, (vcells st fn pc r x).take 20 = vcells st fn pc r x) ∧ (∀ x y, putAt (vcells st fn pc r x) 19 [y] = vcells st fn pc r y) ∧ (∀ x, x.one = true → (vcells st fn pc r x).all V.one = true) ∧
      (∀ a0 a1 a2 a3 a4 a5 a6 a7 a8 a9 a10 a11 a12 a13 a14 a15 a16 a17 a18 a19 : V, ∀ x, putAt [a0, a1, a2, a3, a4, a5, a6, a7, a8, a9, a10, a11, a12, a13, a14, a15, a16, a17, a18, a19] 0 (vcells st fn pc r x) = vcells st fn pc r x) ∧
      (∀ z1 z2 z3 z4 z5 z6 z7 z8 z9 z10 z11 z12 z13 z14 z15 z16 : V, ∀ x, putAt [.t (.int .i64 st), z1, z2, z3, z4, z5, z6, z7, z8, z9, z10, z11, z12, z13, z14, z15, z16, .t (.int .i64 pc), .t (.int .i64 fn), x] 1 ((Ns r).map V.t) = vcells st fn pc r x) := by
  match r, hr with
  | [b0, b1, b2, b3, b4, b5, b6, b7, b8, b9, b10, b11, b12, b13, b14, b15], _ =>
  refine ⟨fun _ => rfl, fun _ => rfl, fun _ _ => rfl, fun x hx => ?_, ?_, ?_⟩
  · simp only [vcells, Ns, List.map_cons, List.map_nil, List.cons_append, List.nil_append, List.all_cons, List.all_nil, hx, Bool.and_true, vone_int]
  · intros; rfl
  · intros; rfl

theorem vcells_toTs {H H1 : Heap} {x : V} {y : T} (h : toT H x = some (y, H1)) (st fn pc : Int) (r : List Int) : toTs H (vcells st fn pc r x) = some (.int .i64 st :: (Ns r ++ [.int .i64 pc, .int .i64 fn, y]), H1) := by
  rw [vcells, toTs_cons, toT_t]
  have : toTs H [V.t (.int .i64 pc), .t (.int .i64 fn), x] = some ([.int .i64 pc, .int .i64 fn, y], H1) := by
    simp only [toTs_cons, toT_t, h, toTs_nil]
  simp only [toTs_ts this (Ns r)]

def zeroTh : Th := ⟨0, 0, 0, List.replicate 16 0, []⟩
/-- The state of a thread is read. -/
def rdTh (b : List Int) (s : RS) : Th × RS :=
  (⟨(rdExact b 19 s).1.getD 0 0, (rdExact b 19 s).1.getD 1 0, (rdExact b 19 s).1.getD 2 0, (rdExact b 19 s).1.drop 3, (rdInts b 4 (rdExact b 19 s).2).1⟩, (rdInts b 4 (rdExact b 19 s).2).2)
def RTh (b : List Int) (x : Th × RS) (r : V) (F : Heap) : Prop := ∃ sz t, (sz = 1 ∨ x.1.args = []) ∧ r = .t (.agg (x.1.cells sz t)) ∧ F = [rbox b x.2]

theorem rdTh_ok {b : List Int} (hb : Bytes b) {s : RS} (h : SOk b s) : SOk b (rdTh b s).2 ∧ (rdTh b s).1.Ok ∧ (rdTh b s).1.args.length ≤ 4 := by
  obtain ⟨h1, h2, h3⟩ := rdExact_ok hb 19 h
  obtain ⟨k1, k2, k3⟩ := rdInts_ok hb 4 h1
  have hz : ∀ (l : List Int) i, I64s l → I64 (l.getD i 0) := by
    intro l i hl
    rw [List.getD_eq_getElem?_getD]
    cases e : l[i]? with
    | none => exact ⟨by decide, by decide⟩
    | some y => exact hl y (List.mem_of_getElem? e)
  refine ⟨k1, ⟨hz _ _ h2, hz _ _ h2, hz _ _ h2, by simp only [rdTh, List.length_drop, h3], fun x hx => h2 x (List.mem_of_mem_drop hx), k2, ?_⟩, ?_⟩
  · simp only [rdTh]; omega
  · simp only [rdTh]; omega

theorem kcopy_bsl {H : Heap} {m id off len : Nat} {ys : List T} : kcopy H m (.bsl id off len) ys = (match H[id]? with
    | some (.box cs) => if m = 1 ∧ ys.all T.one = true then some (off + len ≤ cs.length, .int .i64 ((min ys.length len : Nat) : Int), H.set id (.box (putAt cs off ((ys.take len).map .t)))) else none
    | _ => none) := (rfl)

theorem thread_sc (b : List Int) (hb : Bytes b) (hl : b.length ≤ 2 ^ 40) (s : RS) (hs : SOk b s) : SCall PP N.message_reader_thread [.ref 0 0] [rbox b s] (RTh b (rdTh b s)) := by
  refine message_reader_thread.intro (by simp) ?_
  have c1 := exactly_sc b hb hl s hs 19 (by decide)
  obtain ⟨k1, k2, k3⟩ := rdExact_ok hb 19 hs
  have c2 := ints_sc b hb hl (rdExact b 19 s).2 k1 4 (by decide)
  unfold rdTh
  generalize rdExact b 19 s = x at *
  obtain ⟨l, s1⟩ := x
  simp only at k1 k2 k3 c2 ⊢
  generalize rdInts b 4 s1 = z at *
  obtain ⟨y, s2⟩ := z
  simp only at c2 ⊢
  obtain ⟨l0, l1, l2, r, rfl⟩ : ∃ l0 l1 l2 r, l = l0 :: l1 :: l2 :: r := by
    match l, k3 with
    | l0 :: l1 :: l2 :: r, _ => exact ⟨l0, l1, l2, r, rfl⟩
  have hr : r.length = 16 := by simpa using k3
  obtain ⟨f1, f2, f3, f4, f5, f6⟩ := vfacts l0 l1 l2 r hr
  have c1' : SCall PP N.message_reader_exactly [.ref 0 0, .t (.int .i64 19)] [rbox b s] (RNew b (l0 :: l1 :: l2 :: r, s1)) := c1
  simp only [List.getD_cons_zero, List.getD_cons_succ, List.drop_succ_cons, List.drop_zero]
  simp (maxSteps := 4000000) -implicitDefEqProofs (disch := omega) only [↓sxPre, sxPost, sxLib, if_true, if_false, Nat.reduceEqDiff, ↓reduceIte, Nat.reduceAdd, Nat.reduceSub, Nat.reduceMul, Nat.reduceLT, Nat.reduceLeDiff, reduceCtorEq, eq_self, K.isEff, List.reduceReplicate]
  refine step_new (b := b) (x := (l0 :: l1 :: l2 :: r, s1)) 0 (by simp) ?_ (fun g => ?_)
  · simpa [V.ren, V.renL, idx, Abs.get, ev, sub, rbox, Obj.ren] using c1'
  have a0 := at_Ns (l := l0 :: l1 :: l2 :: r) (i := 0) (by simp)
  have a1 := at_Ns (l := l0 :: l1 :: l2 :: r) (i := 1) (by simp)
  have a2 := at_Ns (l := l0 :: l1 :: l2 :: r) (i := 2) (by simp)
  simp only [List.getElem_cons_zero, List.getElem_cons_succ] at a0 a1 a2
  have hL : (l0 :: l1 :: l2 :: r).length = 19 := k3
  obtain ⟨X, hX⟩ : ∃ X, X = Ns (l0 :: l1 :: l2 :: r) := ⟨_, rfl⟩
  have hXd : (X.drop 3).take 16 = Ns r := by
    rw [hX]
    show (Ns r).take 16 = Ns r
    exact List.take_of_length_le (by rw [Ns_length]; omega)
  have hrt : (Ns r).take 16 = Ns r := List.take_of_length_le (by rw [Ns_length]; omega)
  rw [← hX] at a0 a1 a2
  simp only [← hX]
  rw [hL]
  clear hX
  simp (maxSteps := 4000000) -implicitDefEqProofs (disch := omega) only [kload1_elt, Int.reduceToNat, a0, a1, a2, at_zero, stepK_build', fillV, putAt_zero, putAt_succ, ksliceA_ref, kcopy_bsl, elems_sl, hXd, hrt, Ns_one, Ns_length, hr, f6, ↓sxPre, sxPost, sxLib, if_true, if_false, Nat.reduceEqDiff, ↓reduceIte, Nat.reduceAdd, Nat.reduceSub, Nat.reduceMul, Nat.reduceLT, Nat.reduceLeDiff, reduceCtorEq, eq_self, K.isEff, List.reduceReplicate]
  refine ⟨⟨by omega, by omega⟩, ⟨by omega, by omega⟩, ⟨by omega, by omega⟩, ⟨by omega, by omega⟩, ⟨by omega, by omega⟩, ⟨by omega, by omega⟩, ⟨by omega, by omega⟩, ?_⟩
  refine step_ints (b := b) (x := (y, s2)) 0 (by simp) ?_ (fun hy => ?_) (fun g2 => ?_)
  · simpa [V.ren, V.renL, idx, Abs.get, ev, sub, rbox, Obj.ren] using c2
  · simp (maxSteps := 4000000) -implicitDefEqProofs (disch := omega) only [f1, f2, f3, f4, f5, ↓sxPre, sxPost, sxLib, if_true, if_false, Nat.reduceEqDiff, ↓reduceIte, Nat.reduceAdd, Nat.reduceSub, Nat.reduceMul, Nat.reduceLT, Nat.reduceLeDiff, reduceCtorEq, eq_self, K.isEff, List.reduceReplicate]
    refine ⟨f4 _ rfl, ?_⟩
    refine finK_one (n := 1) [0] (c := True) (v := .agg (vcells l0 l1 l2 r (.t (.lst 0 true [])))) (x := .agg (Th.cells ⟨l0, l1, l2, r, y⟩ 0 true)) (H1 := [rbox b s2, .box (vcells l0 l1 l2 r (.t (.lst 0 true []))), .row 1 g X, .box (vcells l0 l1 l2 r (.t (.lst 0 true [])))]) ?_ trivial ?_ (by simp [keepOk]) ?_
    · simp [resV, resOne, get_cons, kloadN_ref, f1, f2]
    · rw [toElem_agg, vcells_toTs (toT_t (x := .lst 0 true []))]
      rw [show y = [] from hy]; rfl
    · exact ⟨0, true, .inr hy, rfl, rfl⟩
  · have hyt : (Ns y).take y.length = Ns y := List.take_of_length_le (by rw [Ns_length]; omega)
    simp (maxSteps := 4000000) -implicitDefEqProofs (disch := omega) only [f1, f2, f3, f4, f5, ↓sxPre, sxPost, sxLib, if_true, if_false, Nat.reduceEqDiff, ↓reduceIte, Nat.reduceAdd, Nat.reduceSub, Nat.reduceMul, Nat.reduceLT, Nat.reduceLeDiff, reduceCtorEq, eq_self, K.isEff, List.reduceReplicate]
    refine ⟨f4 _ rfl, ?_⟩
    refine finK_one (n := 1) [0] (c := True) (v := .agg (vcells l0 l1 l2 r (.sl 4 0 y.length g2 1))) (x := .agg (Th.cells ⟨l0, l1, l2, r, y⟩ 1 false)) (H1 := [rbox b s2, .box (vcells l0 l1 l2 r (.sl 4 0 y.length g2 1)), .row 1 g X, .box (vcells l0 l1 l2 r (.sl 4 0 y.length g2 1)), .frz 1 g2 (Ns y)]) ?_ trivial ?_ (by simp [keepOk]) ?_
    · simp [resV, resOne, get_cons, kloadN_ref, f1, f2]
    · rw [toElem_agg, vcells_toTs (y := .lst 1 false (Ns y)) (H1 := [rbox b s2, .box (vcells l0 l1 l2 r (.sl 4 0 y.length g2 1)), .row 1 g X, .box (vcells l0 l1 l2 r (.sl 4 0 y.length g2 1)), .frz 1 g2 (Ns y)])]
      · rfl
      · rw [toT_sl]; simp [rowOf, hyt]
    · exact ⟨1, false, .inl rfl, rfl, rfl⟩
end Go.Proofs.Ytljjabccgbakgaa
