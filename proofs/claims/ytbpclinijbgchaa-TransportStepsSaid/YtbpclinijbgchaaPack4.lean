/- Packets: what Decode of both packages returns. By the session itself. -/
import Derived.Test.YtbpclinijbgchaaPack3
namespace Go.Proofs.Ytbpclinijbgchaa
open Go Go.Abs
set_option maxRecDepth 100000
set_option maxHeartbeats 4000000
set_option linter.unusedSimpArgs false
set_option linter.unusedVariables false

/-- Numbers one behind the other, from a place on. -/
def rdNums (b : List Int) : Nat → Int → Option (List Int × Int)
  | 0, at_ => some ([], at_)
  | n + 1, at_ => if (readAt 8 127 b at_).2.2 ≠ 0 then none else (rdNums b n (readAt 8 127 b at_).2.1).map fun x => (((readAt 8 127 b at_).1 : Int) :: x.1, x.2)

/-- The packet that bytes without a check sum are. -/
def mkPk (b : List Int) (ns : List Int) (at_ : Int) : Pk := ⟨b.headD 0, ns.getD 0 0, ns.getD 1 0, ns.getD 2 0, ns.getD 3 0, b.drop at_.toNat⟩
def readP (b : List Int) : Option Pk := match rdNums b 5 1 with
  | none => none
  | some (ns, at_) => if ns.getD 4 0 = (mkPk b ns at_).body.length ∧ (mkPk b ns at_).right = true then some (mkPk b ns at_) else none

theorem rdNums_length : ∀ {b : List Int} {n : Nat} {at_ : Int} {ns : List Int} {a : Int}, rdNums b n at_ = some (ns, a) → ns.length = n
  | b, 0, at_, ns, a, h => by simp only [rdNums, Option.some.injEq, Prod.mk.injEq] at h; rw [← h.1]; rfl
  | b, n + 1, at_, ns, a, h => by
    simp only [rdNums] at h
    split at h
    · cases h
    · cases hr : rdNums b n (readAt 8 127 b at_).2.1 with
      | none => rw [hr] at h; cases h
      | some x =>
        rw [hr] at h
        simp only [Option.map_some, Option.some.injEq, Prod.mk.injEq] at h
        rw [← h.1, List.length_cons, rdNums_length hr]

/-- The body of a packet that was read: nothing, or new memory. -/
def RBody (l : List Int) (x : V) (H : Heap) : Prop := (x = .t (.lst 0 true []) ∧ l = [] ∧ H = []) ∨ ∃ g, x = .sl 0 0 l.length g 1 ∧ H = [.row 1 g (B l)]
def Pk.vals (q : Pk) (x : V) : List V := [.t (.int .i64 q.kind), .t (.int .i64 q.src), .t (.int .i64 q.dst), .t (.int .i64 q.seq), .t (.int .i64 q.ack), x]
def RRead (o : Option Pk) (r : V) (H : Heap) : Prop := ∃ q x, r = .tup [.agg (q.vals x), .t (.bool o.isSome)] ∧ RBody q.body x H ∧ ∀ p, o = some p → p = q

theorem put_nums {ns : List Int} {i n : Nat} {x : Int} (h : ns.length = i) (hi : i < n) : putAt (ns.map (fun v => V.t (.int .i64 v)) ++ List.replicate (n - i) (V.t (.int .i64 0))) i [V.t (.int .i64 x)] = (ns ++ [x]).map (fun v => V.t (.int .i64 v)) ++ List.replicate (n - (i + 1)) (V.t (.int .i64 0)) := by
  obtain ⟨m, rfl⟩ : ∃ m, n = i + 1 + m := ⟨n - (i + 1), by omega⟩
  have e1 : i + 1 + m - i = m + 1 := by omega
  have e2 : i + 1 + m - (i + 1) = m := by omega
  rw [e1, e2, putAt]
  have hl : (ns.map (fun v => V.t (.int .i64 v))).length = i := by simp [h]
  rw [List.take_append_of_le_length (by omega), List.take_of_length_le (by omega), List.drop_append, List.drop_of_length_le (by simp; omega), hl]
  simp

theorem putAt_zero {α : Type} {cs ds : List α} : putAt cs 0 ds = ds ++ cs.drop ds.length := by simp [putAt]
theorem putAt_succ {α : Type} {x : α} {cs ds : List α} {k : Nat} : putAt (x :: cs) (k + 1) ds = x :: putAt cs k ds := by simp [putAt, Nat.succ_add]
theorem fillV_nil {cs : List V} : fillV cs [] [] = some cs := (rfl)

theorem fin_nil {slot id u : Nat} {q : Pk} {y : T} {s : St} {Q : V → Heap → Prop} (h1 : get s.vs slot = .ref id 0) (h2 : s.h[id]? = some (.box (q.vals (.t (.lst 0 true []))))) (h3 : get s.vs u = .t y)
    (hQ : Q (.tup [.agg (q.vals (.t (.lst 0 true []))), .t y]) []) : finK 0 [.cell slot 6 false, .tmp u] Q s := by
  refine finK_gc [] ⟨by simp [keepOk], ?_⟩
  simp only [resV, resAll, resOne, h1, h3, kloadN_ref, h2]
  refine ⟨by simp [Pk.vals], ?_⟩
  simpa [V.ren, V.renL, Pk.vals] using hQ

theorem fin_new {slot id u rid g : Nat} {q : Pk} {y : T} {s : St} {Q : V → Heap → Prop} (h1 : get s.vs slot = .ref id 0) (h2 : s.h[id]? = some (.box (q.vals (.sl rid 0 q.body.length g 1)))) (h3 : get s.vs u = .t y)
    (h4 : s.h[rid]? = some (.row 1 g (B q.body))) (hQ : Q (.tup [.agg (q.vals (.sl 0 0 q.body.length g 1)), .t y]) [.row 1 g (B q.body)]) : finK 0 [.cell slot 6 false, .tmp u] Q s := by
  have hlt : rid < s.h.length := (List.getElem?_eq_some_iff.1 h4).1
  refine finK_gc [rid] ⟨by simp [keepOk, hlt], ?_⟩
  simp only [resV, resAll, resOne, h1, h3, kloadN_ref, h2]
  refine ⟨by simp [Pk.vals], ?_⟩
  simpa [V.ren, V.renL, Pk.vals, idx, h4, Obj.ren] using hQ

theorem renL_nums (ρ : Nat → Option Nat) (ns : List Int) (x : Int) (m : Nat) : V.renL ρ (ns.map (fun v => V.t (.int .i64 v)) ++ V.t (.int .i64 x) :: List.replicate m (V.t (.int .i64 0))) = ns.map (fun v => V.t (.int .i64 v)) ++ V.t (.int .i64 x) :: List.replicate m (V.t (.int .i64 0)) := by
  rw [V.renL_eq]; simp [V.ren]

theorem read_sc (b : List Int) (hb : Bytes b) (hb0 : 0 < b.length) (hl : b.length ≤ 2 ^ 40) (tight : Bool) : SCall PP N.packet_read [.t (.lst 1 tight (B b))] [] (RRead (readP b)) := by
  refine packet_read.intro (by simp) ?_
  have h0 : decide ((b.length : Int) = 0) = false := decide_eq_false (by omega)
  obtain ⟨R, hR⟩ : ∃ R, rdNums b 5 1 = R := ⟨_, rfl⟩
  unfold readP
  rw [hR]
  simp (maxSteps := 4000000) -implicitDefEqProofs (disch := omega) only [B_length, h0, ↓sxPre, sxPost, sxLib, if_true, if_false, Nat.reduceEqDiff, ↓reduceIte, Nat.reduceAdd, Nat.reduceSub, Nat.reduceMul, Nat.reduceLT, Nat.reduceLeDiff, reduceCtorEq, eq_self, K.isEff, List.reduceReplicate]
  refine wpC_loop_gc [0, 2, 3, 4, 5, 15] [0, 1] (fun m s => ∃ (i : Nat) (ns : List Int) (at_ : Int), m + i = 5 ∧ ns.length = i ∧ 1 ≤ at_ ∧ at_ ≤ b.length ∧ (∀ x ∈ ns, 0 ≤ x ∧ x < 2 ^ 63) ∧ R = (rdNums b m at_).map (fun x => (ns ++ x.1, x.2)) ∧
      s = ⟨[(0, .t (.lst 1 tight (B b))), (2, .ref 0 0), (3, .t (.bool false)), (4, .ref 1 0), (5, .t (.int .i64 at_)), (15, .t (.int .i64 i))],
        [.box [V.t (.int .i64 0), V.t (.int .i64 0), V.t (.int .i64 0), V.t (.int .i64 0), V.t (.int .i64 0), V.t (.lst 0 true [])], .box (ns.map (fun v => V.t (.int .i64 v)) ++ List.replicate (5 - i) (V.t (.int .i64 0)))]⟩) 5
    ⟨by simp [gcSt, keepOk, finG, resV, resOne, resAll, idx, V.ren, V.renL, Obj.ren, get_cons, get_nil, RTree, RTup, RRow], 0, [], 1, by omega, rfl, by omega, by omega, (fun x h => by cases h), by simp [← hR], by simp [gcSt, keepOk, finG, resV, resOne, resAll, idx, V.ren, V.renL, Obj.ren, get_cons, get_nil, RTree, RTup, RRow]⟩ ?_
  rintro m s ⟨i, ns, at_, hm, hns, ha1, ha2, hn0, hrd, rfl⟩
  by_cases hi : i < 5
  · have hi' : (i : Int) < 5 := by omega
    obtain ⟨m, rfl⟩ : ∃ m', m = m' + 1 := ⟨m - 1, by omega⟩
    obtain ⟨hv, hn, hp⟩ := readAt_bounds (last := 8) (mx := 127) (by decide) hb (at_ := at_)
    change (readAt 8 127 b at_).1 < (127 + 1) * 128 ^ 8 at hv
    change (readAt 8 127 b at_).2.2 = 0 → 0 ≤ at_ ∧ at_ < (readAt 8 127 b at_).2.1 ∧ (readAt 8 127 b at_).2.1 ≤ b.length at hn
    change 0 ≤ (readAt 8 127 b at_).2.1 at hp
    have c := Uint_sc b hb hl tight at_ (by omega)
    rw [uintAt] at c
    have h8 : (127 + 1) * 128 ^ 8 = 2 ^ 63 := by decide
    simp only [rdNums] at hrd
    generalize readAt 8 127 b at_ = q at *
    obtain ⟨v, n, e⟩ := q
    simp only at hv hn hp hrd c
    have hput := put_nums (x := v) hns hi
    simp (maxSteps := 4000000) -implicitDefEqProofs (disch := omega) only [hi', ↓sxPre, sxPost, sxLib, if_true, if_false, Nat.reduceEqDiff, ↓reduceIte, Nat.reduceAdd, Nat.reduceSub, Nat.reduceMul, Nat.reduceLT, Nat.reduceLeDiff, reduceCtorEq, eq_self, K.isEff, List.reduceReplicate]
    refine step_tup c rfl ?_
    simp (maxSteps := 4000000) -implicitDefEqProofs (disch := omega) only [List.getD_cons_zero, List.getD_cons_succ, ↓sxPre, sxPost, sxLib, if_true, if_false, Nat.reduceEqDiff, ↓reduceIte, Nat.reduceAdd, Nat.reduceSub, Nat.reduceMul, Nat.reduceLT, Nat.reduceLeDiff, reduceCtorEq, eq_self, K.isEff, List.reduceReplicate]
    refine condV_ndec (fun he => ?_) fun he => ?_
    · rw [if_pos he] at hrd
      rw [hrd]
      simp (maxSteps := 4000000) -implicitDefEqProofs (disch := omega) only [stepK_build', fillV_nil, kstore_ref, putAt_zero, ↓sxPre, sxPost, sxLib, if_true, if_false, Nat.reduceEqDiff, ↓reduceIte, Nat.reduceAdd, Nat.reduceSub, Nat.reduceMul, Nat.reduceLT, Nat.reduceLeDiff, reduceCtorEq, eq_self, K.isEff, List.reduceReplicate]
      exact fin_nil (q := ⟨0, 0, 0, 0, 0, []⟩) rfl rfl rfl ⟨_, _, rfl, .inl ⟨rfl, rfl, rfl⟩, fun p h => by cases h⟩
    · rw [if_neg (by simpa using he)] at hrd
      have hne := hn he
      simp (maxSteps := 4000000) -implicitDefEqProofs (disch := omega) only [kstore_ref, hput, Int.toNat_natCast, ↓sxPre, sxPost, sxLib, if_true, if_false, Nat.reduceEqDiff, ↓reduceIte, Nat.reduceAdd, Nat.reduceSub, Nat.reduceMul, Nat.reduceLT, Nat.reduceLeDiff, reduceCtorEq, eq_self, K.isEff, List.reduceReplicate]
      refine ⟨⟨by omega, by omega⟩, by omega, m, by omega, by simp [gcSt, keepOk, finG, resV, resOne, resAll, idx, V.ren, V.renL, Obj.ren, get_cons, get_nil, RTree, RTup, RRow], i + 1, ns ++ [(v : Int)], n, by omega, by simp [hns], by omega, by omega, ?_, ?_, ?_⟩
      · intro x hx
        rcases List.mem_append.1 hx with h | h
        · exact hn0 x h
        · simp at h; omega
      · rw [hrd]
        cases rdNums b m n with
        | none => rfl
        | some z => simp
      · simp [renL_nums, gcSt, keepOk, finG, resV, resOne, resAll, idx, V.ren, V.renL, Obj.ren, get_cons, get_nil, RTree, RTup, RRow]
  · have hi' : ¬ (i : Int) < 5 := by omega
    obtain rfl : m = 0 := by omega
    obtain rfl : i = 5 := by omega
    simp only [rdNums, Option.map_some, List.append_nil] at hrd
    match ns, hns with
    | [n0, n1, n2, n3, n4], _ =>
      have hb00 := at_B' hb0
      have hbw := hb _ (List.getElem_mem hb0)
      have e1 : ((B b).take b.length).drop at_.toNat = B (b.drop at_.toNat) := by rw [List.take_of_length_le (by simp [B])]; simp [B]
      have hdl : (b.drop at_.toNat).length ≤ 2 ^ 40 := by simp; omega
      have hhd : b.headD 0 = b[0] := by cases b with
        | nil => simp at hb0
        | cons x b => rfl
      have hmk : mkPk b [n0, n1, n2, n3, n4] at_ = ⟨b[0], n0, n1, n2, n3, b.drop at_.toNat⟩ := by rw [mkPk, hhd]; rfl
      simp only [hrd]
      rw [hmk]
      have h4 : [n0, n1, n2, n3, n4].getD 4 0 = n4 := rfl
      rw [h4]
      simp only []
      have bd : Bytes (b.drop at_.toNat) := fun x hx => hb x (List.mem_of_mem_drop hx)
      generalize b.drop at_.toNat = D at *
      generalize b[0] = b0 at *
      by_cases hn4 : n4 = (D.length : Int)
      · have g4 : decide (n4 = (D.length : Int)) = true := decide_eq_true hn4
        have cR := Right_sc ⟨b0, n0, n1, n2, n3, D⟩ (by simp only; omega) 1 false
        simp only [Pk.cells] at cR
        by_cases hr : Pk.right ⟨b0, n0, n1, n2, n3, D⟩ = true
        · rw [if_pos ⟨hn4, hr⟩]
          rw [hr] at cR
          simp (maxSteps := 4000000) -implicitDefEqProofs (disch := omega) only [hi', g4, B_length, hb00, at_zero, Int.toNat_natCast, Int.reduceToNat, e1, elems_lst', kappend_nil, stepK_build', fillV, putAt_zero, putAt_succ, kstore_ref, ↓sxPre, sxPost, sxLib, if_true, if_false, Nat.reduceEqDiff, ↓reduceIte, Nat.reduceAdd, Nat.reduceSub, Nat.reduceMul, Nat.reduceLT, Nat.reduceLeDiff, reduceCtorEq, eq_self, K.isEff, List.reduceReplicate]
          refine ⟨by omega, by omega, by omega, by omega, by omega, by omega, ⟨by omega, by omega, by omega, by omega, ?_⟩, by omega, by omega, by omega, by omega, ?_⟩
          · refine step_eff (step_guard rfl (fun _ => step_tree (x := .bool true) ?_ rfl ?_) (fun h => absurd rfl h))
            · simpa [Abs.view, viewL, rowOf, Abs.get, ev, B_take] using cR
            simp (maxSteps := 4000000) -implicitDefEqProofs (disch := omega) only [kstore_ref, putAt_zero, ↓sxPre, sxPost, sxLib, if_true, if_false, Nat.reduceEqDiff, ↓reduceIte, Nat.reduceAdd, Nat.reduceSub, Nat.reduceMul, Nat.reduceLT, Nat.reduceLeDiff, reduceCtorEq, eq_self, K.isEff, List.reduceReplicate]
            exact fin_new (rid := 2) (q := ⟨b0, n0, n1, n2, n3, D⟩) rfl rfl rfl rfl ⟨⟨b0, n0, n1, n2, n3, D⟩, _, rfl, .inr ⟨_, rfl, rfl⟩, fun p h => by cases h; rfl⟩
          · refine step_eff (step_guard rfl (fun _ => step_tree (x := .bool true) ?_ rfl ?_) (fun h => absurd rfl h))
            · simpa [Abs.view, viewL, rowOf, Abs.get, ev, B_take] using cR
            simp (maxSteps := 4000000) -implicitDefEqProofs (disch := omega) only [kstore_ref, putAt_zero, ↓sxPre, sxPost, sxLib, if_true, if_false, Nat.reduceEqDiff, ↓reduceIte, Nat.reduceAdd, Nat.reduceSub, Nat.reduceMul, Nat.reduceLT, Nat.reduceLeDiff, reduceCtorEq, eq_self, K.isEff, List.reduceReplicate]
            exact fin_new (rid := 3) (q := ⟨b0, n0, n1, n2, n3, D⟩) rfl rfl rfl rfl ⟨⟨b0, n0, n1, n2, n3, D⟩, _, rfl, .inr ⟨_, rfl, rfl⟩, fun p h => by cases h; rfl⟩
        · rw [if_neg (by rintro ⟨_, h⟩; exact hr h)]
          rw [Bool.eq_false_iff.2 hr] at cR
          simp (maxSteps := 4000000) -implicitDefEqProofs (disch := omega) only [hi', g4, B_length, hb00, at_zero, Int.toNat_natCast, Int.reduceToNat, e1, elems_lst', kappend_nil, stepK_build', fillV, putAt_zero, putAt_succ, kstore_ref, ↓sxPre, sxPost, sxLib, if_true, if_false, Nat.reduceEqDiff, ↓reduceIte, Nat.reduceAdd, Nat.reduceSub, Nat.reduceMul, Nat.reduceLT, Nat.reduceLeDiff, reduceCtorEq, eq_self, K.isEff, List.reduceReplicate]
          refine ⟨by omega, by omega, by omega, by omega, by omega, by omega, ⟨by omega, by omega, by omega, by omega, ?_⟩, by omega, by omega, by omega, by omega, ?_⟩
          · refine step_eff (step_guard rfl (fun _ => step_tree (x := .bool false) ?_ rfl ?_) (fun h => absurd rfl h))
            · simpa [Abs.view, viewL, rowOf, Abs.get, ev, B_take] using cR
            simp (maxSteps := 4000000) -implicitDefEqProofs (disch := omega) only [kstore_ref, putAt_zero, ↓sxPre, sxPost, sxLib, if_true, if_false, Nat.reduceEqDiff, ↓reduceIte, Nat.reduceAdd, Nat.reduceSub, Nat.reduceMul, Nat.reduceLT, Nat.reduceLeDiff, reduceCtorEq, eq_self, K.isEff, List.reduceReplicate]
            exact fin_new (rid := 2) (q := ⟨b0, n0, n1, n2, n3, D⟩) rfl rfl rfl rfl ⟨⟨b0, n0, n1, n2, n3, D⟩, _, rfl, .inr ⟨_, rfl, rfl⟩, fun p h => by cases h⟩
          · refine step_eff (step_guard rfl (fun _ => step_tree (x := .bool false) ?_ rfl ?_) (fun h => absurd rfl h))
            · simpa [Abs.view, viewL, rowOf, Abs.get, ev, B_take] using cR
            simp (maxSteps := 4000000) -implicitDefEqProofs (disch := omega) only [kstore_ref, putAt_zero, ↓sxPre, sxPost, sxLib, if_true, if_false, Nat.reduceEqDiff, ↓reduceIte, Nat.reduceAdd, Nat.reduceSub, Nat.reduceMul, Nat.reduceLT, Nat.reduceLeDiff, reduceCtorEq, eq_self, K.isEff, List.reduceReplicate]
            exact fin_new (rid := 3) (q := ⟨b0, n0, n1, n2, n3, D⟩) rfl rfl rfl rfl ⟨⟨b0, n0, n1, n2, n3, D⟩, _, rfl, .inr ⟨_, rfl, rfl⟩, fun p h => by cases h⟩
      · have g4 : decide (n4 = (D.length : Int)) = false := decide_eq_false hn4
        rw [if_neg (by rintro ⟨h, _⟩; exact hn4 h)]
        simp (maxSteps := 4000000) -implicitDefEqProofs (disch := omega) only [hi', g4, B_length, hb00, at_zero, Int.toNat_natCast, Int.reduceToNat, e1, elems_lst', kappend_nil, stepK_build', fillV, putAt_zero, putAt_succ, kstore_ref, ↓sxPre, sxPost, sxLib, if_true, if_false, Nat.reduceEqDiff, ↓reduceIte, Nat.reduceAdd, Nat.reduceSub, Nat.reduceMul, Nat.reduceLT, Nat.reduceLeDiff, reduceCtorEq, eq_self, K.isEff, List.reduceReplicate]
        refine ⟨by omega, by omega, by omega, by omega, by omega, by omega, ⟨by omega, by omega, by omega, by omega, ?_⟩, by omega, by omega, by omega, by omega, ?_⟩
        all_goals
          refine step_eff (step_guard rfl (fun h => absurd h (by decide)) (fun _ => ?_))
          simp (maxSteps := 4000000) -implicitDefEqProofs (disch := omega) only [kstore_ref, putAt_zero, ↓sxPre, sxPost, sxLib, if_true, if_false, Nat.reduceEqDiff, ↓reduceIte, Nat.reduceAdd, Nat.reduceSub, Nat.reduceMul, Nat.reduceLT, Nat.reduceLeDiff, reduceCtorEq, eq_self, K.isEff, List.reduceReplicate]
        · exact fin_new (rid := 2) (q := ⟨b0, n0, n1, n2, n3, D⟩) rfl rfl rfl rfl ⟨⟨b0, n0, n1, n2, n3, D⟩, _, rfl, .inr ⟨_, rfl, rfl⟩, fun p h => by cases h⟩
        · exact fin_new (rid := 3) (q := ⟨b0, n0, n1, n2, n3, D⟩) rfl rfl rfl rfl ⟨⟨b0, n0, n1, n2, n3, D⟩, _, rfl, .inr ⟨_, rfl, rfl⟩, fun p h => by cases h⟩
end Go.Proofs.Ytbpclinijbgchaa
