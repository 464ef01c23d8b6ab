/- Messages: exactly, done and DecodeCommand. By the session itself. -/
import Derived.Test.YtljjabccgbakgaaMsg2
namespace Go.Proofs.Ytljjabccgbakgaa
open Go Go.Abs
set_option maxRecDepth 100000
set_option maxHeartbeats 4000000
set_option linter.unusedSimpArgs false
set_option linter.unusedVariables false

def rdExact (b : List Int) (n : Nat) (s : RS) : List Int × RS := if (rdInts b n s).1.length = n then rdInts b n s else (List.replicate n 0, ((rdInts b n s).2.1, true))
/-- A list in new memory, and the reader has moved. -/
def RNew (b : List Int) (x : List Int × RS) (r : V) (F : Heap) : Prop := ∃ g, r = .sl 1 0 x.1.length g 1 ∧ F = [rbox b x.2, .row 1 g (Ns x.1)]

theorem rdExact_ok {b : List Int} (hb : Bytes b) (n : Nat) {s : RS} (h : SOk b s) : SOk b (rdExact b n s).2 ∧ I64s (rdExact b n s).1 ∧ (rdExact b n s).1.length = n := by
  obtain ⟨h1, h2, h3⟩ := rdInts_ok hb n h
  unfold rdExact
  split
  · rename_i e; exact ⟨h1, h2, e⟩
  · refine ⟨h1, fun x hx => ?_, by simp⟩
    rw [List.eq_of_mem_replicate hx]; omega

/-- A call of a reader's list. -/
theorem step_ints {P : Program} {f : FuncId} {H : Heap} {K : St → Prop} {vs : List (Nat × V)} {r : List Ins} {d : Nat} {xs : List Opnd} {b : List Int} {x : List Int × RS} (id : Nat) (hid : id < H.length)
    (h : SCall P f ((xs.map (ev vs)).map (V.ren (idx [id]))) (sub H [id]) (RInts b x))
    (h1 : x.1 = [] → wpR (SCall P) r K ⟨(d, .t (.lst 0 true [])) :: vs, H.set id (rbox b x.2)⟩)
    (h2 : ∀ g, wpR (SCall P) r K ⟨(d, .sl H.length 0 x.1.length g 1) :: vs, H.set id (rbox b x.2) ++ [.row 1 g (Ns x.1)]⟩) : wpR (SCall P) (⟨some d, none, .call f xs⟩ :: r) K ⟨vs, H⟩ := by
  refine step_call (call_frame [id] (by simp) (by simpa using hid) h ?_)
  rintro r F (⟨rfl, h0, rfl⟩ | ⟨g, rfl, rfl⟩)
  · simpa [merge, setAll, V.ren, Obj.ren, rbox, V.renL] using h1 h0
  · simpa [merge, setAll, V.ren, Obj.ren, rbox, V.renL, tau] using h2 g

theorem step_new {P : Program} {f : FuncId} {H : Heap} {K : St → Prop} {vs : List (Nat × V)} {r : List Ins} {d : Nat} {xs : List Opnd} {b : List Int} {x : List Int × RS} (id : Nat) (hid : id < H.length)
    (h : SCall P f ((xs.map (ev vs)).map (V.ren (idx [id]))) (sub H [id]) (RNew b x))
    (h2 : ∀ g, wpR (SCall P) r K ⟨(d, .sl H.length 0 x.1.length g 1) :: vs, H.set id (rbox b x.2) ++ [.row 1 g (Ns x.1)]⟩) : wpR (SCall P) (⟨some d, none, .call f xs⟩ :: r) K ⟨vs, H⟩ := by
  refine step_call (call_frame [id] (by simp) (by simpa using hid) h ?_)
  rintro r F ⟨g, rfl, rfl⟩
  simpa [merge, setAll, V.ren, Obj.ren, rbox, V.renL, tau] using h2 g

theorem exactly_sc (b : List Int) (hb : Bytes b) (hl : b.length ≤ 2 ^ 40) (s : RS) (hs : SOk b s) (n : Nat) (hn : 0 < n ∧ n ≤ 2 ^ 20) :
    SCall PP N.message_reader_exactly [.ref 0 0, .t (.int .i64 n)] [rbox b s] (RNew b (rdExact b n s)) := by
  refine message_reader_exactly.intro (by simp) ?_
  have c := ints_sc b hb hl s hs n (by omega)
  have hlen := (rdInts_ok hb n hs).2.2
  unfold rdExact
  generalize rdInts b n s = x at *
  obtain ⟨l, at_, bad⟩ := x
  simp only at hlen ⊢
  have c' : SCall PP N.message_reader_ints (([Opnd.tmp 6, Opnd.tmp 7].map (ev [(7, .t (.int .i64 n)), (6, .ref 0 0), (4, .t (.lst 0 true [])), (0, .ref 0 0), (1, .t (.int .i64 n))])).map (V.ren (idx [0]))) (sub [rbox b s] [0]) (RInts b (l, at_, bad)) := by
    simpa [V.ren, V.renL, idx, Abs.get, ev, sub, rbox, Obj.ren] using c
  simp (maxSteps := 4000000) -implicitDefEqProofs (disch := omega) only [↓sxPre, sxPost, sxLib, if_true, if_false, Nat.reduceEqDiff, ↓reduceIte, Nat.reduceAdd, Nat.reduceSub, Nat.reduceMul, Nat.reduceLT, Nat.reduceLeDiff, reduceCtorEq, eq_self, K.isEff, List.reduceReplicate]
  refine step_ints (b := b) (x := (l, at_, bad)) 0 (by simp) c' (fun h0 => ?_) (fun g => ?_)
  · simp only at h0
    subst h0
    have gl : decide ((0 : Int) = n) = false := decide_eq_false (by omega)
    rw [if_neg (by simp; omega)]
    unfold rbox
    simp (maxSteps := 4000000) -implicitDefEqProofs (disch := omega) only [gl, kstore_ref, putAt_zero, putAt_succ, Int.cast_ofNat_Int, Int.toNat_natCast, ↓sxPre, sxPost, sxLib, if_true, if_false, Nat.reduceEqDiff, ↓reduceIte, Nat.reduceAdd, Nat.reduceSub, Nat.reduceMul, Nat.reduceLT, Nat.reduceLeDiff, reduceCtorEq, eq_self, K.isEff, List.reduceReplicate]
    refine ⟨⟨by omega, by omega, by omega, by omega⟩, finK_gc [0, 1] ?_⟩
    simp [RNew, rbox, Ns, gcSt, keepOk, finG, resV, resOne, resAll, idx, V.ren, V.renL, Obj.ren, get_cons, get_nil, RTree, RTup, RRow]
  · by_cases hln : l.length = n
    · have gl : decide ((l.length : Int) = n) = true := decide_eq_true (by omega)
      rw [if_pos hln]
      unfold rbox
      simp (maxSteps := 4000000) -implicitDefEqProofs (disch := omega) only [gl, ↓sxPre, sxPost, sxLib, if_true, if_false, Nat.reduceEqDiff, ↓reduceIte, Nat.reduceAdd, Nat.reduceSub, Nat.reduceMul, Nat.reduceLT, Nat.reduceLeDiff, reduceCtorEq, eq_self, K.isEff, List.reduceReplicate]
      refine finK_gc [0, 1] ?_
      simp [RNew, rbox, gcSt, keepOk, finG, resV, resOne, resAll, idx, V.ren, V.renL, Obj.ren, get_cons, get_nil, RTree, RTup, RRow]
    · have gl : decide ((l.length : Int) = n) = false := decide_eq_false (by omega)
      rw [if_neg hln]
      unfold rbox
      simp (maxSteps := 4000000) -implicitDefEqProofs (disch := omega) only [gl, kstore_ref, putAt_zero, putAt_succ, Int.toNat_natCast, ↓sxPre, sxPost, sxLib, if_true, if_false, Nat.reduceEqDiff, ↓reduceIte, Nat.reduceAdd, Nat.reduceSub, Nat.reduceMul, Nat.reduceLT, Nat.reduceLeDiff, reduceCtorEq, eq_self, K.isEff, List.reduceReplicate]
      refine ⟨⟨by omega, by omega, by omega, by omega⟩, finK_gc [0, 2] ?_⟩
      simp [RNew, rbox, Ns, gcSt, keepOk, finG, resV, resOne, resAll, idx, V.ren, V.renL, Obj.ren, get_cons, get_nil, RTree, RTup, RRow]

def RDone (b : List Int) (s : RS) (r : V) (F : Heap) : Prop := r = .t (.bool (!s.2 && decide (s.1 = b.length))) ∧ F = [rbox b s]

theorem done_sc (b : List Int) (s : RS) : SCall PP N.message_reader_done [.ref 0 0] [rbox b s] (RDone b s) := by
  refine message_reader_done.intro (by simp) ?_
  obtain ⟨at_, bad⟩ := s
  unfold rbox
  cases bad with
  | true =>
    simp (maxSteps := 4000000) -implicitDefEqProofs (disch := omega) only [B_length, ↓sxPre, sxPost, sxLib, if_true, if_false, Nat.reduceEqDiff, ↓reduceIte, Nat.reduceAdd, Nat.reduceSub, Nat.reduceMul, Nat.reduceLT, Nat.reduceLeDiff, reduceCtorEq, eq_self, K.isEff, List.reduceReplicate]
    refine finK_gc [0] ?_
    simp [RDone, rbox, gcSt, keepOk, finG, resV, resOne, resAll, idx, V.ren, V.renL, Obj.ren, get_cons, get_nil, RTree, RTup, RRow]
  | false =>
    simp (maxSteps := 4000000) -implicitDefEqProofs (disch := omega) only [B_length, ↓sxPre, sxPost, sxLib, if_true, if_false, Nat.reduceEqDiff, ↓reduceIte, Nat.reduceAdd, Nat.reduceSub, Nat.reduceMul, Nat.reduceLT, Nat.reduceLeDiff, reduceCtorEq, eq_self, K.isEff, List.reduceReplicate]
    refine finK_gc [0] ?_
    simp [RDone, rbox, gcSt, keepOk, finG, resV, resOne, resAll, idx, V.ren, V.renL, Obj.ren, get_cons, get_nil, RTree, RTup, RRow]

/-- A command. -/
structure Cm where
  kind : Int
  thread : Int
  addr : Int
  n : Int
  words : List Int
  deriving DecidableEq
def zeroCm : Cm := ⟨0, 0, 0, 0, []⟩
def Cm.vals (q : Cm) (x : V) : List V := [.t (.int .i64 q.kind), .t (.int .i64 q.thread), .t (.int .i64 q.addr), .t (.int .i64 q.n), x]
def decC (b : List Int) : Cm × Int :=
  if (rdInts b 128 (rdExact b 4 (0, false)).2).2.2 = false ∧ (rdInts b 128 (rdExact b 4 (0, false)).2).2.1 = b.length then
    (⟨(rdExact b 4 (0, false)).1.getD 0 0, (rdExact b 4 (0, false)).1.getD 1 0, (rdExact b 4 (0, false)).1.getD 2 0, (rdExact b 4 (0, false)).1.getD 3 0, (rdInts b 128 (rdExact b 4 (0, false)).2).1⟩, 0)
  else (zeroCm, 4)
/-- A list of numbers: nothing, or new memory. -/
def RWords (l : List Int) (x : V) (H : Heap) : Prop := (x = .t (.lst 0 true []) ∧ l = [] ∧ H = []) ∨ ∃ g, x = .sl 0 0 l.length g 1 ∧ H = [.row 1 g (Ns l)]
def RDecC (d : Cm × Int) (r : V) (H : Heap) : Prop := ∃ x, r = .tup [.agg (d.1.vals x), .t (.int .i64 d.2)] ∧ RWords d.1.words x H

theorem step_done {P : Program} {f : FuncId} {H : Heap} {K : St → Prop} {vs : List (Nat × V)} {r : List Ins} {d : Nat} {xs : List Opnd} {b : List Int} {s : RS} (id : Nat) (hid : id < H.length) (hg : H[id]? = some (rbox b s))
    (h : SCall P f ((xs.map (ev vs)).map (V.ren (idx [id]))) (sub H [id]) (RDone b s)) (hk : wpR (SCall P) r K ⟨(d, .t (.bool (!s.2 && decide (s.1 = b.length)))) :: vs, H⟩) : wpR (SCall P) (⟨some d, none, .call f xs⟩ :: r) K ⟨vs, H⟩ := by
  refine step_call (call_frame [id] (by simp) (by simpa using hid) h ?_)
  rintro r F ⟨rfl, rfl⟩
  have e : H.set id (rbox b s) = H := by
    refine List.ext_getElem? fun i => ?_
    rw [List.getElem?_set]
    split
    · rename_i h; subst h; exact hg.symm
    · rfl
  have : merge H [id] [rbox b s] = H := by
    rw [← e]
    simp [merge, setAll, V.ren, Obj.ren, rbox, V.renL]
  rw [this]
  exact hk

theorem fin_nilC {slot id u : Nat} {q : Cm} {y : T} {s : St} {Q : V → Heap → Prop} (h1 : get s.vs slot = .ref id 0) (h2 : s.h[id]? = some (.box (q.vals (.t (.lst 0 true []))))) (h3 : get s.vs u = .t y)
    (hQ : Q (.tup [.agg (q.vals (.t (.lst 0 true []))), .t y]) []) : finK 0 [.cell slot 5 false, .tmp u] Q s := by
  refine finK_gc [] ⟨by simp [keepOk], ?_⟩
  simp only [resV, resAll, resOne, h1, h3, kloadN_ref, h2]
  refine ⟨by simp [Cm.vals], ?_⟩
  simpa [V.ren, V.renL, Cm.vals] using hQ

theorem fin_newC {slot id u rid g : Nat} {q : Cm} {y : T} {s : St} {Q : V → Heap → Prop} (h1 : get s.vs slot = .ref id 0) (h2 : s.h[id]? = some (.box (q.vals (.sl rid 0 q.words.length g 1)))) (h3 : get s.vs u = .t y)
    (h4 : s.h[rid]? = some (.row 1 g (Ns q.words))) (hQ : Q (.tup [.agg (q.vals (.sl 0 0 q.words.length g 1)), .t y]) [.row 1 g (Ns q.words)]) : finK 0 [.cell slot 5 false, .tmp u] Q s := by
  have hlt : rid < s.h.length := (List.getElem?_eq_some_iff.1 h4).1
  refine finK_gc [rid] ⟨by simp [keepOk, hlt], ?_⟩
  simp only [resV, resAll, resOne, h1, h3, kloadN_ref, h2]
  refine ⟨by simp [Cm.vals], ?_⟩
  simpa [V.ren, V.renL, Cm.vals, idx, h4, Obj.ren] using hQ

theorem DecodeCommand_sc (b : List Int) (hb : Bytes b) (hl : b.length ≤ 2 ^ 40) : SCall PP N.message_DecodeCommand [.t (.lst 1 false (B b))] [] (RDecC (decC b)) := by
  refine message_DecodeCommand.intro (by simp) ?_
  have h0 : SOk b (0, false) := ⟨by simp, by simp⟩
  have c1 := exactly_sc b hb hl (0, false) h0 4 (by decide)
  obtain ⟨k1, k2, k3⟩ := rdExact_ok hb 4 h0
  have c2 := ints_sc b hb hl (rdExact b 4 (0, false)).2 k1 128 (by decide)
  unfold decC
  generalize rdExact b 4 (0, false) = x at *
  obtain ⟨l, s1⟩ := x
  simp only at k1 k2 k3 c2 ⊢
  generalize rdInts b 128 s1 = z at *
  obtain ⟨y, s2⟩ := z
  simp only at c2 ⊢
  match l, k3 with
  | [l0, l1, l2, l3], _ =>
  have cd := done_sc b s2
  obtain ⟨D, hD⟩ : ∃ D, D = if s2.2 = false ∧ s2.1 = (b.length : Int) then (⟨[l0, l1, l2, l3].getD 0 0, [l0, l1, l2, l3].getD 1 0, [l0, l1, l2, l3].getD 2 0, [l0, l1, l2, l3].getD 3 0, y⟩, 0) else ((zeroCm, 4) : Cm × Int) := ⟨_, rfl⟩
  rw [← hD]
  simp only [List.getD_cons_zero, List.getD_cons_succ] at hD
  have c1' : SCall PP N.message_reader_exactly [.ref 0 0, .t (.int .i64 4)] [rbox b (0, false)] (RNew b ([l0, l1, l2, l3], s1)) := c1
  simp (maxSteps := 4000000) -implicitDefEqProofs (disch := omega) only [stepK_build', fillV, putAt_zero, putAt_succ, ↓sxPre, sxPost, sxLib, if_true, if_false, Nat.reduceEqDiff, ↓reduceIte, Nat.reduceAdd, Nat.reduceSub, Nat.reduceMul, Nat.reduceLT, Nat.reduceLeDiff, reduceCtorEq, eq_self, K.isEff, List.reduceReplicate]
  refine step_new (b := b) (x := ([l0, l1, l2, l3], s1)) 1 (by simp) ?_ (fun g => ?_)
  · simpa [V.ren, V.renL, idx, Abs.get, ev, sub, rbox, Obj.ren] using c1'
  have a0 := at_Ns (l := [l0, l1, l2, l3]) (i := 0) (by simp)
  have a1 := at_Ns (l := [l0, l1, l2, l3]) (i := 1) (by simp)
  have a2 := at_Ns (l := [l0, l1, l2, l3]) (i := 2) (by simp)
  have a3 := at_Ns (l := [l0, l1, l2, l3]) (i := 3) (by simp)
  simp only [List.getElem_cons_zero, List.getElem_cons_succ] at a0 a1 a2 a3
  obtain ⟨X, hX⟩ : ∃ X, X = Ns [l0, l1, l2, l3] := ⟨_, rfl⟩
  rw [← hX] at a0 a1 a2 a3
  simp only [← hX]
  simp (maxSteps := 4000000) -implicitDefEqProofs (disch := omega) only [kload1_elt, Int.reduceToNat, a0, a1, a2, a3, at_zero, ↓sxPre, sxPost, sxLib, if_true, if_false, Nat.reduceEqDiff, ↓reduceIte, Nat.reduceAdd, Nat.reduceSub, Nat.reduceMul, Nat.reduceLT, Nat.reduceLeDiff, reduceCtorEq, eq_self, K.isEff, List.reduceReplicate]
  refine ⟨by omega, by omega, by omega, by omega, ?_, by omega, by omega, by omega, by omega, ?_⟩
  all_goals
    refine step_eff (step_ints (b := b) (x := (y, s2)) 1 (by simp) ?_ (fun hy => ?_) (fun g2 => ?_))
    · simpa [V.ren, V.renL, idx, Abs.get, ev, sub, rbox, Obj.ren] using c2
    all_goals
      simp (maxSteps := 4000000) -implicitDefEqProofs (disch := omega) only [kload1_elt, Int.reduceToNat, a0, a1, a2, a3, at_zero, stepK_build', fillV, putAt_zero, putAt_succ, kstore_ref, ↓sxPre, sxPost, sxLib, if_true, if_false, Nat.reduceEqDiff, ↓reduceIte, Nat.reduceAdd, Nat.reduceSub, Nat.reduceMul, Nat.reduceLT, Nat.reduceLeDiff, reduceCtorEq, eq_self, K.isEff, List.reduceReplicate]
      repeat refine ⟨by omega, ?_⟩
      refine step_done (b := b) (s := s2) 1 (by first | decide | simp) rfl ?_ ?_
      · simpa [V.ren, V.renL, idx, Abs.get, ev, sub, rbox, Obj.ren] using cd
      obtain ⟨sa, sbad⟩ := s2
      by_cases hok : sbad = false ∧ sa = (b.length : Int)
      · obtain ⟨rfl, rfl⟩ := hok
        rw [if_pos ⟨rfl, rfl⟩] at hD
        rw [hD]
        simp (maxSteps := 4000000) -implicitDefEqProofs (disch := omega) only [kstore_ref, putAt_zero, putAt_succ, ↓sxPre, sxPost, sxLib, if_true, if_false, Nat.reduceEqDiff, ↓reduceIte, Nat.reduceAdd, Nat.reduceSub, Nat.reduceMul, Nat.reduceLT, Nat.reduceLeDiff, reduceCtorEq, eq_self, K.isEff, List.reduceReplicate]
        first
          | exact fin_newC (rid := 3) (q := ⟨l0, l1, l2, l3, y⟩) rfl rfl rfl rfl ⟨_, rfl, .inr ⟨_, rfl, rfl⟩⟩
          | exact fin_newC (rid := 4) (q := ⟨l0, l1, l2, l3, y⟩) rfl rfl rfl rfl ⟨_, rfl, .inr ⟨_, rfl, rfl⟩⟩
          | exact fin_nilC (q := ⟨l0, l1, l2, l3, y⟩) rfl rfl rfl ⟨_, rfl, .inl ⟨rfl, hy, rfl⟩⟩
      · rw [if_neg hok] at hD
        rw [hD]
        have hv : (!((sa, sbad) : RS).2 && decide (((sa, sbad) : RS).1 = (b.length : Int))) = false := by
          cases sbad with
          | true => rfl
          | false =>
            have : ¬ sa = (b.length : Int) := fun h => hok ⟨rfl, h⟩
            simp [this]
        rw [hv]
        simp (maxSteps := 4000000) -implicitDefEqProofs (disch := omega) only [stepK_build', fillV_nil, kstore_ref, putAt_zero, putAt_succ, ↓sxPre, sxPost, sxLib, if_true, if_false, Nat.reduceEqDiff, ↓reduceIte, Nat.reduceAdd, Nat.reduceSub, Nat.reduceMul, Nat.reduceLT, Nat.reduceLeDiff, reduceCtorEq, eq_self, K.isEff, List.reduceReplicate]
        exact fin_nilC (q := zeroCm) rfl rfl rfl ⟨_, rfl, .inl ⟨rfl, rfl, rfl⟩⟩
end Go.Proofs.Ytljjabccgbakgaa
