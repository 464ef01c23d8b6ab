/- Messages: threads are written. By the session itself. -/
import Derived.Test.YtljjabccgbakgaaMsg6
namespace Go.Proofs.Ytljjabccgbakgaa
open Go Go.Abs
set_option maxRecDepth 100000
set_option maxHeartbeats 4000000
set_option linter.unusedSimpArgs false
set_option linter.unusedVariables false

/-- The state of a thread. -/
structure Th where
  st : Int
  fn : Int
  pc : Int
  r : List Int
  args : List Int
  deriving DecidableEq
def Th.cells (q : Th) (sz : Nat) (t : Bool) : List T := .int .i64 q.st :: (Ns q.r ++ [.int .i64 q.pc, .int .i64 q.fn, .lst sz t (Ns q.args)])
def Th.Ok (q : Th) : Prop := I64 q.st ∧ I64 q.fn ∧ I64 q.pc ∧ q.r.length = 16 ∧ I64s q.r ∧ I64s q.args ∧ q.args.length < 2 ^ 63
def Th.head (q : Th) : List Int := q.st :: q.fn :: q.pc :: q.r
def Th.enc (q : Th) : List Int := enI q.head ++ enI q.args

theorem Th.head_ok {q : Th} (h : q.Ok) : I64s q.head := by
  obtain ⟨h1, h2, h3, _, h5, _⟩ := h
  intro x hx
  simp only [Th.head, List.mem_cons] at hx
  rcases hx with rfl | rfl | rfl | hx
  · exact h1
  · exact h2
  · exact h3
  · exact h5 x hx
theorem Th.head_len {q : Th} (h : q.Ok) : q.head.length = 19 := by simp [Th.head, h.2.2.2.1]

theorem onlyT_map : ∀ xs : List T, onlyT (xs.map V.t) = some xs
  | [] => rfl
  | x :: xs => by simp [onlyT, onlyT_map xs]

/-- What a walk wants to know of a thread's cells. -/
theorem Th.facts {q : Th} (h : q.Ok) (sz : Nat) (t : Bool) (C : List V) (hC : C = (q.cells sz t).map V.t) :
    C.length = 20 ∧ C.all V.one = true ∧ C.getD 0 .undef = .t (.int .i64 q.st) ∧ C.getD 17 .undef = .t (.int .i64 q.pc) ∧ C.getD 18 .undef = .t (.int .i64 q.fn) ∧ C.getD 19 .undef = .t (.lst sz t (Ns q.args)) ∧ onlyT ((C.drop 1).take 16) = some (Ns q.r) := by
  obtain ⟨st, fn, pc, r, args⟩ := q
  have hr : r.length = 16 := h.2.2.2.1
  subst hC
  simp only [Th.cells]
  match r, hr with
  | [a0, a1, a2, a3, a4, a5, a6, a7, a8, a9, a10, a11, a12, a13, a14, a15], _ =>
  refine ⟨rfl, rfl, rfl, rfl, rfl, rfl, rfl⟩

theorem Ns_one (l : List Int) : (Ns l).all T.one = true := by simp [Ns, T.one]

theorem ksliceA_ref {H : Heap} {n id o : Nat} {lo hi : Bool} {r : List V} : ksliceA H n lo hi (.ref id o) r = (match H[id]? with
    | some (.box cs) => match bounds n lo hi r with
      | some (c, l, h) => some (o + n ≤ cs.length ∧ c, .bsl id (o + l) (h - l))
      | none => none
    | _ => none) := (rfl)
theorem elems_bsl {H : Heap} {m id off len : Nat} : elems H m (.bsl id off len) = (match H[id]? with
    | some (.box cs) => if m = 1 then match onlyT ((cs.drop off).take len) with
      | some xs => if xs.all T.one = true then some xs else none
      | none => none
      else none
    | _ => none) := (rfl)

/-- A call that writes to an object; another argument is frozen. -/
theorem step_app2 {P : Program} {f : FuncId} {H H1 : Heap} {K : St → Prop} {vs : List (Nat × V)} {r : List Ins} {d : Nat} {xs : List Opnd} {ys : List T} {v : V} {x : T} (i : Nat) (hget : (xs.map (ev vs))[i]? = some v) (hf : toT H v = some (x, H1)) (id : Nat) (hid : id < H1.length)
    (h : SCall P f (((xs.map (ev vs)).set i (.t x)).map (V.ren (idx [id]))) (sub H1 [id]) (RRow 1 ys)) (hk : ∀ g, wpR (SCall P) r K ⟨(d, .sl id 0 ys.length g 1) :: vs, H1.set id (.row 1 g ys)⟩) : wpR (SCall P) (⟨some d, none, .call f xs⟩ :: r) K ⟨vs, H⟩ := by
  refine step_call (SCall.frz i hget hf (call_frame [id] (by simp) (by simpa using hid) h ?_))
  rintro r F ⟨g, rfl, rfl⟩
  simpa [merge, setAll, V.ren, Obj.ren, tau] using hk g

theorem appendThread_sc (p : List Int) (hp : p.length ≤ 2 ^ 38) (q : Th) (hq : q.Ok) (hql : q.args.length ≤ 2 ^ 20) (sz : Nat) (t : Bool) (hsz : sz = 1 ∨ q.args = []) (g0 : Nat) :
    SCall PP N.message_appendThread [.sl 0 0 p.length g0 1, .agg ((q.cells sz t).map V.t)] [.row 1 g0 (B p)] (RRow 1 (B (p ++ q.enc))) := by
  refine message_appendThread.intro (by simp) ?_
  obtain ⟨C, hC⟩ : ∃ C, C = (q.cells sz t).map V.t := ⟨_, rfl⟩
  obtain ⟨k1, k2, k3, k4, k5, k6, k7⟩ := q.facts hq sz t C hC
  rw [← hC]
  have hh := Th.head_len hq
  have hl1 := enI_len (Th.head_ok hq) (by omega)
  have c1 := fun g => app_row p q.head (by omega) (Th.head_ok hq) (by omega) 1 false (.inl rfl) g
  have c2 := fun g => app_row (p ++ enI q.head) q.args (by simp; omega) hq.2.2.2.2.2.1 (by omega) sz t hsz g
  have hE : (p ++ enI q.head).length = p.length + (enI q.head).length := by simp
  unfold Th.enc
  rw [← List.append_assoc]
  have hH : Ns q.head = [T.int .i64 q.st, .int .i64 q.fn, .int .i64 q.pc] ++ Ns q.r := rfl
  generalize p ++ enI q.head = E1 at *
  generalize E1 ++ enI q.args = E2 at *
  simp (maxSteps := 4000000) -implicitDefEqProofs (disch := omega) only [k1, k2, k3, k4, k5, k6, k7, ksliceA_ref, elems_bsl, Ns_one, Ns_length, ↓sxPre, sxPost, sxLib, if_true, if_false, Nat.reduceEqDiff, ↓reduceIte, Nat.reduceAdd, Nat.reduceSub, Nat.reduceMul, Nat.reduceLT, Nat.reduceLeDiff, reduceCtorEq, eq_self, K.isEff, List.reduceReplicate]
  have hr0 : ¬ Ns q.r = [] := by
    intro e
    have : (Ns q.r).length = 0 := by rw [e]; rfl
    rw [Ns_length, hq.2.2.2.1] at this
    omega
  have hr1 : q.r.length = 16 := hq.2.2.2.1
  have hr2 : (Ns q.head).take q.head.length = Ns q.head := List.take_of_length_le (by rw [Ns_length]; omega)
  have hNh : T.int IntKind.i64 q.st :: T.int IntKind.i64 q.fn :: T.int IntKind.i64 q.pc :: Ns q.r = Ns q.head := rfl
  have hl3 : 3 + q.r.length = q.head.length := by omega
  rw [hNh, hl3]
  have hf : toT [Obj.row 1 g0 (B p), Obj.box C, Obj.row 1 0 (Ns q.head)] (V.sl 2 0 q.head.length 0 1) = some (T.lst 1 false (Ns q.head), [Obj.row 1 g0 (B p), Obj.box C, Obj.frz 1 0 (Ns q.head)]) := by
    rw [toT_sl]; simp [rowOf, hr2]
  refine ⟨⟨hr0, by omega⟩, step_eff (step_app2 (ys := B E1) 1 rfl hf 0 (by simp) ?_ fun ga => ?_)⟩
  · have := c1 g0
    simpa [V.ren, V.renL, idx, Abs.get, ev, sub, Obj.ren] using this
  simp (maxSteps := 4000000) -implicitDefEqProofs (disch := omega) only [k1, k2, k3, k4, k5, k6, k7, B_length, ↓sxPre, sxPost, sxLib, if_true, if_false, Nat.reduceEqDiff, ↓reduceIte, Nat.reduceAdd, Nat.reduceSub, Nat.reduceMul, Nat.reduceLT, Nat.reduceLeDiff, reduceCtorEq, eq_self, K.isEff, List.reduceReplicate]
  refine step_eff (step_app (ys := B E2) 0 (by simp) ?_ fun gb => ?_)
  · have := c2 ga
    simpa [V.ren, V.renL, idx, Abs.get, ev, sub, Obj.ren] using this
  simp (maxSteps := 4000000) -implicitDefEqProofs (disch := omega) only [B_length, ↓sxPre, sxPost, sxLib, if_true, if_false, Nat.reduceEqDiff, ↓reduceIte, Nat.reduceAdd, Nat.reduceSub, Nat.reduceMul, Nat.reduceLT, Nat.reduceLeDiff, reduceCtorEq, eq_self, K.isEff, List.reduceReplicate]
  refine finK_gc [0] ?_
  simp [RRow, B_length, gcSt, keepOk, finG, resV, resOne, resAll, idx, V.ren, V.renL, Obj.ren, get_cons, get_nil, RTree, RTup, RRow]
end Go.Proofs.Ytljjabccgbakgaa
