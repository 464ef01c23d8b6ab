/- Messages: commands are encoded; what is encoded is decoded. By the session itself. -/
import Derived.Test.YtljjabccgbakgaaMsg4
import Derived.Test.YtljjabccgbakgaaFdebuggerequal
import Derived.Test.YtljjabccgbakgaaFdebuggerref25
namespace Go.Proofs.Ytljjabccgbakgaa
open Go Go.Abs
set_option maxRecDepth 100000
set_option maxHeartbeats 4000000
set_option linter.unusedSimpArgs false
set_option linter.unusedVariables false

def Cm.cells (p : Cm) (sz : Nat) (t : Bool) : List T := [.int .i64 p.kind, .int .i64 p.thread, .int .i64 p.addr, .int .i64 p.n, .lst sz t (Ns p.words)]
def Cm.Ok (p : Cm) : Prop := I64 p.kind ∧ I64 p.thread ∧ I64 p.addr ∧ I64 p.n ∧ I64s p.words ∧ p.words.length < 2 ^ 63
def Cm.head (p : Cm) : List Int := [p.kind, p.thread, p.addr, p.n]
def Cm.enc (p : Cm) : List Int := enI p.head ++ enI p.words

theorem Cm.head_ok {p : Cm} (h : p.Ok) : I64s p.head := by
  intro x hx
  simp only [Cm.head, List.mem_cons, List.not_mem_nil, or_false] at hx
  obtain ⟨h1, h2, h3, h4, _, _⟩ := h
  rcases hx with rfl | rfl | rfl | rfl
  · exact h1
  · exact h2
  · exact h3
  · exact h4

theorem enI_len {l : List Int} (h : I64s l) (hl : l.length ≤ 2 ^ 30) : (enI l).length ≤ 10 + 10 * l.length := by
  have h1 := rows_len l h
  have h2 := groups_le10 (v := l.length) (by omega)
  rw [enI, List.length_append]; omega

theorem EncodeCommand_bad (p : Cm) (hl : 128 < p.words.length) (hok : p.Ok) (sz : Nat) (t : Bool) : SCall PP N.message_EncodeCommand [.agg ((p.cells sz t).map V.t)] [] (RTup [.lst 0 true [], .int .i64 5]) := by
  refine message_EncodeCommand.intro (by simp) ?_
  have g : decide ((128 : Int) < p.words.length) = true := decide_eq_true (by omega)
  simp only [Cm.cells]
  simp (maxSteps := 4000000) -implicitDefEqProofs (disch := omega) only [Ns_length, g, ↓sxPre, sxPost, sxLib, if_true, if_false, Nat.reduceEqDiff, ↓reduceIte, Nat.reduceAdd, Nat.reduceSub, Nat.reduceMul, Nat.reduceLT, Nat.reduceLeDiff, reduceCtorEq, eq_self, K.isEff, List.reduceReplicate]
  refine finK_gc [] ?_
  simp [gcSt, keepOk, finG, resV, resOne, resAll, idx, V.ren, V.renL, Obj.ren, get_cons, get_nil, RTree, RTup, RRow]
theorem rEncodeCommand_bad (p : Cm) (hl : 128 < p.words.length) (hok : p.Ok) (sz : Nat) (t : Bool) : SCall PP N.debuggerref36_EncodeCommand [.agg ((p.cells sz t).map V.t)] [] (RTup [.lst 0 true [], .int .i64 5]) := by
  refine debuggerref36_EncodeCommand.intro (by simp) ?_
  have g : decide ((128 : Int) < p.words.length) = true := decide_eq_true (by omega)
  simp only [Cm.cells]
  simp (maxSteps := 4000000) -implicitDefEqProofs (disch := omega) only [Ns_length, g, ↓sxPre, sxPost, sxLib, if_true, if_false, Nat.reduceEqDiff, ↓reduceIte, Nat.reduceAdd, Nat.reduceSub, Nat.reduceMul, Nat.reduceLT, Nat.reduceLeDiff, reduceCtorEq, eq_self, K.isEff, List.reduceReplicate]
  refine finK_gc [] ?_
  simp [gcSt, keepOk, finG, resV, resOne, resAll, idx, V.ren, V.renL, Obj.ren, get_cons, get_nil, RTree, RTup, RRow]

theorem EncodeCommand_sc (p : Cm) (hl : p.words.length ≤ 128) (hok : p.Ok) (sz : Nat) (t : Bool) (hsz : sz = 1 ∨ p.words = []) : SCall PP N.message_EncodeCommand [.agg ((p.cells sz t).map V.t)] [] (REnc p.enc) := by
  refine message_EncodeCommand.intro (by simp) ?_
  have g : decide ((128 : Int) < p.words.length) = false := decide_eq_false (by omega)
  have c1 := app_nil p.head (Cm.head_ok hok) (by simp [Cm.head]) 1 true (.inl rfl)
  have hl1 := enI_len (Cm.head_ok hok) (by simp [Cm.head])
  have hh : p.head.length = 4 := rfl
  have hlst : T.lst 1 true [T.int IntKind.i64 p.kind, T.int IntKind.i64 p.thread, T.int IntKind.i64 p.addr, T.int IntKind.i64 p.n] = T.lst 1 true (Ns p.head) := rfl
  have c2 := fun g => app_row (enI p.head) p.words (by omega) hok.2.2.2.2.1 (by omega) sz t hsz g
  unfold Cm.enc
  generalize enI p.head = E1 at *
  generalize E1 ++ enI p.words = E2 at *
  simp only [Cm.cells]
  simp (maxSteps := 4000000) -implicitDefEqProofs (disch := omega) only [Ns_length, g, keff_buildSlice, toElems_cons, toElems_nil, toElem_t, setElems_cons, setElems_nil, ↓sxPre, sxPost, sxLib, if_true, if_false, Nat.reduceEqDiff, ↓reduceIte, Nat.reduceAdd, Nat.reduceSub, Nat.reduceMul, Nat.reduceLT, Nat.reduceLeDiff, reduceCtorEq, eq_self, K.isEff, List.reduceReplicate]
  simp only [hlst]
  refine step_eff (step_row (sz := 1) (ys := B E1) c1 (B_flat _) fun ga => ?_)
  simp (maxSteps := 4000000) -implicitDefEqProofs (disch := omega) only [B_length, ↓sxPre, sxPost, sxLib, if_true, if_false, Nat.reduceEqDiff, ↓reduceIte, Nat.reduceAdd, Nat.reduceSub, Nat.reduceMul, Nat.reduceLT, Nat.reduceLeDiff, reduceCtorEq, eq_self, K.isEff, List.reduceReplicate]
  refine step_eff (step_app (ys := B E2) 1 (by simp) ?_ fun gb => ?_)
  · have := c2 ga
    simpa [V.ren, V.renL, idx, Abs.get, ev, sub, Obj.ren] using this
  simp (maxSteps := 4000000) -implicitDefEqProofs (disch := omega) only [B_length, ↓sxPre, sxPost, sxLib, if_true, if_false, Nat.reduceEqDiff, ↓reduceIte, Nat.reduceAdd, Nat.reduceSub, Nat.reduceMul, Nat.reduceLT, Nat.reduceLeDiff, reduceCtorEq, eq_self, K.isEff, List.reduceReplicate]
  refine finK_gc [1] ?_
  simp [REnc, gcSt, keepOk, finG, resV, resOne, resAll, idx, V.ren, V.renL, Obj.ren, get_cons, get_nil, RTree, RTup, RRow]

theorem rEncodeCommand_sc (p : Cm) (hl : p.words.length ≤ 128) (hok : p.Ok) (sz : Nat) (t : Bool) (hsz : sz = 1 ∨ p.words = []) : SCall PP N.debuggerref36_EncodeCommand [.agg ((p.cells sz t).map V.t)] [] (REnc p.enc) := by
  refine debuggerref36_EncodeCommand.intro (by simp) ?_
  have g : decide ((128 : Int) < p.words.length) = false := decide_eq_false (by omega)
  have c1 := rlist_sc [] p.head (by simp) (Cm.head_ok hok) (by simp [Cm.head]) true 1 true (.inl rfl)
  rw [List.nil_append] at c1
  have hl1 := enI_len (Cm.head_ok hok) (by simp [Cm.head])
  have hh : p.head.length = 4 := rfl
  have hlst : T.lst 1 true [T.int IntKind.i64 p.kind, T.int IntKind.i64 p.thread, T.int IntKind.i64 p.addr, T.int IntKind.i64 p.n] = T.lst 1 true (Ns p.head) := rfl
  have c2 := rlist_sc (enI p.head) p.words (by omega) hok.2.2.2.2.1 (by omega) false sz t hsz
  unfold Cm.enc
  generalize enI p.head = E1 at *
  generalize E1 ++ enI p.words = E2 at *
  simp only [Cm.cells]
  simp (maxSteps := 4000000) -implicitDefEqProofs (disch := omega) only [Ns_length, g, keff_buildSlice, toElems_cons, toElems_nil, toElem_t, setElems_cons, setElems_nil, ↓sxPre, sxPost, sxLib, if_true, if_false, Nat.reduceEqDiff, ↓reduceIte, Nat.reduceAdd, Nat.reduceSub, Nat.reduceMul, Nat.reduceLT, Nat.reduceLeDiff, reduceCtorEq, eq_self, K.isEff, List.reduceReplicate]
  simp only [hlst]
  refine step_eff (step_row (sz := 1) (ys := B E1) (nil_at 0 1 rfl c1) (B_flat _) fun ga => ?_)
  simp (maxSteps := 4000000) -implicitDefEqProofs (disch := omega) only [B_length, ↓sxPre, sxPost, sxLib, if_true, if_false, Nat.reduceEqDiff, ↓reduceIte, Nat.reduceAdd, Nat.reduceSub, Nat.reduceMul, Nat.reduceLT, Nat.reduceLeDiff, reduceCtorEq, eq_self, K.isEff, List.reduceReplicate]
  refine step_eff (step_row (sz := 1) (ys := B E2) ?_ (B_flat _) fun gb => ?_)
  · simpa [Abs.view, viewL, rowOf, Abs.get, ev, B_all] using c2
  simp (maxSteps := 4000000) -implicitDefEqProofs (disch := omega) only [B_length, ↓sxPre, sxPost, sxLib, if_true, if_false, Nat.reduceEqDiff, ↓reduceIte, Nat.reduceAdd, Nat.reduceSub, Nat.reduceMul, Nat.reduceLT, Nat.reduceLeDiff, reduceCtorEq, eq_self, K.isEff, List.reduceReplicate]
  refine finK_gc [2] ?_
  simp [REnc, gcSt, keepOk, finG, resV, resOne, resAll, idx, V.ren, V.renL, Obj.ren, get_cons, get_nil, RTree, RTup, RRow]

theorem rdN_group {pre rest : List Int} {n : Nat} (hn : n < 2 ^ 63) : rdN (RU (pre ++ groups n ++ rest)) (pre.length, false) = ((n : Int), (((pre.length + (groups n).length : Nat) : Int), false)) := by
  have : readAt 8 127 (pre ++ groups n ++ rest) pre.length = (n, ((pre.length + (groups n).length : Nat) : Int), 0) := readAt_groups (last := 8) (mx := 127) (by decide) pre rest n (Nat.lt_of_lt_of_le hn (by decide))
  simp [rdN, RU, this, -List.append_assoc]

theorem rdN_zig {pre rest : List Int} {v : Int} (hv : I64 v) : rdN (RI (pre ++ groups (zig v) ++ rest)) (pre.length, false) = (v, (((pre.length + (groups (zig v)).length : Nat) : Int), false)) := by
  have : readAt 9 1 (pre ++ groups (zig v) ++ rest) pre.length = (zig v, ((pre.length + (groups (zig v)).length : Nat) : Int), 0) := readAt_groups (last := 9) (mx := 1) (by decide) pre rest (zig v) (Nat.lt_of_lt_of_le (zig_lt hv) (by decide))
  simp [rdN, RI, this, unzig_zig, -List.append_assoc]

theorem rdLoop_rows (rest : List Int) : ∀ (l pre : List Int), I64s l → rdLoop (pre ++ rows l ++ rest) l.length (pre.length, false) = (l, (((pre ++ rows l).length : Int), false))
  | [], pre, _ => by simp [rdLoop, rows]
  | v :: l, pre, h => by
    have hz := rdN_zig (pre := pre) (rest := rows l ++ rest) (h v (by simp))
    have ih := rdLoop_rows rest l (pre ++ groups (zig v)) fun x hx => h x (by simp [hx])
    have e1 : pre ++ rows (v :: l) ++ rest = pre ++ groups (zig v) ++ (rows l ++ rest) := by simp [rows]
    have e2 : pre ++ groups (zig v) ++ rows l ++ rest = pre ++ groups (zig v) ++ (rows l ++ rest) := by simp
    rw [e2] at ih
    rw [e1]
    simp only [List.length_cons, rdLoop, if_neg Bool.false_ne_true]
    rw [hz]
    simp only
    rw [List.length_append] at ih
    rw [ih]
    simp [rows]

theorem rdInts_enI (pre l rest : List Int) (h : I64s l) {most : Int} (hm : (l.length : Int) ≤ most) (hm2 : most ≤ 2 ^ 20) : rdInts (pre ++ enI l ++ rest) most (pre.length, false) = (l, (((pre ++ enI l).length : Int), false)) := by
  have hg := rdN_group (pre := pre) (rest := rows l ++ rest) (n := l.length) (by omega)
  have e1 : pre ++ enI l ++ rest = pre ++ groups l.length ++ (rows l ++ rest) := by simp [enI]
  have hr := rdLoop_rows rest l (pre ++ groups l.length) h
  have e2 : pre ++ groups l.length ++ rows l ++ rest = pre ++ groups l.length ++ (rows l ++ rest) := by simp
  rw [e2, List.length_append] at hr
  rw [rdInts, e1, hg]
  simp only
  rw [if_neg (by omega), Int.toNat_natCast, hr]
  simp [enI]

theorem decC_enc {p : Cm} (hok : p.Ok) (hl : p.words.length ≤ 128) : decC p.enc = (p, 0) := by
  have h1 := rdInts_enI [] p.head (enI p.words) (Cm.head_ok hok) (most := 4) (by simp [Cm.head]) (by decide)
  have h2 := rdInts_enI (enI p.head) p.words [] hok.2.2.2.2.1 (most := 128) (by omega) (by decide)
  rw [List.nil_append] at h1
  rw [List.append_nil] at h2
  have hx : rdExact p.enc 4 (0, false) = (p.head, (((enI p.head).length : Int), false)) := by
    have hc : ((4 : Nat) : Int) = 4 := rfl
    unfold rdExact
    rw [hc, Cm.enc]
    simp only [List.length_nil, Int.cast_ofNat_Int] at h1
    rw [h1, if_pos (by simp [Cm.head])]
  unfold decC
  rw [hx]
  simp only
  have h3 : rdInts p.enc 128 (((enI p.head).length : Int), false) = (p.words, (((enI p.head ++ enI p.words).length : Int), false)) := h2
  rw [h3]
  simp only
  rw [if_pos ⟨trivial, rfl⟩]
  rfl
end Go.Proofs.Ytljjabccgbakgaa
