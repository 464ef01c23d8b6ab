/- MessageFits: what the law returns. By the session itself. -/
import Derived.Test.YtljjabccgbakgaaMsg9
namespace Go.Proofs.Ytljjabccgbakgaa
open Go Go.Abs
set_option maxRecDepth 100000
set_option maxHeartbeats 4000000
set_option linter.unusedSimpArgs false
set_option linter.unusedVariables false

theorem list_inv {α β : Type} {f : α → β} {p : α → Prop} : ∀ {cs : List β}, (∀ c ∈ cs, ∃ q, p q ∧ c = f q) → ∃ l : List α, cs = l.map f ∧ ∀ q ∈ l, p q
  | [], _ => ⟨[], rfl, fun q h => by cases h⟩
  | c :: cs, h => by
    obtain ⟨l, e, hl⟩ := list_inv (cs := cs) fun c hc => h c (List.mem_cons_of_mem _ hc)
    obtain ⟨q, hq, e2⟩ := h c (List.mem_cons_self ..)
    refine ⟨q :: l, by rw [List.map_cons, ← e, ← e2], fun q' hq' => ?_⟩
    rcases List.mem_cons.1 hq' with rfl | h
    · exact hq
    · exact hl q' h

abbrev thSh : List Sh := [.int .i64, .int .i64, .int .i64, .int .i64, .int .i64, .int .i64, .int .i64, .int .i64, .int .i64, .int .i64, .int .i64, .int .i64, .int .i64, .int .i64, .int .i64, .int .i64, .int .i64, .int .i64, .int .i64, .lst false [.int .i64]]
abbrev rpSh : List Sh := [.int .i64, .lst false [.int .i64], .lst true thSh, .lst true [.int .i64, .int .i64], .int .i64, .int .i64, .int .i64, .int .i64, .int .i64, .int .i64, .int .i64]

theorem th_inv {cs : List T} (hl : cs.length = thSh.length) (h : ∀ (i : Nat) s c, thSh[i]? = some s → cs[i]? = some c → Fits s c) : ∃ q : Th, q.Ok ∧ cs = q.cells 1 false := by
  match cs, hl with
  | [c0, c1, c2, c3, c4, c5, c6, c7, c8, c9, c10, c11, c12, c13, c14, c15, c16, c17, c18, c19], _ =>
  obtain ⟨n0, rfl, w0⟩ := (h 0 _ _ rfl rfl).int_inv
  obtain ⟨n1, rfl, w1⟩ := (h 1 _ _ rfl rfl).int_inv
  obtain ⟨n2, rfl, w2⟩ := (h 2 _ _ rfl rfl).int_inv
  obtain ⟨n3, rfl, w3⟩ := (h 3 _ _ rfl rfl).int_inv
  obtain ⟨n4, rfl, w4⟩ := (h 4 _ _ rfl rfl).int_inv
  obtain ⟨n5, rfl, w5⟩ := (h 5 _ _ rfl rfl).int_inv
  obtain ⟨n6, rfl, w6⟩ := (h 6 _ _ rfl rfl).int_inv
  obtain ⟨n7, rfl, w7⟩ := (h 7 _ _ rfl rfl).int_inv
  obtain ⟨n8, rfl, w8⟩ := (h 8 _ _ rfl rfl).int_inv
  obtain ⟨n9, rfl, w9⟩ := (h 9 _ _ rfl rfl).int_inv
  obtain ⟨n10, rfl, w10⟩ := (h 10 _ _ rfl rfl).int_inv
  obtain ⟨n11, rfl, w11⟩ := (h 11 _ _ rfl rfl).int_inv
  obtain ⟨n12, rfl, w12⟩ := (h 12 _ _ rfl rfl).int_inv
  obtain ⟨n13, rfl, w13⟩ := (h 13 _ _ rfl rfl).int_inv
  obtain ⟨n14, rfl, w14⟩ := (h 14 _ _ rfl rfl).int_inv
  obtain ⟨n15, rfl, w15⟩ := (h 15 _ _ rfl rfl).int_inv
  obtain ⟨n16, rfl, w16⟩ := (h 16 _ _ rfl rfl).int_inv
  obtain ⟨n17, rfl, w17⟩ := (h 17 _ _ rfl rfl).int_inv
  obtain ⟨n18, rfl, w18⟩ := (h 18 _ _ rfl rfl).int_inv
  obtain ⟨l, rfl, wl, hl⟩ := (h 19 _ _ rfl rfl).ints_inv
  have hm : maxLen = 2 ^ 63 - 1 := rfl
  refine ⟨⟨n0, n18, n17, [n1, n2, n3, n4, n5, n6, n7, n8, n9, n10, n11, n12, n13, n14, n15, n16], l⟩, ⟨i64_of w0, i64_of w18, i64_of w17, rfl, ?_, fun x hx => i64_of (wl x hx), by simp only; omega⟩, rfl⟩
  intro x hx
  simp only [List.mem_cons, List.not_mem_nil, or_false] at hx
  rcases hx with rfl | rfl | rfl | rfl | rfl | rfl | rfl | rfl | rfl | rfl | rfl | rfl | rfl | rfl | rfl | rfl
  · exact i64_of w1
  · exact i64_of w2
  · exact i64_of w3
  · exact i64_of w4
  · exact i64_of w5
  · exact i64_of w6
  · exact i64_of w7
  · exact i64_of w8
  · exact i64_of w9
  · exact i64_of w10
  · exact i64_of w11
  · exact i64_of w12
  · exact i64_of w13
  · exact i64_of w14
  · exact i64_of w15
  · exact i64_of w16

theorem pr_inv {cs : List T} (hl : cs.length = 2) (h : ∀ (i : Nat) s c, [Sh.int .i64, Sh.int .i64][i]? = some s → cs[i]? = some c → Fits s c) : ∃ q : Int × Int, (I64 q.1 ∧ I64 q.2) ∧ cs = [.int .i64 q.1, .int .i64 q.2] := by
  match cs, hl with
  | [c0, c1], _ =>
  obtain ⟨n0, rfl, w0⟩ := (h 0 _ _ rfl rfl).int_inv
  obtain ⟨n1, rfl, w1⟩ := (h 1 _ _ rfl rfl).int_inv
  exact ⟨(n0, n1), ⟨i64_of w0, i64_of w1⟩, rfl⟩

theorem rows_inv {es : List Sh} {x : T} (h : Fits (.lst true es) x) : ∃ css : List (List T), x = .lst es.length false (css.map T.agg) ∧ css.length ≤ maxLen ∧ (∀ cs ∈ css, cs.length = es.length) ∧ ∀ cs ∈ css, ∀ (i : Nat) s c, es[i]? = some s → cs[i]? = some c → Fits s c := by
  cases h with
  | rows hl hn h => exact ⟨_, rfl, hl, hn, h⟩

/-- A reply that is handed to a law. -/
theorem Cells.rp {W : World} {ts : List T} {cs : List Value} (h : Cells W rpSh ts cs) : ∃ R : Rp, R.Ok ∧ ts = .int .i64 R.err :: .lst 1 false (Ns R.words) :: .lst 20 false (R.ths.map fun q => .agg (q.cells 1 false)) :: .lst 2 false (Ps R.out) :: Ns R.stop := by
  obtain ⟨_, _, _, _, rfl, rfl, f1, _, h⟩ := h.head
  obtain ⟨_, _, _, _, rfl, rfl, f2, _, h⟩ := h.head
  obtain ⟨_, _, _, _, rfl, rfl, f3, _, h⟩ := h.head
  obtain ⟨_, _, _, _, rfl, rfl, f4, _, h⟩ := h.head
  obtain ⟨_, _, _, _, rfl, rfl, g0, _, h⟩ := h.head
  obtain ⟨_, _, _, _, rfl, rfl, g1, _, h⟩ := h.head
  obtain ⟨_, _, _, _, rfl, rfl, g2, _, h⟩ := h.head
  obtain ⟨_, _, _, _, rfl, rfl, g3, _, h⟩ := h.head
  obtain ⟨_, _, _, _, rfl, rfl, g4, _, h⟩ := h.head
  obtain ⟨_, _, _, _, rfl, rfl, g5, _, h⟩ := h.head
  obtain ⟨_, _, _, _, rfl, rfl, g6, _, h⟩ := h.head
  obtain ⟨rfl, rfl⟩ := h.tail_nil
  obtain ⟨e, rfl, we⟩ := f1.int_inv
  obtain ⟨l, rfl, wl, hl⟩ := f2.ints_inv
  obtain ⟨cs3, rfl, hl3, hn3, hf3⟩ := rows_inv f3
  obtain ⟨cs4, rfl, hl4, hn4, hf4⟩ := rows_inv f4
  obtain ⟨n0, rfl, w0⟩ := g0.int_inv
  obtain ⟨n1, rfl, w1⟩ := g1.int_inv
  obtain ⟨n2, rfl, w2⟩ := g2.int_inv
  obtain ⟨n3, rfl, w3⟩ := g3.int_inv
  obtain ⟨n4, rfl, w4⟩ := g4.int_inv
  obtain ⟨n5, rfl, w5⟩ := g5.int_inv
  obtain ⟨n6, rfl, w6⟩ := g6.int_inv
  obtain ⟨ths, rfl, hths⟩ := list_inv (f := fun q : Th => q.cells 1 false) (p := Th.Ok) fun c hc => th_inv (hn3 c hc) (hf3 c hc)
  obtain ⟨out, rfl, hout⟩ := list_inv (f := fun q : Int × Int => [T.int .i64 q.1, .int .i64 q.2]) (p := fun q => I64 q.1 ∧ I64 q.2) fun c hc => pr_inv (hn4 c hc) (hf4 c hc)
  have hm : maxLen = 2 ^ 63 - 1 := rfl
  rw [List.length_map] at hl3 hl4
  refine ⟨⟨e, l, ths, out, [n0, n1, n2, n3, n4, n5, n6]⟩, ⟨i64_of we, fun x hx => i64_of (wl x hx), by simp only; omega, hths, by simp only; omega, ?_, by simp only; omega, ?_, rfl⟩, ?_⟩
  · intro x hx
    simp only [flatO, List.mem_flatMap, List.mem_cons, List.not_mem_nil, or_false] at hx
    obtain ⟨o, ho, rfl | rfl⟩ := hx
    · exact (hout o ho).1
    · exact (hout o ho).2
  · intro x hx
    simp only [List.mem_cons, List.not_mem_nil, or_false] at hx
    rcases hx with rfl | rfl | rfl | rfl | rfl | rfl | rfl
    · exact i64_of w0
    · exact i64_of w1
    · exact i64_of w2
    · exact i64_of w3
    · exact i64_of w4
    · exact i64_of w5
    · exact i64_of w6
  · simp [Ns, Ps, List.map_map, Function.comp_def]

theorem Rp.plain (R : Rp) : R.At (.int .i64 R.err :: .lst 1 false (Ns R.words) :: .lst 20 false (R.ths.map fun q => .agg (q.cells 1 false)) :: .lst 2 false (Ps R.out) :: Ns R.stop) :=
  ⟨1, false, 20, false, 2, false, _, .inl rfl, .inl rfl, .inl rfl, by simp, fun i h => ⟨1, false, .inl rfl, by simp [T.at, h]⟩, rfl⟩
end Go.Proofs.Ytljjabccgbakgaa
