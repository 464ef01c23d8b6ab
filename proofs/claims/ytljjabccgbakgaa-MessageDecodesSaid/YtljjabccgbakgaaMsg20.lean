/- Messages: bytes that are decoded are those of their message. By the session itself. -/
import Derived.Test.YtljjabccgbakgaaMsg19
import Derived.Test.YtljjabccgbakgaaPack7
namespace Go.Proofs.Ytljjabccgbakgaa
open Go Go.Abs
set_option maxRecDepth 100000
set_option maxHeartbeats 4000000
set_option linter.unusedSimpArgs false
set_option linter.unusedVariables false

/-- If nothing was wrong, the bytes between are these. -/
def Canon (b : List Int) (s s' : RS) (seg : List Int) : Prop := s'.2 = false → s.2 = false ∧ b.drop s.1.toNat = seg ++ b.drop s'.1.toNat

theorem Canon.trans {b : List Int} {s s' s'' : RS} {x y : List Int} (h : Canon b s s' x) (k : Canon b s' s'' y) : Canon b s s'' (x ++ y) := fun e =>
  let ⟨e1, e2⟩ := k e
  let ⟨e3, e4⟩ := h e1
  ⟨e3, by rw [e4, e2, List.append_assoc]⟩
theorem Canon.refl (b : List Int) (s : RS) : Canon b s s [] := fun e => ⟨e, rfl⟩

theorem rdN_canon {b : List Int} (R : Int → Int × Int × Int) (f : Int → List Int) (s : RS) (h : (R s.1).2.2 = 0 → b.drop s.1.toNat = f (R s.1).1 ++ b.drop (R s.1).2.1.toNat) : Canon b s (rdN R s).2 (f (rdN R s).1) := by
  unfold rdN
  split
  · rename_i hs
    intro e
    rw [hs] at e; cases e
  · split
    · intro e; cases e
    · rename_i hs he
      intro _
      exact ⟨by simpa using hs, h (by simpa using he)⟩

theorem rdU_canon {b : List Int} (hb : Bytes b) (s : RS) : Canon b s (rdN (RU b) s).2 (groups (rdN (RU b) s).1.toNat) := by
  refine rdN_canon (RU b) (fun v => groups v.toNat) s fun he => ?_
  have := readAt_canon hb (last := 8) (mx := 127) (at_ := s.1) (v := (readAt 8 127 b s.1).1) (n := (readAt 8 127 b s.1).2.1) (by
    have : (readAt 8 127 b s.1).2.2 = 0 := he
    exact Prod.ext rfl (Prod.ext rfl this))
  simpa [RU] using this.2.2.2

theorem rdI_canon {b : List Int} (hb : Bytes b) (s : RS) : Canon b s (rdN (RI b) s).2 (groups (zig (rdN (RI b) s).1)) := by
  refine rdN_canon (RI b) (fun v => groups (zig v)) s fun he => ?_
  have h := readAt_canon hb (last := 9) (mx := 1) (at_ := s.1) (v := (readAt 9 1 b s.1).1) (n := (readAt 9 1 b s.1).2.1) (by
    have : (readAt 9 1 b s.1).2.2 = 0 := he
    exact Prod.ext rfl (Prod.ext rfl this))
  have hz : ∀ u : Nat, zig (unzig u) = u := by
    intro u
    unfold zig unzig
    split <;> split <;> omega
  show b.drop s.1.toNat = groups (zig (unzig (readAt 9 1 b s.1).1)) ++ b.drop (readAt 9 1 b s.1).2.1.toNat
  rw [hz]
  exact h.2.2.2

theorem rdLoop_canon {b : List Int} (hb : Bytes b) : ∀ (k : Nat) (s : RS), Canon b s (rdLoop b k s).2 (rows (rdLoop b k s).1) ∧ ((rdLoop b k s).2.2 = false → (rdLoop b k s).1.length = k)
  | 0, s => ⟨Canon.refl b s, fun _ => rfl⟩
  | k + 1, s => by
    simp only [rdLoop]
    split
    · rename_i hs
      exact ⟨fun e => (by rw [hs] at e; cases e), fun e => (by rw [hs] at e; cases e)⟩
    · obtain ⟨h1, h2⟩ := rdLoop_canon hb k (rdN (RI b) s).2
      refine ⟨?_, fun e => by simpa using h2 e⟩
      have := (rdI_canon hb s).trans h1
      simpa [rows] using this

theorem rdInts_canon {b : List Int} (hb : Bytes b) (most : Int) (s : RS) : Canon b s (rdInts b most s).2 (enI (rdInts b most s).1) := by
  unfold rdInts
  split
  · intro e; cases e
  · obtain ⟨h1, h2⟩ := rdLoop_canon hb (rdN (RU b) s).1.toNat (rdN (RU b) s).2
    intro e
    have := ((rdU_canon hb s).trans h1) e
    rw [enI, h2 e]
    exact this

theorem rdExact_canon {b : List Int} (hb : Bytes b) (n : Nat) (s : RS) : Canon b s (rdExact b n s).2 (enI (rdExact b n s).1) := by
  unfold rdExact
  split
  · exact rdInts_canon hb n s
  · intro e; cases e

theorem rdTh_canon {b : List Int} (hb : Bytes b) {s : RS} (hs : SOk b s) : Canon b s (rdTh b s).2 (rdTh b s).1.enc := by
  have h1 := rdExact_canon hb 19 s
  have h2 := rdInts_canon hb 4 (rdExact b 19 s).2
  have hl := (rdExact_ok hb 19 hs).2.2
  have e : (rdTh b s).1.head = (rdExact b 19 s).1 := by
    unfold rdTh
    generalize (rdExact b 19 s).1 = l at *
    match l, hl with
    | a :: c :: d :: r, _ => rfl
  have := h1.trans h2
  rw [Th.enc, e]
  exact this

theorem rdThs_canon {b : List Int} (hb : Bytes b) : ∀ (k : Nat) {s : RS}, SOk b s → Canon b s (rdThs b k s).2 (encs (rdThs b k s).1) ∧ ((rdThs b k s).2.2 = false → (rdThs b k s).1.length = k) ∧ SOk b (rdThs b k s).2 ∧ ∀ q ∈ (rdThs b k s).1, q.Ok ∧ q.args.length ≤ 4
  | 0, s, hs => ⟨Canon.refl b s, fun _ => rfl, hs, fun q h => by cases h⟩
  | k + 1, s, hs => by
    simp only [rdThs]
    split
    · rename_i h
      exact ⟨fun e => (by rw [h] at e; cases e), fun e => (by rw [h] at e; cases e), hs, fun q h => by cases h⟩
    · obtain ⟨j1, j2, j3⟩ := rdTh_ok hb hs
      obtain ⟨h1, h2, h3, h4⟩ := rdThs_canon hb k j1
      refine ⟨?_, fun e => by simpa using h2 e, h3, fun q hq => ?_⟩
      · have := (rdTh_canon hb hs).trans h1
        simpa [encs] using this
      · rcases List.mem_cons.1 hq with rfl | hq
        · exact ⟨j2, j3⟩
        · exact h4 q hq

theorem flatO_pairs : ∀ l : List Int, l.length % 2 = 0 → flatO (pairs l) = l
  | [], _ => rfl
  | [_], h => by simp at h
  | a :: b :: r, h => by
    have := flatO_pairs r (by simp at h; omega)
    simp only [pairs, flatO, List.flatMap_cons, List.cons_append, List.nil_append] at *
    rw [this]

theorem decC_canon {b : List Int} (hb : Bytes b) {q : Cm} (h : decC b = (q, 0)) : q.enc = b ∧ q.Ok ∧ q.words.length ≤ 128 := by
  unfold decC at h
  have h0 : SOk b (0, false) := ⟨by simp, by simp⟩
  obtain ⟨k1, k2, k3⟩ := rdExact_ok hb 4 h0
  obtain ⟨m1, m2, m3⟩ := rdInts_ok hb 128 k1
  have c := (rdExact_canon hb 4 (0, false)).trans (rdInts_canon hb 128 (rdExact b 4 (0, false)).2)
  split at h
  · rename_i hok
    obtain ⟨e1, e2⟩ := hok
    simp only [Prod.mk.injEq, and_true] at h
    subst h
    have := (c e1).2
    rw [e2] at this
    simp only [Int.toNat_zero, List.drop_zero, Int.toNat_natCast, List.drop_length, List.append_nil] at this
    generalize (rdExact b 4 (0, false)).1 = l at *
    match l, k3 with
    | [a0, a1, a2, a3], _ =>
    refine ⟨this.symm, ⟨k2 _ (by simp), k2 _ (by simp), k2 _ (by simp), k2 _ (by simp), m2, by simp only; omega⟩, by simp only; omega⟩
  · simp at h

theorem decR_canon {b : List Int} (hb : Bytes b) {D : Rp} (h : decR b = (D, 0)) : D.enc = b ∧ D.Ok ∧ D.Fit := by
  have h0 : SOk b (0, false) := ⟨by simp, by simp⟩
  have c1 := rdI_canon hb (0, false)
  obtain ⟨k1, v1⟩ := rdI_ok hb h0
  unfold decR at h
  generalize rdN (RI b) (0, false) = x1 at *
  obtain ⟨err, t1⟩ := x1
  simp only at k1 v1 c1 h
  have c2 := rdInts_canon hb 128 t1
  obtain ⟨k2, v2, l2⟩ := rdInts_ok hb 128 k1
  generalize rdInts b 128 t1 = x2 at *
  obtain ⟨words, t2⟩ := x2
  simp only at k2 v2 l2 c2 h
  have c3 := rdU_canon hb t2
  obtain ⟨k3, v3, l3⟩ := rdU_ok hb k2
  generalize rdN (RU b) t2 = x3 at *
  obtain ⟨n, t3⟩ := x3
  simp only at k3 v3 l3 c3 h
  have k3' : SOk b (if 8 < n then (t3.1, true) else t3) := by split <;> exact k3
  obtain ⟨c4, l4, k4, v4⟩ := rdThs_canon hb n.toNat k3'
  have c3' : Canon b t2 (if 8 < n then (t3.1, true) else t3) (groups n.toNat) := by
    split
    · intro e; cases e
    · exact c3
  have n8 : (if 8 < n then ((t3.1, true) : RS) else t3).2 = false → n ≤ 8 := by
    split
    · intro e; cases e
    · intro _; omega
  generalize (if 8 < n then ((t3.1, true) : RS) else t3) = s3 at *
  generalize rdThs b n.toNat s3 = x4 at *
  obtain ⟨ths, t4⟩ := x4
  simp only at c4 l4 k4 v4 h
  unfold afterThs at h
  simp only at h
  have c5 := rdInts_canon hb 256 t4
  obtain ⟨k5, v5, l5⟩ := rdInts_ok hb 256 k4
  generalize rdInts b 256 t4 = x5 at *
  obtain ⟨o, t5⟩ := x5
  simp only at k5 v5 l5 c5 h
  have k5' : SOk b (if o.length % 2 = 0 then t5 else (t5.1, true)) := by split <;> exact k5
  have c5' : Canon b t4 (if o.length % 2 = 0 then t5 else (t5.1, true)) (enI o) := by
    split
    · exact c5
    · intro e; cases e
  have o2 : (if o.length % 2 = 0 then t5 else ((t5.1, true) : RS)).2 = false → o.length % 2 = 0 := by
    split
    · intro _; assumption
    · intro e; cases e
  generalize (if o.length % 2 = 0 then t5 else ((t5.1, true) : RS)) = s5 at *
  unfold decEnd at h
  have c6 := rdExact_canon hb 7 s5
  obtain ⟨k6, v6, l6⟩ := rdExact_ok hb 7 k5'
  generalize rdExact b 7 s5 = x6 at *
  obtain ⟨st, t6⟩ := x6
  simp only at k6 v6 l6 c6 h
  split at h
  · rename_i hok
    obtain ⟨e1, e2⟩ := hok
    simp only [Prod.mk.injEq, and_true] at h
    subst h
    have hp : flatO (pairs o) = o := flatO_pairs o (o2 (c6 e1).1)
    have a5 := (c6 e1).1
    have a4 := (c5' a5).1
    have a3 := (c4 a4).1
    have hn := n8 a3
    have hl := l4 a4
    have := (((((c1.trans c2).trans c3').trans c4).trans c5').trans c6 e1).2
    rw [e2] at this
    simp only [Int.toNat_zero, List.drop_zero, Int.toNat_natCast, List.drop_length, List.append_nil] at this
    have hpl := pairs_length o
    refine ⟨?_, ⟨v1, v2, by simp only; omega, fun q hq => (v4 q hq).1, by simp only; omega, by simp only; rw [hp]; exact v5, by simp only; omega, v6, l6⟩, by simp only; omega, by simp only; omega, by simp only; omega, fun q hq => (v4 q hq).2⟩
    rw [Rp.enc, Rp.pre]
    simp only
    rw [hp, hl]
    exact this.symm
  · simp at h

end Go.Proofs.Ytljjabccgbakgaa
