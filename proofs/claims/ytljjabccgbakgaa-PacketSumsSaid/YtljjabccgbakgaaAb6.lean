/- How the heap may change. By the session itself. -/
import Derived.Test.YtljjabccgbakgaaAb5
namespace Go.Abs
open Go Go.RowKit
set_option linter.unusedSimpArgs false
set_option linter.unusedVariables false

section
variable {P : Program} {H H' : Heap} {μ μ' : Nat → Loc} {S S' : Nat → Prop} {W W' : World}

theorem ObjOk.later (L : Later H μ S W H' μ' S' W') (r : Rel H μ S W) {id : Nat} {o : Obj} (ho : H[id]? = some o) (hb : o.live (μ id) = true → W'.heap[(μ id).blk]? = W.heap[(μ id).blk]? ∧ ¬ S' (μ id).blk) :
    ObjOk μ' S' H' W' (μ id) o := by
  have h := r.objs id o ho
  cases o with
  | box cs =>
    obtain ⟨e, hn⟩ := hb rfl
    obtain ⟨_, us, ty, hw, hl, hr⟩ := h
    exact ⟨hn, us, ty, e.trans hw, hl, fun i c u hi hu => (hr i c u hi hu).later L r⟩
  | row sz g xs =>
    refine ⟨fun hc => (hb (by simpa [Obj.live] using hc)).2, h.2.later L r fun hc => (hb (by simpa [Obj.live] using hc)).1⟩
  | frz sz g xs => exact ⟨fun hc => L.mono _ (h.1 hc), h.2.later L r fun hc => L.keepS r _ (h.1 hc)⟩
  | map es =>
    obtain ⟨e, hn⟩ := hb rfl
    obtain ⟨_, ms, cl, hw, hl, hr⟩ := h
    exact ⟨hn, ms, cl, e.trans hw, hl, fun i a m hi hm => ⟨(hr i a m hi hm).1.later L r, (hr i a m hi hm).2.later L r⟩⟩

/-- The world grows, and objects are added. -/
theorem grow (r : Rel H μ S W) (b : Below W.heap.size W W') (hS1 : ∀ b, S b → S' b) (hS2 : ∀ b, S' b → S b ∨ W.heap.size ≤ b) (hS3 : ∀ b, S' b → b < W'.heap.size) (new : List Obj)
    (hμ : ∀ i, i < H.length → μ' i = μ i) (hfresh : ∀ (j : Nat) o, new[j]? = some o → o.live (μ' (H.length + j)) = true → W.heap.size ≤ (μ' (H.length + j)).blk)
    (hinj : ∀ (i j : Nat) o o', new[i]? = some o → new[j]? = some o' → o.live (μ' (H.length + i)) = true → o'.live (μ' (H.length + j)) = true → (μ' (H.length + i)).blk = (μ' (H.length + j)).blk → i = j)
    (hnew : Later H μ S W (H ++ new) μ' S' W' → ∀ (j : Nat) o, new[j]? = some o → ObjOk μ' S' (H ++ new) W' (μ' (H.length + j)) o) :
    Rel (H ++ new) μ' S' W' ∧ Later H μ S W (H ++ new) μ' S' W' := by
  have hold : ∀ (id : Nat) o, id < H.length → ((H ++ new)[id]? = some o ↔ H[id]? = some o) := fun id o hi => by rw [List.getElem?_append_left hi]
  have hge : ∀ (id : Nat), H.length ≤ id → (H ++ new)[id]? = new[id - H.length]? := fun id hi => by rw [List.getElem?_append_right hi]
  have hlt : ∀ {id : Nat} {o : Obj}, H[id]? = some o → id < H.length := fun h => by obtain ⟨h, _⟩ := List.getElem?_eq_some_iff.1 h; exact h
  have L : Later H μ S W (H ++ new) μ' S' W' := by
    refine ⟨b.os, b.tape, b.output, b.size, fun id o ho => ⟨o, (hold id o (hlt ho)).2 ho, ?_⟩, fun k hk _ => b.block k hk, hS1, fun k hk hs => ?_, fun id hl => ?_⟩
    · rw [hμ id (hlt ho)]; exact o.to_refl _
    · rcases hS2 k hs with h | h
      · exact .inl h
      · omega
    · obtain ⟨o, ho, hlv⟩ := hl
      by_cases hi : id < H.length
      · rw [hμ id hi] at hlv
        exact .inr ⟨⟨o, (hold id o hi).1 ho, hlv⟩, by rw [hμ id hi]⟩
      · rw [hge id (by omega)] at ho
        obtain ⟨j, rfl⟩ : ∃ j, id = H.length + j := ⟨id - H.length, by omega⟩
        rw [show H.length + j - H.length = j by omega] at ho
        exact .inl (hfresh j o ho hlv)
  refine ⟨⟨fun id o ho => ?_, fun i j hi hj e => ?_, hS3⟩, L⟩
  · by_cases hi : id < H.length
    · have ho' := (hold id o hi).1 ho
      rw [hμ id hi]
      refine ObjOk.later L r ho' fun hlv => ?_
      have hl : Live H μ id := ⟨o, ho', hlv⟩
      refine ⟨b.block _ (r.lt hl), fun hs => ?_⟩
      rcases hS2 _ hs with h | h
      · exact r.notS hl h
      · have := r.lt hl; omega
    · rw [hge id (by omega)] at ho
      obtain ⟨j, rfl⟩ : ∃ j, id = H.length + j := ⟨id - H.length, by omega⟩
      rw [show H.length + j - H.length = j by omega] at ho
      exact hnew L j o ho
  · obtain ⟨o, ho, hlo⟩ := hi
    obtain ⟨p, hp, hlp⟩ := hj
    by_cases h1 : i < H.length <;> by_cases h2 : j < H.length
    · rw [hμ i h1] at hlo e; rw [hμ j h2] at hlp e
      exact r.inj i j ⟨o, (hold i o h1).1 ho, hlo⟩ ⟨p, (hold j p h2).1 hp, hlp⟩ e
    · obtain ⟨k, rfl⟩ : ∃ k, j = H.length + k := ⟨j - H.length, by omega⟩
      rw [hge _ (by omega), show H.length + k - H.length = k by omega] at hp
      have := hfresh k p hp hlp
      rw [hμ i h1] at hlo e
      have := r.lt ⟨o, (hold i o h1).1 ho, hlo⟩
      omega
    · obtain ⟨k, rfl⟩ : ∃ k, i = H.length + k := ⟨i - H.length, by omega⟩
      rw [hge _ (by omega), show H.length + k - H.length = k by omega] at ho
      have := hfresh k o ho hlo
      rw [hμ j h2] at hlp e
      have := r.lt ⟨p, (hold j p h2).1 hp, hlp⟩
      omega
    · obtain ⟨k, rfl⟩ : ∃ k, i = H.length + k := ⟨i - H.length, by omega⟩
      obtain ⟨m, rfl⟩ : ∃ k, j = H.length + k := ⟨j - H.length, by omega⟩
      rw [hge _ (by omega), show H.length + k - H.length = k by omega] at ho
      rw [hge _ (by omega), show H.length + m - H.length = m by omega] at hp
      rw [hinj k m o p ho hp hlo hlp e]

/-- Nothing but the world has grown. -/
theorem grow0 (r : Rel H μ S W) (b : Below W.heap.size W W') (hS1 : ∀ b, S b → S' b) (hS2 : ∀ b, S' b → S b ∨ W.heap.size ≤ b) (hS3 : ∀ b, S' b → b < W'.heap.size) :
    Rel H μ S' W' ∧ Later H μ S W H μ S' W' := by
  have := grow r b hS1 hS2 hS3 [] (fun _ _ => rfl) (fun j o h => by simp at h) (fun i j o o' h => by simp at h) (fun _ j o h => by simp at h)
  simpa using this

/-- One object is added, in a block of its own. -/
theorem grow1 (r : Rel H μ S W) (b : Below W.heap.size W W') (o : Obj) (l : Loc) (hl : o.live l = true → W.heap.size ≤ l.blk)
    (hnew : ∀ μ', μ' H.length = l → Later H μ S W (H ++ [o]) μ' S W' → ObjOk μ' S (H ++ [o]) W' l o) :
    ∃ μ', μ' H.length = l ∧ Rel (H ++ [o]) μ' S W' ∧ Later H μ S W (H ++ [o]) μ' S W' := by
  let μ' : Nat → Loc := fun i => if i = H.length then l else μ i
  have e : μ' H.length = l := by simp [μ']
  have key : ∀ (j : Nat) p, [o][j]? = some p → j = 0 ∧ p = o := fun j p h => by
    cases j with
    | zero => simp at h; exact ⟨rfl, h.symm⟩
    | succ j => simp at h
  refine ⟨μ', e, grow r b (fun _ h => h) (fun _ h => .inl h) (fun k hk => Nat.lt_of_lt_of_le (r.size k hk) b.size) [o] (fun i hi => by simp [μ']; omega) ?_ ?_ ?_⟩
  · intro j p hp hlv
    obtain ⟨rfl, rfl⟩ := key j p hp
    simp only [Nat.add_zero, e] at hlv ⊢; exact hl hlv
  · intro i j p q hp hq _ _ _
    rw [(key i p hp).1, (key j q hq).1]
  · intro L j p hp
    obtain ⟨rfl, rfl⟩ := key j p hp
    simp only [Nat.add_zero, e]; exact hnew μ' e L

/-- An object changes, and with it at most its own block, or a new one. -/
theorem change (r : Rel H μ S W) {id : Nat} {o o' : Obj} (ho : H[id]? = some o) (l : Loc)
    (hos : W'.os = W.os) (htape : W'.tape = W.tape) (hout : W'.output = W.output) (hsize : W.heap.size ≤ W'.heap.size)
    (hkeep : ∀ b, b < W.heap.size → ¬ (o.live (μ id) = true ∧ b = (μ id).blk) → W'.heap[b]? = W.heap[b]?)
    (hS1 : ∀ b, S b → S' b) (hS2 : ∀ b, S' b → S b ∨ W.heap.size ≤ b ∨ (o.live (μ id) = true ∧ b = (μ id).blk)) (hS3 : ∀ b, S' b → b < W'.heap.size)
    (hto : o.to o' (μ id) l) (hlive : o'.live l = true → W.heap.size ≤ l.blk ∨ (o.live (μ id) = true ∧ l.blk = (μ id).blk))
    (hok : ∀ μ', μ' id = l → (∀ j, j ≠ id → μ' j = μ j) → Later H μ S W (H.set id o') μ' S' W' → ObjOk μ' S' (H.set id o') W' l o') :
    ∃ μ', μ' id = l ∧ (∀ j, j ≠ id → μ' j = μ j) ∧ Rel (H.set id o') μ' S' W' ∧ Later H μ S W (H.set id o') μ' S' W' := by
  let μ' : Nat → Loc := fun i => if i = id then l else μ i
  have e : μ' id = l := by simp [μ']
  have e' : ∀ j, j ≠ id → μ' j = μ j := fun j hj => by simp [μ', hj]
  have hidlt : id < H.length := by obtain ⟨h, _⟩ := List.getElem?_eq_some_iff.1 ho; exact h
  have hget : ∀ (j : Nat), (H.set id o')[j]? = if j = id then some o' else H[j]? := fun j => by
    rw [List.getElem?_set]
    by_cases h : id = j
    · subst h; simp [hidlt]
    · rw [if_neg h, if_neg (fun h' => h h'.symm)]
  have L : Later H μ S W (H.set id o') μ' S' W' := by
    refine ⟨hos, htape, hout, hsize, fun j p hp => ?_, fun b hb hn => hkeep b hb fun h => hn id ⟨o, ho, h.1⟩ h.2.symm, hS1, fun b hb hs => ?_, fun j hl => ?_⟩
    · by_cases hj : j = id
      · subst hj
        rw [ho] at hp; cases hp
        exact ⟨o', by rw [hget, if_pos rfl], by rw [e]; exact hto⟩
      · exact ⟨p, by rw [hget, if_neg hj]; exact hp, by rw [e' j hj]; exact p.to_refl _⟩
    · rcases hS2 b hs with h | h | h
      · exact .inl h
      · omega
      · exact .inr ⟨id, ⟨o, ho, h.1⟩, h.2.symm⟩
    · obtain ⟨p, hp, hlv⟩ := hl
      rw [hget] at hp
      by_cases hj : j = id
      · subst hj
        rw [if_pos rfl] at hp; cases hp
        rw [e] at hlv ⊢
        rcases hlive hlv with h | h
        · exact .inl h
        · exact .inr ⟨⟨o, ho, h.1⟩, h.2⟩
      · rw [if_neg hj] at hp
        rw [e' j hj] at hlv ⊢
        exact .inr ⟨⟨p, hp, hlv⟩, rfl⟩
  refine ⟨μ', e, e', ⟨fun j p hp => ?_, fun i j hi hj he => ?_, hS3⟩, L⟩
  · rw [hget] at hp
    by_cases hj : j = id
    · subst hj
      rw [if_pos rfl] at hp; cases hp
      rw [e]; exact hok μ' e e' L
    · rw [if_neg hj] at hp
      rw [e' j hj]
      refine ObjOk.later L r hp fun hlv => ?_
      have hl : Live H μ j := ⟨p, hp, hlv⟩
      have hne : ¬ (o.live (μ id) = true ∧ (μ j).blk = (μ id).blk) := fun h => hj (r.inj j id hl ⟨o, ho, h.1⟩ h.2)
      refine ⟨hkeep _ (r.lt hl) hne, fun hs => ?_⟩
      rcases hS2 _ hs with h | h | h
      · exact r.notS hl h
      · have := r.lt hl; omega
      · exact hne h
  · obtain ⟨p, hp, hlp⟩ := hi
    obtain ⟨q, hq, hlq⟩ := hj
    rw [hget] at hp hq
    by_cases h1 : i = id <;> by_cases h2 : j = id
    · rw [h1, h2]
    · subst h1
      rw [if_pos rfl] at hp; cases hp
      rw [if_neg h2] at hq
      rw [e] at hlp he; rw [e' j h2] at hlq he
      have hl : Live H μ j := ⟨q, hq, hlq⟩
      rcases hlive hlp with h | h
      · have := r.lt hl; omega
      · exact (r.inj j i hl ⟨o, ho, h.1⟩ (by omega)).symm
    · subst h2
      rw [if_pos rfl] at hq; cases hq
      rw [if_neg h1] at hp
      rw [e] at hlq he; rw [e' i h1] at hlp he
      have hl : Live H μ i := ⟨p, hp, hlp⟩
      rcases hlive hlq with h | h
      · have := r.lt hl; omega
      · exact r.inj i j hl ⟨o, ho, h.1⟩ (by omega)
    · rw [if_neg h1] at hp; rw [if_neg h2] at hq
      rw [e' i h1] at hlp he; rw [e' j h2] at hlq he
      exact r.inj i j ⟨p, hp, hlp⟩ ⟨q, hq, hlq⟩ he

/-- A row is frozen. -/
theorem freeze (r : Rel H μ S W) {id sz g : Nat} {xs : List T} (ho : rowOf H[id]? = some (sz, g, xs)) :
    ∃ S', Rel (H.set id (.frz sz g xs)) μ S' W ∧ Later H μ S W (H.set id (.frz sz g xs)) μ S' W ∧ ((μ id).cap ≠ 0 → S' (μ id).blk) := by
  cases e : H[id]? with
  | none => rw [e] at ho; cases ho
  | some o =>
    rw [e] at ho
    cases o <;> simp only [rowOf, Option.some.injEq, Prod.mk.injEq, reduceCtorEq] at ho
    · obtain ⟨rfl, rfl, rfl⟩ := ho
      have hr := r.row (id := id) (by rw [e]; rfl)
      obtain ⟨μ', h1, h2, h3, h4⟩ := change (W' := W) (S' := fun b => S b ∨ ((μ id).cap ≠ 0 ∧ b = (μ id).blk)) (o' := .frz _ _ _) r e (μ id) rfl rfl rfl (Nat.le_refl _) (fun _ _ _ => rfl) (fun b h => .inl h)
        (fun b h => by
          rcases h with h | h
          · exact .inl h
          · exact .inr (.inr ⟨by simpa [Obj.live] using h.1, h.2⟩))
        (fun b h => by
          rcases h with h | h
          · exact r.size b h
          · rw [h.2]; exact hr.lt h.1)
        ⟨rfl, .inr ⟨rfl, rfl, rfl⟩⟩ (fun h => by cases h)
        (fun μ' e1 e2 L => ⟨fun hc => .inr ⟨hc, rfl⟩, hr.later L r fun _ => rfl⟩)
      have hμ : μ' = μ := funext fun j => by
        by_cases hj : j = id
        · rw [hj, h1]
        · exact h2 j hj
      subst hμ
      exact ⟨_, h3, h4, fun hc => .inr ⟨hc, rfl⟩⟩
    · rename_i sz0 g0 xs0
      obtain ⟨rfl, rfl, rfl⟩ := ho
      have he : H.set id (.frz sz0 g0 xs0) = H := by
        apply List.ext_getElem?
        intro j
        rw [List.getElem?_set]
        by_cases h : id = j
        · subst h; rw [if_pos rfl, e]; obtain ⟨h, _⟩ := List.getElem?_eq_some_iff.1 e; simp [h]
        · rw [if_neg h]
      rw [he]
      exact ⟨S, r, .refl _ _ _ _, fun hc => (r.objs id _ e).1 hc⟩
end
end Go.Abs
