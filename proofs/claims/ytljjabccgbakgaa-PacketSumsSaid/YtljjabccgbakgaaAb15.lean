/- A call sees only a part of the heap. By the session itself. -/
import Derived.Test.YtljjabccgbakgaaAb14
namespace Go.Abs
open Go Go.RowKit
set_option linter.unusedSimpArgs false
set_option linter.unusedVariables false

/-- Objects put in their places. -/
def setAll : Heap → List Nat → Heap → Heap
  | H, id :: ids, o :: os => setAll (H.set id o) ids os
  | H, _, _ => H

/-- Where the callee's objects are in the caller's heap. -/
def tau (fp : List Nat) (n : Nat) (j : Nat) : Option Nat := if j < fp.length then fp[j]? else some (n + (j - fp.length))

def merge (H : Heap) (fp : List Nat) (F : Heap) : Heap := setAll H fp ((F.take fp.length).map (Obj.ren (tau fp H.length))) ++ (F.drop fp.length).map (Obj.ren (tau fp H.length))

/-- What the callee sees of the heap. -/
def sub (H : Heap) (fp : List Nat) : Heap := fp.map fun id => ((H[id]?).getD default).ren (idx fp)

theorem setAll_length : ∀ (H : Heap) (ids : List Nat) (os : Heap), (setAll H ids os).length = H.length
  | H, [], os => by simp [setAll]
  | H, id :: ids, [] => by simp [setAll]
  | H, id :: ids, o :: os => by rw [setAll, setAll_length]; simp

theorem setAll_get : ∀ (H : Heap) (ids : List Nat) (os : Heap) (id : Nat), ids.Nodup → id < H.length → ids.length = os.length → (setAll H ids os)[id]? = match idx ids id with | some j => os[j]? | none => H[id]?
  | H, [], os, id, _, _, _ => by simp [setAll, idx]
  | H, k :: ks, [], id, _, _, h => by simp at h
  | H, k :: ks, o :: os, id, hn, hlt, hl => by
    rw [List.nodup_cons] at hn
    rw [setAll, setAll_get (H.set k o) ks os id hn.2 (by simpa using hlt) (by simpa using hl)]
    simp only [idx]
    by_cases h : k = id
    · subst h
      rw [if_pos rfl]
      have : idx ks k = none := by
        cases e : idx ks k with
        | none => rfl
        | some j => exact absurd (List.mem_of_getElem? (idx_get e)) hn.1
      rw [this]
      simp [hlt]
    · rw [if_neg h]
      cases e : idx ks id with
      | none => simp only [Option.map_none]; rw [List.getElem?_set, if_neg h]
      | some j => simp

theorem Obj.to_ren {o o' : Obj} {l l' : Loc} (ρ ρ' : Nat → Option Nat) : (o.ren ρ).to (o'.ren ρ') l l' ↔ o.to o' l l' := by
  cases o <;> cases o' <;> simp [Obj.to, Obj.ren, V.renL_eq]

theorem Obj.to_ren1 {o o' : Obj} {l l' : Loc} (ρ ρ' : Nat → Option Nat) (h : (o.ren ρ).to o' l l') : o.to (o'.ren ρ') l l' := by
  cases o <;> cases o' <;> simp_all [Obj.to, Obj.ren, V.renL_eq]

section
variable {P : Program} {H : Heap} {μ : Nat → Loc} {S : Nat → Prop} {W : World}

theorem sub_get {fp : List Nat} (hlt : ∀ id ∈ fp, id < H.length) {j id : Nat} (hj : fp[j]? = some id) : (sub H fp)[j]? = (H[id]?).map (Obj.ren (idx fp)) := by
  have hid := hlt id (List.mem_of_getElem? hj)
  simp only [sub, List.getElem?_map, hj, Option.map_some]
  rw [List.getElem?_eq_getElem hid]; rfl

theorem sub_inv {fp : List Nat} (hlt : ∀ id ∈ fp, id < H.length) {j : Nat} {o : Obj} (ho : (sub H fp)[j]? = some o) : ∃ id o0, fp[j]? = some id ∧ H[id]? = some o0 ∧ o = o0.ren (idx fp) := by
  have hj : j < fp.length := by
    have : (sub H fp).length = fp.length := by simp [sub]
    rw [← this]; obtain ⟨h, _⟩ := List.getElem?_eq_some_iff.1 ho; exact h
  have e := sub_get hlt (j := j) (id := fp[j]) (by simp [hj])
  rw [e] at ho
  cases e2 : H[fp[j]]? with
  | none => rw [e2] at ho; cases ho
  | some o0 => rw [e2] at ho; cases ho; exact ⟨fp[j], o0, by simp [hj], e2, rfl⟩

theorem rel_sub (r : Rel H μ S W) {fp : List Nat} (hnd : fp.Nodup) (hlt : ∀ id ∈ fp, id < H.length) : Rel (sub H fp) (fun j => μ (fp.getD j 0)) S W ∧ Renames (idx fp) H μ (sub H fp) (fun j => μ (fp.getD j 0)) := by
  have hren : Renames (idx fp) H μ (sub H fp) (fun j => μ (fp.getD j 0)) := fun id j h => by
    have := idx_get h
    exact ⟨sub_get hlt this, by simp [this]⟩
  have hmu : ∀ {j id : Nat}, fp[j]? = some id → μ (fp.getD j 0) = μ id := fun h => by simp [h]
  refine ⟨⟨fun j o ho => ?_, fun i j hi hj e => ?_, r.size⟩, hren⟩
  · obtain ⟨id, o0, e1, e2, rfl⟩ := sub_inv hlt ho
    simp only [hmu e1]
    exact (r.objs id o0 e2).ren hren
  · obtain ⟨o, ho, hlo⟩ := hi
    obtain ⟨p, hp, hlp⟩ := hj
    obtain ⟨id, o0, e1, e2, rfl⟩ := sub_inv hlt ho
    obtain ⟨id', o1, f1, f2, rfl⟩ := sub_inv hlt hp
    rw [Obj.ren_live] at hlo hlp
    simp only [hmu e1] at hlo e
    simp only [hmu f1] at hlp e
    have := r.inj id id' ⟨o0, e2, hlo⟩ ⟨o1, f2, hlp⟩ e
    subst this
    have a := get_idx hnd e1
    have b := get_idx hnd f1
    rw [a] at b; exact Option.some.inj b

/-- The frame rule: fp are the objects that the callee may use. -/
theorem SCall.frame {f : FuncId} {args : List V} {Q : V → Heap → Prop} (fp : List Nat) (hnd : fp.Nodup) (hlt : ∀ id ∈ fp, id < H.length) (h : SCall P f (args.map (V.ren (idx fp))) (sub H fp) Q) :
    SCall P f args H fun r H' => ∃ r0 F', Q r0 F' ∧ r = r0.ren (tau fp H.length) ∧ H' = merge H fp F' := by
  refine ⟨h.1, fun μ S W vals r ha => ?_⟩
  obtain ⟨rF, hren⟩ := rel_sub r hnd hlt
  refine (h.2 _ S W vals rF (All2.ren hren ha)).mono ?_
  rintro e W' ⟨r0, u, F', μF, S', rfl, hQ, rF', hv, lF⟩
  have hFl : (sub H fp).length = fp.length := by simp [sub]
  have hk : fp.length ≤ F'.length := by
    rcases Nat.lt_or_ge F'.length fp.length with hlt' | hge
    · exfalso
      have hj : F'.length < (sub H fp).length := by omega
      obtain ⟨o', ho', _⟩ := lF.objs F'.length _ (List.getElem?_eq_getElem hj)
      obtain ⟨hh, _⟩ := List.getElem?_eq_some_iff.1 ho'
      omega
    · exact hge
  let μ' : Nat → Loc := fun id => match idx fp id with
    | some j => μF j
    | none => if id < H.length then μ id else μF (fp.length + (id - H.length))
  have hidx : ∀ {id j : Nat}, idx fp id = some j → j < fp.length ∧ fp[j]? = some id ∧ id < H.length := fun h => by
    have := idx_get h
    refine ⟨by obtain ⟨h, _⟩ := List.getElem?_eq_some_iff.1 this; exact h, this, hlt _ (List.mem_of_getElem? this)⟩
  have hge : ∀ {id : Nat}, H.length ≤ id → idx fp id = none := fun {id} h => by
    cases e : idx fp id with
    | none => rfl
    | some j => have := (hidx e).2.2; omega
  have m1 : ∀ {id j : Nat}, idx fp id = some j → μ' id = μF j := fun h => by simp only [μ', h]
  have m2 : ∀ {id : Nat}, idx fp id = none → id < H.length → μ' id = μ id := fun h h2 => by simp only [μ', h, if_pos h2]
  have m3 : ∀ (k : Nat), μ' (H.length + k) = μF (fp.length + k) := fun k => by
    simp only [μ', hge (Nat.le_add_right _ _), if_neg (show ¬ H.length + k < H.length by omega)]
    congr 2; omega
  have hsl : (setAll H fp ((F'.take fp.length).map (Obj.ren (tau fp H.length)))).length = H.length := setAll_length _ _ _
  have g1 : ∀ {id j : Nat}, idx fp id = some j → (merge H fp F')[id]? = (F'[j]?).map (Obj.ren (tau fp H.length)) := fun {id j} h => by
    obtain ⟨h1, h2, h3⟩ := hidx h
    rw [merge, List.getElem?_append_left (by rw [hsl]; exact h3), setAll_get _ _ _ _ hnd h3 (by simp; omega), h]
    simp only [List.getElem?_map, List.getElem?_take, if_pos h1]
  have g2 : ∀ {id : Nat}, idx fp id = none → id < H.length → (merge H fp F')[id]? = H[id]? := fun {id} h h3 => by
    rw [merge, List.getElem?_append_left (by rw [hsl]; exact h3), setAll_get _ _ _ _ hnd h3 (by simp; omega), h]
  have g3 : ∀ (k : Nat), (merge H fp F')[H.length + k]? = (F'[fp.length + k]?).map (Obj.ren (tau fp H.length)) := fun k => by
    rw [merge, List.getElem?_append_right (by rw [hsl]; omega), hsl, show H.length + k - H.length = k by omega, List.getElem?_map, List.getElem?_drop]
  have hlive : ∀ {id : Nat}, Live (merge H fp F') μ' id → (∃ j, Live F' μF j ∧ μ' id = μF j ∧ (idx fp id = some j ∨ (fp.length ≤ j ∧ id = H.length + (j - fp.length)))) ∨ (idx fp id = none ∧ id < H.length ∧ Live H μ id ∧ μ' id = μ id) := by
    intro id ⟨o, ho, hl⟩
    cases e : idx fp id with
    | some j =>
      rw [g1 e] at ho
      cases e2 : F'[j]? with
      | none => rw [e2] at ho; cases ho
      | some o0 =>
        rw [e2] at ho; cases ho
        rw [Obj.ren_live, m1 e] at hl
        exact .inl ⟨j, ⟨o0, e2, hl⟩, m1 e, .inl rfl⟩
    | none =>
      by_cases h3 : id < H.length
      · rw [g2 e h3] at ho
        rw [m2 e h3] at hl
        exact .inr ⟨rfl, h3, ⟨o, ho, hl⟩, m2 e h3⟩
      · obtain ⟨k, rfl⟩ : ∃ k, id = H.length + k := ⟨id - H.length, by omega⟩
        rw [g3] at ho
        cases e2 : F'[fp.length + k]? with
        | none => rw [e2] at ho; cases ho
        | some o0 =>
          rw [e2] at ho; cases ho
          rw [Obj.ren_live, m3] at hl
          exact .inl ⟨fp.length + k, ⟨o0, e2, hl⟩, m3 k, .inr ⟨by omega, by omega⟩⟩
  have hliveF : ∀ {j : Nat}, Live (sub H fp) (fun j => μ (fp.getD j 0)) j → ∃ id, fp[j]? = some id ∧ Live H μ id ∧ μ (fp.getD j 0) = μ id := by
    intro j ⟨o, ho, hl⟩
    obtain ⟨id, o0, e1, e2, rfl⟩ := sub_inv hlt ho
    rw [Obj.ren_live] at hl
    have : μ (fp.getD j 0) = μ id := by simp [e1]
    exact ⟨id, e1, ⟨o0, e2, this ▸ hl⟩, this⟩
  have L : Later H μ S W (merge H fp F') μ' S' W' := by
    refine ⟨lF.os, lF.tape, lF.output, lF.size, fun id o ho => ?_, fun b hb hn => lF.keep b hb fun j hl e => ?_, lF.mono, fun b hb hs => ?_, fun id hl => ?_⟩
    · have hid : id < H.length := by obtain ⟨h, _⟩ := List.getElem?_eq_some_iff.1 ho; exact h
      cases e : idx fp id with
      | none => exact ⟨o, by rw [g2 e hid]; exact ho, by rw [m2 e hid]; exact o.to_refl _⟩
      | some j =>
        obtain ⟨h1, h2, h3⟩ := hidx e
        have hs := sub_get hlt h2
        rw [ho] at hs
        obtain ⟨o', ho', ht⟩ := lF.objs j _ hs
        refine ⟨o'.ren (tau fp H.length), by rw [g1 e, ho']; rfl, ?_⟩
        rw [m1 e]
        have : μ (fp.getD j 0) = μ id := by simp [h2]
        simp only [this] at ht
        exact Obj.to_ren1 _ _ ht
    · obtain ⟨id, e1, e2, e3⟩ := hliveF hl
      exact hn id e2 (by rw [← e3]; exact e)
    · rcases lF.news b hb hs with h | ⟨j, hl, e⟩
      · exact .inl h
      · obtain ⟨id, e1, e2, e3⟩ := hliveF hl
        exact .inr ⟨id, e2, by rw [← e3]; exact e⟩
    · rcases hlive hl with ⟨j, hj, hm, hor⟩ | ⟨h1, h2, h3, h4⟩
      · rw [hm]
        rcases lF.fresh j hj with h | ⟨h, h'⟩
        · exact .inl h
        · obtain ⟨id', e1, e2, e3⟩ := hliveF h
          rcases hor with hor | ⟨hor, _⟩
          · have := idx_get hor
            rw [this] at e1; cases e1
            exact .inr ⟨e2, by rw [h', e3]⟩
          · have : j < fp.length := by obtain ⟨h, _⟩ := List.getElem?_eq_some_iff.1 e1; exact h
            omega
      · exact .inr ⟨h3, by rw [h4]⟩
  have hren' : Renames (tau fp H.length) F' μF (merge H fp F') μ' := fun j id hj => by
    simp only [tau] at hj
    split at hj
    · have := get_idx hnd hj
      exact ⟨g1 this, m1 this⟩
    · simp only [Option.some.injEq] at hj
      subst hj
      have e : fp.length + (j - fp.length) = j := by omega
      exact ⟨by rw [g3, e], by rw [m3, e]⟩
  refine ⟨r0.ren (tau fp H.length), u, merge H fp F', μ', S', rfl, ⟨r0, F', hQ, rfl, rfl⟩, ⟨fun id o ho => ?_, fun i j hi hj e => ?_, rF'.size⟩, hv.ren hren', L⟩
  · cases e : idx fp id with
    | some j =>
      rw [g1 e] at ho
      cases e2 : F'[j]? with
      | none => rw [e2] at ho; cases ho
      | some o0 =>
        rw [e2] at ho; cases ho
        rw [m1 e]
        exact (rF'.objs j o0 e2).ren hren'
    | none =>
      by_cases h3 : id < H.length
      · rw [g2 e h3] at ho
        rw [m2 e h3]
        refine ObjOk.later L r ho fun hl => ?_
        have hlv : Live H μ id := ⟨o, ho, hl⟩
        have hne : ∀ j, Live (sub H fp) (fun j => μ (fp.getD j 0)) j → (μ (fp.getD j 0)).blk ≠ (μ id).blk := by
          intro j hj he
          obtain ⟨id', e1, e2, e3⟩ := hliveF hj
          rw [e3] at he
          have := r.inj id' id e2 hlv he
          subst this
          rw [get_idx hnd e1] at e; cases e
        refine ⟨lF.keep _ (r.lt hlv) hne, fun hs => ?_⟩
        rcases lF.news _ (r.lt hlv) hs with h | ⟨j, hj, he⟩
        · exact r.notS hlv h
        · exact hne j hj he
      · obtain ⟨k, rfl⟩ : ∃ k, id = H.length + k := ⟨id - H.length, by omega⟩
        rw [g3] at ho
        cases e2 : F'[fp.length + k]? with
        | none => rw [e2] at ho; cases ho
        | some o0 =>
          rw [e2] at ho; cases ho
          rw [m3]
          exact (rF'.objs _ o0 e2).ren hren'
  · have mixed : ∀ {i j j0 : Nat}, Live F' μF j0 → μ' i = μF j0 → (idx fp i = some j0 ∨ (fp.length ≤ j0 ∧ i = H.length + (j0 - fp.length))) → idx fp j = none → Live H μ j → μ' j = μ j → (μ' i).blk = (μ' j).blk → False := by
      intro i j j0 h1 h2 h3 h4 h5 h6 he
      rw [h2, h6] at he
      have hlj := r.lt h5
      rcases lF.fresh j0 h1 with h | ⟨h, h'⟩
      · omega
      · obtain ⟨id', e1, e2, e3⟩ := hliveF h
        rw [h', e3] at he
        have := r.inj id' j e2 h5 he
        subst this
        rw [get_idx hnd e1] at h4; cases h4
    rcases hlive hi with ⟨j1, a1, a2, a3⟩ | ⟨a1, a2, a3, a4⟩ <;> rcases hlive hj with ⟨j2, b1, b2, b3⟩ | ⟨b1, b2, b3, b4⟩
    · rw [a2, b2] at e
      have := rF'.inj j1 j2 a1 b1 e
      subst this
      rcases a3 with a3 | ⟨a3, a3'⟩ <;> rcases b3 with b3 | ⟨b3, b3'⟩
      · have x := idx_get a3; have y := idx_get b3; rw [x] at y; exact Option.some.inj y
      · have := (hidx a3).1; omega
      · have := (hidx b3).1; omega
      · omega
    · exact (mixed a1 a2 a3 b1 b3 b4 e).elim
    · exact (mixed b1 b2 b3 a1 a3 a4 e.symm).elim
    · rw [a4, b4] at e; exact r.inj i j a3 b3 e

end
end Go.Abs
