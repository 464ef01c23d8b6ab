/- What may be forgotten and renamed; how a call sees only a part of the heap. By the session itself. -/
import Derived.Test.YtljjabccgbakgaaAb13
namespace Go.Abs
open Go Go.RowKit
set_option linter.unusedSimpArgs false
set_option linter.unusedVariables false

mutual
def V.ren (ρ : Nat → Option Nat) : V → V
  | .t x => .t x
  | .agg cs => .agg (V.renL ρ cs)
  | .sl id off len gen sz => match ρ id with
    | some j => .sl j off len gen sz
    | none => .undef
  | .bsl id off len => match ρ id with
    | some j => .bsl j off len
    | none => .undef
  | .ref id off => match ρ id with
    | some j => .ref j off
    | none => .undef
  | .elt id i off gen => match ρ id with
    | some j => .elt j i off gen
    | none => .undef
  | .ip cs => .ip cs
  | .fn f cs => .fn f (V.renL ρ cs)
  | .tup cs => .tup (V.renL ρ cs)
  | .mp id => match ρ id with
    | some j => .mp j
    | none => .undef
  | .undef => .undef
def V.renL (ρ : Nat → Option Nat) : List V → List V
  | [] => []
  | v :: vs => V.ren ρ v :: V.renL ρ vs
end

def Obj.ren (ρ : Nat → Option Nat) : Obj → Obj
  | .box cs => .box (V.renL ρ cs)
  | o => o

theorem V.renL_eq (ρ : Nat → Option Nat) : ∀ cs : List V, V.renL ρ cs = cs.map (V.ren ρ)
  | [] => rfl
  | c :: cs => by simp only [V.renL, List.map_cons, V.renL_eq ρ cs]

theorem rowOf_ren (ρ : Nat → Option Nat) (o : Option Obj) : rowOf (o.map (Obj.ren ρ)) = rowOf o := by
  cases o with
  | none => rfl
  | some o => cases o <;> rfl

theorem Obj.ren_live (ρ : Nat → Option Nat) (o : Obj) (l : Loc) : (o.ren ρ).live l = o.live l := by cases o <;> rfl

section
variable {P : Program} {H H' : Heap} {μ μ' : Nat → Loc} {S S' : Nat → Prop} {W W' : World}

/-- A renaming of the heap's objects. -/
def Renames (ρ : Nat → Option Nat) (H : Heap) (μ : Nat → Loc) (H' : Heap) (μ' : Nat → Loc) : Prop := ∀ id j, ρ id = some j → H'[j]? = (H[id]?).map (Obj.ren ρ) ∧ μ' j = μ id

theorem RV.ren {ρ : Nat → Option Nat} (h : Renames ρ H μ H' μ') {v : V} {u : Value} (hv : RV μ S H W v u) : RV μ' S H' W (v.ren ρ) u := by
  induction hv with
  | undef v => exact .undef v
  | t h => exact .t h
  | agg us hl _ ih =>
    refine .agg us (by simp [V.renL_eq, hl]) fun i c u hc hu => ?_
    rw [V.renL_eq, List.getElem?_map] at hc
    cases e : (_ : List V)[i]? with
    | none => rw [e] at hc; cases hc
    | some y => rw [e] at hc; cases hc; exact ih i y u e hu
  | tup us hl _ ih =>
    refine .tup us (by simp [V.renL_eq, hl]) fun i c u hc hu => ?_
    rw [V.renL_eq, List.getElem?_map] at hc
    cases e : (_ : List V)[i]? with
    | none => rw [e] at hc; cases hc
    | some y => rw [e] at hc; cases hc; exact ih i y u e hu
  | fn us hl _ ih =>
    refine .fn us (by simp [V.renL_eq, hl]) fun i c u hc hu => ?_
    rw [V.renL_eq, List.getElem?_map] at hc
    cases e : (_ : List V)[i]? with
    | none => rw [e] at hc; cases hc
    | some y => rw [e] at hc; cases hc; exact ih i y u e hu
  | @sl id off len gen sz a cap sz' g xs hr hg hcap hn hh =>
    simp only [V.ren]
    cases e : ρ id with
    | none => exact .undef _
    | some j =>
      obtain ⟨h1, h2⟩ := h id j e
      exact .sl a cap sz' g xs (by rw [h1, rowOf_ren]; exact hr) hg hcap hn (h2 ▸ hh)
  | @bsl id off len a cap cs hb hcap hl ha =>
    simp only [V.ren]
    cases e : ρ id with
    | none => exact .undef _
    | some j =>
      obtain ⟨h1, h2⟩ := h id j e
      exact .bsl a cap (V.renL ρ cs) (by rw [h1, hb]; rfl) hcap (by simpa [V.renL_eq] using hl) (h2 ▸ ha)
  | @ref id off cs hb =>
    simp only [V.ren]
    cases e : ρ id with
    | none => exact .undef _
    | some j =>
      obtain ⟨h1, h2⟩ := h id j e
      rw [← h2]; exact .ref (V.renL ρ cs) (by rw [h1, hb]; rfl)
  | @elt id i off gen a sz g xs hr hg hh =>
    simp only [V.ren]
    cases e : ρ id with
    | none => exact .undef _
    | some j =>
      obtain ⟨h1, h2⟩ := h id j e
      exact .elt a sz g xs (by rw [h1, rowOf_ren]; exact hr) hg (h2 ▸ hh)
  | ip a us hl hsp hS hc hr => exact .ip a us hl hsp hS hc hr
  | @mp id es hb =>
    simp only [V.ren]
    cases e : ρ id with
    | none => exact .undef _
    | some j =>
      obtain ⟨h1, h2⟩ := h id j e
      rw [← h2]; exact .mp es (by rw [h1, hb]; rfl)

theorem All2.ren {ρ : Nat → Option Nat} (h : Renames ρ H μ H' μ') {vs : List V} {us : List Value} (hv : All2 (RV μ S H W) vs us) : All2 (RV μ' S H' W) (vs.map (V.ren ρ)) us := by
  refine ⟨by simp [hv.1], fun i c u hc hu => ?_⟩
  rw [List.getElem?_map] at hc
  cases e : vs[i]? with
  | none => rw [e] at hc; cases hc
  | some y => rw [e] at hc; cases hc; exact (hv.2 i y u e hu).ren h

theorem ObjOk.ren {ρ : Nat → Option Nat} (h : Renames ρ H μ H' μ') {o : Obj} {l : Loc} (ho : ObjOk μ S H W l o) : ObjOk μ' S H' W l (o.ren ρ) := by
  cases o with
  | box cs =>
    obtain ⟨h1, us, ty, h2, h3, h4⟩ := ho
    have := All2.ren (S := S) (W := W) h ⟨h3.symm, h4⟩
    rw [← V.renL_eq] at this
    exact ⟨h1, us, ty, h2, this.1.symm, this.2⟩
  | row sz g xs => exact ho
  | frz sz g xs => exact ho
  | map es => exact ho

def idx : List Nat → Nat → Option Nat
  | [], _ => none
  | k :: ks, id => if k = id then some 0 else (idx ks id).map (· + 1)

theorem idx_get : ∀ {ks : List Nat} {id j : Nat}, idx ks id = some j → ks[j]? = some id
  | [], _, _, h => by simp [idx] at h
  | k :: ks, id, j, h => by
    simp only [idx] at h
    split at h
    · rename_i e; cases h; simp [e]
    · cases e : idx ks id with
      | none => rw [e] at h; cases h
      | some m => rw [e] at h; cases h; simpa using idx_get e

theorem get_idx : ∀ {ks : List Nat} {id j : Nat}, ks.Nodup → ks[j]? = some id → idx ks id = some j
  | [], _, _, _, h => by simp at h
  | k :: ks, id, j, hn, h => by
    rw [List.nodup_cons] at hn
    simp only [idx]
    cases j with
    | zero => simp at h; simp [h]
    | succ j =>
      have h' : ks[j]? = some id := by simpa using h
      have hne : ¬ k = id := fun e => hn.1 (by rw [e]; exact List.mem_of_getElem? h')
      rw [if_neg hne, get_idx hn.2 h']; rfl

/-- Only some slots and some objects are kept. -/
def gcSt (slots keep : List Nat) (s : St) : St := ⟨slots.map fun t => (t, (get s.vs t).ren (idx keep)), keep.map fun id => ((s.h[id]?).getD default).ren (idx keep)⟩

theorem get_map (f : Nat → V) : ∀ (slots : List Nat) (t : Nat), get (slots.map fun t => (t, f t)) t = if t ∈ slots then f t else .undef
  | [], t => by simp [get]
  | k :: ks, t => by
    simp only [List.map_cons, get, get_map f ks t]
    by_cases h : k = t
    · subst h; simp
    · rw [if_neg h]
      by_cases h2 : t ∈ ks
      · rw [if_pos h2, if_pos (List.mem_cons_of_mem _ h2)]
      · rw [if_neg h2, if_neg (fun hm => by rcases List.mem_cons.1 hm with e | e; exact h e.symm; exact h2 e)]

theorem weak_gc {n : Nat} {s : St} (slots keep : List Nat) (h1 : keep.take n = List.range n) (hn : n ≤ keep.length) (h2 : keep.Nodup) (h3 : ∀ id ∈ keep, id < s.h.length) : Weak n s (gcSt slots keep s) := by
  intro H0 μ0 S0 W0 μ S W val hH r l hv
  let μ' : Nat → Loc := fun j => μ (keep.getD j 0)
  have hob : ∀ (j : Nat) id, keep[j]? = some id → (gcSt slots keep s).h[j]? = (s.h[id]?).map (Obj.ren (idx keep)) ∧ μ' j = μ id := by
    intro j id hj
    have hid := h3 id (List.mem_of_getElem? hj)
    refine ⟨?_, by simp [μ', hj]⟩
    simp only [gcSt, List.getElem?_map, hj, Option.map_some]
    rw [List.getElem?_eq_getElem hid]; rfl
  have hren : Renames (idx keep) s.h μ (gcSt slots keep s).h μ' := fun id j h => hob j id (idx_get h)
  have hlen : (gcSt slots keep s).h.length = keep.length := by simp [gcSt]
  have hinv : ∀ {j : Nat} {o : Obj}, (gcSt slots keep s).h[j]? = some o → ∃ id o0, keep[j]? = some id ∧ s.h[id]? = some o0 ∧ o = o0.ren (idx keep) ∧ μ' j = μ id := by
    intro j o ho
    have hj : j < keep.length := by rw [← hlen]; obtain ⟨h, _⟩ := List.getElem?_eq_some_iff.1 ho; exact h
    obtain ⟨e1, e2⟩ := hob j keep[j] (by simp [hj])
    rw [e1] at ho
    cases e : s.h[keep[j]]? with
    | none => rw [e] at ho; cases ho
    | some o0 => rw [e] at ho; cases ho; exact ⟨keep[j], o0, by simp [hj], e, rfl, e2⟩
  have hkeep : ∀ i, i < n → keep[i]? = some i := by
    intro i hi
    have : (keep.take n)[i]? = some i := by rw [h1]; simp [hi]
    rw [List.getElem?_take, if_pos hi] at this
    exact this
  refine ⟨μ', S, ⟨fun j o ho => ?_, fun i j hi hj e => ?_, r.size⟩, ⟨l.os, l.tape, l.output, l.size, fun id o ho => ?_, l.keep, l.mono, l.news, fun j hl => ?_⟩, fun t => ?_⟩
  · obtain ⟨id, o0, e1, e2, rfl, e3⟩ := hinv ho
    rw [e3]
    exact (r.objs id o0 e2).ren hren
  · obtain ⟨o, ho, hlo⟩ := hi
    obtain ⟨p, hp, hlp⟩ := hj
    obtain ⟨id, o0, e1, e2, rfl, e3⟩ := hinv ho
    obtain ⟨id', o1, f1, f2, rfl, f3⟩ := hinv hp
    rw [Obj.ren_live, e3] at hlo
    rw [Obj.ren_live, f3] at hlp
    rw [e3, f3] at e
    have := r.inj id id' ⟨o0, e2, hlo⟩ ⟨o1, f2, hlp⟩ e
    subst this
    have a := get_idx h2 e1
    have b := get_idx h2 f1
    rw [a] at b; exact Option.some.inj b
  · have hid : id < H0.length := by obtain ⟨h, _⟩ := List.getElem?_eq_some_iff.1 ho; exact h
    obtain ⟨o', ho', ht⟩ := l.objs id o ho
    obtain ⟨e1, e2⟩ := hob id id (hkeep id (by omega))
    refine ⟨o'.ren (idx keep), by rw [e1, ho']; rfl, ?_⟩
    rw [e2]
    cases o <;> cases o' <;> first | exact ht | (simp only [Obj.to, Obj.ren, V.renL_eq, List.length_map] at ht ⊢; exact ht)
  · obtain ⟨o, ho, hlo⟩ := hl
    obtain ⟨id, o0, e1, e2, rfl, e3⟩ := hinv ho
    rw [Obj.ren_live, e3] at hlo
    rw [e3]
    rcases l.fresh id ⟨o0, e2, hlo⟩ with h | ⟨h, h'⟩
    · exact .inl h
    · obtain ⟨o1, ho1, _⟩ := id_lt h
      have hid : id < H0.length := by obtain ⟨h, _⟩ := List.getElem?_eq_some_iff.1 ho1; exact h
      have : j = id := by
        have a := get_idx h2 e1
        have b := get_idx h2 (hkeep id (by omega))
        rw [a] at b; exact Option.some.inj b
      subst this
      exact .inr ⟨h, h'⟩
  · simp only [gcSt, get_map (fun t => (get s.vs t).ren (idx keep))]
    split
    · exact (hv t).ren hren
    · exact .undef _
where
  id_lt {H : Heap} {μ : Nat → Loc} {id : Nat} (h : Live H μ id) : ∃ o, H[id]? = some o ∧ True := by
    obtain ⟨o, h1, _⟩ := h; exact ⟨o, h1, trivial⟩

/-- A nil slice in a slot becomes an empty row without capacity. -/
def rowSt (t sz : Nat) (s : St) : St := ⟨put s.vs t (.sl s.h.length 0 0 0 sz), s.h ++ [.row sz 0 []]⟩

theorem weak_row {n : Nat} {s : St} (t sz : Nat) {m : Nat} (h : get s.vs t = .t (.lst m true [])) : Weak n s (rowSt t sz s) := by
  intro H0 μ0 S0 W0 μ S W val hH r l hv
  obtain ⟨μ', he, r', l'⟩ := grow1 r (Below.refl _ W) (.row sz 0 []) ⟨0, 0, 0⟩ (fun h => by simp [Obj.live] at h) (fun μ' e L => ⟨fun h => by simp at h, .nil _, by simp, fun h => by simp at h⟩)
  refine ⟨μ', S, r', l.trans l', fun u => ?_⟩
  simp only [rowSt, get_put]
  by_cases hu : t = u
  · subst hu
    rw [if_pos rfl]
    have hv' := hv t
    rw [h] at hv'
    generalize val t = w at hv'
    have h' := hv'.t_inv
    cases h' with
    | lst a cap us hsz hcap ht hnone hl hS hc hr =>
      have hc0 : cap = 0 := ht rfl
      subst hc0
      exact .sl a 0 sz 0 [] (by simp [rowOf]) (Nat.le_refl _) (Nat.le_refl _) (fun _ => rfl) fun _ => ⟨rfl, by simp, fun h => by simp at h⟩
  · rw [if_neg hu]; exact (hv u).later l' r

end
end Go.Abs
