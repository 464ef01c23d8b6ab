/- Calls that only read what they are handed: rows are lent. By the session itself. -/
import Derived.Test.YtljjabccgbakgaaAb15
namespace Go.Abs
open Go Go.RowKit
set_option linter.unusedSimpArgs false
set_option linter.unusedVariables false

def T.scal : T → Bool
  | .lst _ _ [] => true
  | .lst _ _ (_ :: _) => false
  | .agg _ => false
  | _ => true

def T.flat (x : T) : Bool := x.cells.all T.scal

mutual
def V.flatV : V → Bool
  | .t x => x.flat
  | .agg cs => V.flatL cs
  | .tup cs => V.flatL cs
  | .fn _ cs => V.flatL cs
  | .ip _ => false
  | _ => true
def V.flatL : List V → Bool
  | [] => true
  | v :: vs => V.flatV v && V.flatL vs
end

def Obj.flatO : Obj → Bool
  | .box cs => V.flatL cs
  | .row _ _ xs => xs.all T.flat
  | .frz _ _ _ => false
  | .map _ => false

mutual
def view (H : Heap) : V → V
  | .t x => .t x
  | .agg cs => .agg (viewL H cs)
  | .tup cs => .tup (viewL H cs)
  | .fn f cs => .fn f (viewL H cs)
  | .ip cs => .ip cs
  | .sl id off len gen sz => match rowOf H[id]? with
    | some (sz', g, xs) => if gen = g ∧ sz' = sz then .t (.lst sz false ((xs.drop off).take len)) else .undef
    | none => .undef
  | _ => .undef
def viewL (H : Heap) : List V → List V
  | [] => []
  | v :: vs => view H v :: viewL H vs
end

theorem viewL_eq (H : Heap) : ∀ cs : List V, viewL H cs = cs.map (view H)
  | [] => rfl
  | c :: cs => by simp only [viewL, List.map_cons, viewL_eq H cs]

theorem flatL_eq : ∀ cs : List V, V.flatL cs = cs.all V.flatV
  | [] => rfl
  | c :: cs => by simp only [V.flatL, List.all_cons, flatL_eq cs]

section
variable {P : Program} {H : Heap} {μ : Nat → Loc} {S S2 : Nat → Prop} {W W2 : World}

theorem RT.scal_any {x : T} {v : Value} (hx : x.scal = true) (h : RT S W x v) : RT S2 W2 x v := by
  cases h with
  | bool b => exact .bool b
  | int k n => exact .int k n
  | str s => exact .str s
  | nilp => exact .nilp
  | nilf => exact .nilf
  | agg => cases hx
  | lst a cap us hsz hcap ht hn hl hS hc hr =>
    rename_i xs
    cases xs with
    | nil =>
      have hu : us = [] := List.length_eq_zero_iff.1 (by rw [hl]; rfl)
      subst hu
      exact .lst a cap [] hsz hcap ht hn hl (fun a' _ h => absurd h (by simp)) (fun a' _ i u h => by simp at h) (fun i c u hc => by simp [Abs.flat] at hc)
    | cons => cases hx

theorem RT.flat_any {x : T} {v : Value} (hx : x.flat = true) (h : RT S W x v) : RT S2 W2 x v := by
  cases h with
  | agg us hl h =>
    refine .agg us hl fun i c u hc hu => (h i c u hc hu).scal_any ?_
    exact List.all_eq_true.1 hx c (List.mem_of_getElem? hc)
  | bool b => exact .bool b
  | int k n => exact .int k n
  | str s => exact .str s
  | nilp => exact .nilp
  | nilf => exact .nilf
  | lst a cap us hsz hcap ht hn hl hS hc hr => exact (RT.lst a cap us hsz hcap ht hn hl hS hc hr).scal_any (by simpa [T.flat, T.cells] using hx)

theorem RV.flat_any {v : V} {u : Value} (h : RV μ S H W v u) : v.flatV = true → RV μ S2 H W v u := by
  induction h with
  | undef v => intro _; exact .undef v
  | t h => intro hf; exact .t (h.flat_any (by simpa [V.flatV] using hf))
  | agg us hl _ ih => intro hf; simp only [V.flatV, flatL_eq] at hf; exact .agg us hl fun i c u hc hu => ih i c u hc hu (List.all_eq_true.1 hf c (List.mem_of_getElem? hc))
  | tup us hl _ ih => intro hf; simp only [V.flatV, flatL_eq] at hf; exact .tup us hl fun i c u hc hu => ih i c u hc hu (List.all_eq_true.1 hf c (List.mem_of_getElem? hc))
  | fn us hl _ ih => intro hf; simp only [V.flatV, flatL_eq] at hf; exact .fn us hl fun i c u hc hu => ih i c u hc hu (List.all_eq_true.1 hf c (List.mem_of_getElem? hc))
  | sl a cap sz' g xs hr hg hcap hn hh => intro _; exact .sl a cap sz' g xs hr hg hcap hn hh
  | bsl a cap cs hb hcap hl ha => intro _; exact .bsl a cap cs hb hcap hl ha
  | ref cs hb => intro _; exact .ref cs hb
  | elt a sz g xs hr hg hh => intro _; exact .elt a sz g xs hr hg hh
  | ip a us hl hsp hS hc hr => intro hf; simp [V.flatV] at hf
  | mp es hb => intro _; exact .mp es hb

theorem flat_cells {xs : List T} (h : xs.all T.flat = true) : ∀ c ∈ Abs.flat xs, c.scal = true := by
  intro c hc
  simp only [Abs.flat, List.mem_flatMap] at hc
  obtain ⟨x, hx, hcx⟩ := hc
  exact List.all_eq_true.1 (List.all_eq_true.1 h x hx) c hcx

theorem RowAt.flat_any {l : Loc} {sz : Nat} {xs : List T} (hf : xs.all T.flat = true) (h : RowAt S W l sz xs) : RowAt S2 W l sz xs := by
  obtain ⟨h1, h2, h3⟩ := h
  refine ⟨h1, h2, fun hc => ?_⟩
  obtain ⟨us, ty, fz, a, b, c, d⟩ := h3 hc
  exact ⟨us, ty, fz, a, b, c, fun i x u hi hu => (d i x u hi hu).scal_any (flat_cells hf x (List.mem_of_getElem? hi))⟩

/-- The rows' blocks. -/
def RowsOf (H : Heap) (μ : Nat → Loc) (b : Nat) : Prop := ∃ id q, rowOf H[id]? = some q ∧ (μ id).cap ≠ 0 ∧ b = (μ id).blk

theorem RV.view (r : Rel H μ S W) (μ0 : Nat → Loc) {v : V} {u : Value} (h : RV μ S H W v u) : RV μ0 (fun b => S b ∨ RowsOf H μ b) [] W (view H v) u := by
  induction h with
  | undef v => exact .undef v
  | t h => exact .t (h.mono (fun b hb => .inl hb) (fun _ _ => rfl))
  | agg us hl _ ih =>
    simp only [Abs.view]
    refine .agg us (by simp [viewL_eq, hl]) fun i c u hc hu => ?_
    rw [viewL_eq, List.getElem?_map] at hc
    cases e : (_ : List V)[i]? with
    | none => rw [e] at hc; cases hc
    | some y => rw [e] at hc; cases hc; exact ih i y u e hu
  | tup us hl _ ih =>
    simp only [Abs.view]
    refine .tup us (by simp [viewL_eq, hl]) fun i c u hc hu => ?_
    rw [viewL_eq, List.getElem?_map] at hc
    cases e : (_ : List V)[i]? with
    | none => rw [e] at hc; cases hc
    | some y => rw [e] at hc; cases hc; exact ih i y u e hu
  | fn us hl _ ih =>
    simp only [Abs.view]
    refine .fn us (by simp [viewL_eq, hl]) fun i c u hc hu => ?_
    rw [viewL_eq, List.getElem?_map] at hc
    cases e : (_ : List V)[i]? with
    | none => rw [e] at hc; cases hc
    | some y => rw [e] at hc; cases hc; exact ih i y u e hu
  | @sl id off len gen sz a cap sz2 g2 xs2 hr2 hg2 hcap2 hn2 hh =>
    simp only [Abs.view, hr2]
    split
    · rename_i hg
      obtain ⟨hg, rfl⟩ := hg
      obtain ⟨_, hlen, ha⟩ := hh hg
      obtain ⟨hsized, hcapr, hblk⟩ := r.row hr2
      have hl : ((xs2.drop off).take len).length = len := by simp; omega
      refine .t ?_
      have e : RT (fun b => S b ∨ RowsOf H μ b) W (.lst sz2 false ((xs2.drop off).take len)) (.slice a ((xs2.drop off).take len).length cap) := by
        by_cases hc0 : cap = 0
        · have h0 : len = 0 := by omega
          subst h0
          exact .lst a cap [] (by simp; exact .nil _) (by simp) (by simp) (fun _ => ⟨by simp, hc0⟩) (by simp [flat]) (by simp) (by simp) (by simp)
        · obtain ⟨rfl, hcc⟩ := ha hc0
          have hcr : (μ id).cap ≠ 0 := by omega
          obtain ⟨us, ty, fz, hw, _, hul, hrt⟩ := hblk hcr
          have hfl := flat_length hsized
          have hm1 : len * sz2 + off * sz2 ≤ xs2.length * sz2 := by rw [← Nat.add_mul]; exact Nat.mul_le_mul_right _ (by omega)
          have hm2 : xs2.length * sz2 ≤ (μ id).cap * sz2 := Nat.mul_le_mul_right _ hcapr
          refine .lst _ cap ((us.drop ((μ id).off + off * sz2)).take (len * sz2)) ((hsized.drop off).take len) (by omega) (by simp) (fun e => by simp at e) ?_ (fun a' e _ => ?_) (fun a' e i w hi => ?_) (fun i c w hi hw' => ?_)
          · rw [flat_take len (hsized.drop off), flat_drop off hsized]
            simp only [List.length_take, List.length_drop]; omega
          · cases e; exact .inr ⟨id, _, hr2, hcr, rfl⟩
          · cases e
            rw [List.getElem?_take] at hi
            split at hi
            · rw [List.getElem?_drop] at hi
              rw [add_eq rfl, cell_at hw]; exact hi
            · cases hi
          · rw [flat_take len (hsized.drop off), flat_drop off hsized] at hi
            rw [List.getElem?_take] at hi hw'
            split at hi
            · rw [if_pos (by assumption)] at hw'
              rw [List.getElem?_drop] at hi hw'
              exact (hrt _ c w hi (by rw [← Nat.add_assoc]; exact hw')).mono (fun b hb => .inl hb) (fun _ _ => rfl)
            · cases hi
      rw [hl] at e; exact e
    · exact .undef _
  | bsl a cap cs hb hcap hl ha => exact .undef _
  | ref cs hb => exact .undef _
  | elt a sz g xs hr hg hh => exact .undef _
  | ip a us hl hsp hS hc hr => exact .ip a us hl hsp (fun h => .inl (hS h)) hc fun i c u hi hu => (hr i c u hi hu).mono (fun b hb => .inl hb) (fun _ _ => rfl)
  | mp es hb => exact .undef _

/-- A call that only reads what it is handed, and whose results hold no slices within slices. -/
theorem SCall.lend {f : FuncId} {args : List V} {Q : V → Heap → Prop} (h : SCall P f (args.map (Abs.view H)) [] Q) (hflat : ∀ r N, Q r N → r.flatV = true ∧ N.all Obj.flatO = true) :
    SCall P f args H fun r H' => ∃ r0 N, Q r0 N ∧ r = r0.ren (tau [] H.length) ∧ H' = H ++ N.map (Obj.ren (tau [] H.length)) := by
  refine ⟨h.1, fun μ S W vals r ha => ?_⟩
  have r0 : Rel [] (fun _ => ⟨0, 0, 0⟩) (fun b => S b ∨ RowsOf H μ b) W := by
    refine ⟨fun id o h => by simp at h, fun i j hi => by obtain ⟨o, ho, _⟩ := hi; simp at ho, fun b hb => ?_⟩
    rcases hb with hb | ⟨id, q, h1, h2, rfl⟩
    · exact r.size b hb
    · obtain ⟨sz, g, xs⟩ := q; exact (r.row h1).lt h2
  refine (h.2 _ _ W vals r0 ⟨by simp [ha.1], fun i c u hc hu => ?_⟩).mono ?_
  · rw [List.getElem?_map] at hc
    cases e : args[i]? with
    | none => rw [e] at hc; cases hc
    | some y => rw [e] at hc; cases hc; exact (ha.2 i y u e hu).view r _
  rintro e W' ⟨v0, u, N, μF, S', rfl, hQ, rF, hv, lF⟩
  obtain ⟨hf1, hf2⟩ := hflat v0 N hQ
  have hnl : ∀ id, ¬ Live ([] : Heap) (fun _ => ⟨0, 0, 0⟩) id := fun id ⟨o, ho, _⟩ => by simp at ho
  have b : Below W.heap.size W W' := ⟨lF.os, lF.tape, lF.output, lF.size, fun k hk => lF.keep k hk fun id hl => absurd hl (hnl id)⟩
  let μ' : Nat → Loc := fun i => if i < H.length then μ i else μF (i - H.length)
  have m1 : ∀ i, i < H.length → μ' i = μ i := fun i h => by simp [μ', h]
  have m2 : ∀ j, μ' (H.length + j) = μF j := fun j => by simp only [μ', if_neg (show ¬ H.length + j < H.length by omega)]; congr 1; omega
  have hfr : ∀ j, Live N μF j → W.heap.size ≤ (μF j).blk := fun j hj => by
    rcases lF.fresh j hj with h | ⟨h, _⟩
    · exact h
    · exact absurd h (hnl j)
  let N' := N.map (Obj.ren (tau [] H.length))
  have inv : ∀ {j : Nat} {o : Obj}, N'[j]? = some o → ∃ o0, N[j]? = some o0 ∧ o = o0.ren (tau [] H.length) := by
    intro j o ho
    simp only [N', List.getElem?_map] at ho
    cases e : N[j]? with
    | none => rw [e] at ho; cases ho
    | some o0 => rw [e] at ho; cases ho; exact ⟨o0, rfl, rfl⟩
  have hren : Renames (tau [] H.length) N μF (H ++ N') μ' := fun j id hj => by
    simp only [tau, List.length_nil, Nat.not_lt_zero, if_false, Nat.sub_zero, Option.some.injEq] at hj
    subst hj
    exact ⟨by rw [List.getElem?_append_right (by omega), show H.length + j - H.length = j by omega]; simp [N'], m2 j⟩
  obtain ⟨r', l'⟩ := grow (μ' := μ') (S' := fun b => S b ∨ (W.heap.size ≤ b ∧ S' b)) r b (fun _ h => .inl h) (fun k h => by rcases h with h | h; exact .inl h; exact .inr h.1) (fun k h => by
      rcases h with h | h
      · exact Nat.lt_of_lt_of_le (r.size k h) b.size
      · exact rF.size k h.2) N' m1
    (fun j o ho hl => by
      obtain ⟨o0, e1, rfl⟩ := inv ho
      rw [Obj.ren_live, m2] at hl
      rw [m2]; exact hfr j ⟨o0, e1, hl⟩)
    (fun i j o o' ho ho' hl hl' e => by
      obtain ⟨o0, e1, rfl⟩ := inv ho
      obtain ⟨o1, e2, rfl⟩ := inv ho'
      rw [Obj.ren_live, m2] at hl hl'
      rw [m2, m2] at e
      exact rF.inj i j ⟨o0, e1, hl⟩ ⟨o1, e2, hl'⟩ e)
    (fun L j o ho => by
      obtain ⟨o0, e1, rfl⟩ := inv ho
      rw [m2]
      have hob := rF.objs j o0 e1
      have hflo := List.all_eq_true.1 hf2 o0 (List.mem_of_getElem? e1)
      have notS : ∀ (hl : o0.live (μF j) = true), ¬ (S (μF j).blk ∨ (W.heap.size ≤ (μF j).blk ∧ S' (μF j).blk)) := fun hl hs => by
        have h1 := hfr j ⟨o0, e1, hl⟩
        rcases hs with hs | hs
        · have := r.size _ hs; omega
        · exact rF.notS ⟨o0, e1, hl⟩ hs.2
      have hob2 : ObjOk μF (fun b => S b ∨ (W.heap.size ≤ b ∧ S' b)) N W' (μF j) o0 := by
        cases o0 with
        | box cs =>
          obtain ⟨h1, us, ty, h2, h3, h4⟩ := hob
          simp only [Obj.flatO, flatL_eq] at hflo
          exact ⟨notS rfl, us, ty, h2, h3, fun i c u hc hu => (h4 i c u hc hu).flat_any (List.all_eq_true.1 hflo c (List.mem_of_getElem? hc))⟩
        | row sz g xs => exact ⟨fun hc => notS (by simpa [Obj.live] using hc), hob.2.flat_any hflo⟩
        | frz sz g xs => simp [Obj.flatO] at hflo
        | map es => simp [Obj.flatO] at hflo
      exact hob2.ren hren)
  exact ⟨v0.ren (tau [] H.length), u, H ++ N', μ', _, rfl, ⟨v0, N, hQ, rfl, rfl⟩, r', (hv.flat_any hf1).ren hren, l'⟩

/-- An argument is frozen for good. -/
theorem SCall.frz {f : FuncId} {args : List V} {Q : V → Heap → Prop} (i : Nat) {v : V} {x : T} {H1 : Heap} (hget : args[i]? = some v) (hk : toT H v = some (x, H1)) (h : SCall P f (args.set i (.t x)) H1 Q) : SCall P f args H Q := by
  refine ⟨h.1, fun μ S W vals r ha => ?_⟩
  have hi : i < args.length := by obtain ⟨h, _⟩ := List.getElem?_eq_some_iff.1 hget; exact h
  have hiv : i < vals.length := by rw [← ha.1]; exact hi
  obtain ⟨S1, r1, l1, e1⟩ := toT_sound r (ha.2 i v vals[i] hget (by simp [hiv])) hk
  refine (h.2 μ S1 W vals r1 ⟨by simp [ha.1], fun j c u hc hu => ?_⟩).mono ?_
  · rw [List.getElem?_set] at hc
    split at hc
    · rename_i e; subst e
      first | rw [if_pos hi] at hc | skip
      cases hc
      rw [List.getElem?_eq_getElem hiv] at hu; cases hu
      exact .t e1
    · exact (ha.2 j c u hc hu).later l1 r
  · rintro e W' ⟨v0, u, H', μ', S', rfl, hQ, r', hv, l'⟩
    exact ⟨v0, u, H', μ', S', rfl, hQ, r', hv, l1.trans l'⟩
end
end Go.Abs
