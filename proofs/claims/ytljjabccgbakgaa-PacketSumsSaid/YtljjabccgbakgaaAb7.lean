/- The instructions that write or make memory are right: new objects and stores. By the session itself. -/
import Derived.Test.YtljjabccgbakgaaAb6
namespace Go.Abs
open Go Go.RowKit
set_option linter.unusedSimpArgs false
set_option linter.unusedVariables false

section
variable {P : Program} {H H' : Heap} {μ μ' : Nat → Loc} {S S' : Nat → Prop} {W W' : World}

theorem toT_sound (r : Rel H μ S W) {v : V} {u : Value} (hv : RV μ S H W v u) {x : T} {H' : Heap} (hk : toT H v = some (x, H')) :
    ∃ S', Rel H' μ S' W ∧ Later H μ S W H' μ S' W ∧ RT S' W x u := by
  cases v with
  | t y => simp only [toT, Option.some.injEq, Prod.mk.injEq] at hk; obtain ⟨rfl, rfl⟩ := hk; exact ⟨S, r, .refl _ _ _ _, hv.t_inv⟩
  | sl id off len gen sz =>
    simp only [toT] at hk
    split at hk
    · rename_i sz' g xs hrow
      split at hk
      · rename_i hg
        obtain ⟨hg, rfl⟩ := hg
        simp only [Option.some.injEq, Prod.mk.injEq] at hk
        obtain ⟨rfl, rfl⟩ := hk
        obtain ⟨S', h1, h2, h3⟩ := freeze r hrow
        refine ⟨S', h1, h2, ?_⟩
        obtain ⟨hsized, hcapr, hblk⟩ := r.row hrow
        cases hv with
        | sl a cap sz2 g2 xs2 hr2 hg2 hcap2 hn2 hh =>
          rw [hrow] at hr2
          cases hr2
          obtain ⟨_, hlen, ha⟩ := hh hg
          have hl : ((xs.drop off).take len).length = len := by simp; omega
          have e : RT S' W (.lst sz' false ((xs.drop off).take len)) (.slice a ((xs.drop off).take len).length cap) := by
            by_cases hc0 : cap = 0
            · have h0 : len = 0 := by omega
              subst h0
              exact .lst a cap [] (by simp; exact .nil _) (by simp) (by simp) (fun _ => ⟨by simp, hc0⟩) (by simp [flat]) (by simp) (by simp) (by simp)
            · obtain ⟨rfl, hcc⟩ := ha hc0
              have hcr : (μ id).cap ≠ 0 := by omega
              obtain ⟨us, ty, fz, hw, _, hul, hrt⟩ := hblk hcr
              have hfl := flat_length hsized
              have hm1 : len * sz' + off * sz' ≤ xs.length * sz' := by rw [← Nat.add_mul]; exact Nat.mul_le_mul_right _ (by omega)
              have hm2 : xs.length * sz' ≤ (μ id).cap * sz' := Nat.mul_le_mul_right _ hcapr
              refine .lst _ cap ((us.drop ((μ id).off + off * sz')).take (len * sz')) ((hsized.drop off).take len) (by omega) (by simp) (fun e => by simp at e) ?_ (fun a' e _ => ?_) (fun a' e i w hi => ?_) (fun i c w hi hw' => ?_)
              · rw [flat_take len (hsized.drop off), flat_drop off hsized]
                simp only [List.length_take, List.length_drop]; omega
              · cases e; exact h3 hcr
              · cases e
                rw [List.getElem?_take] at hi
                split at hi
                · rw [List.getElem?_drop] at hi
                  rw [add_eq rfl, cell_at hw]; exact hi
                · cases hi
              · rw [flat_take len (hsized.drop off), flat_drop off hsized] at hi
                rw [List.getElem?_take] at hi hw'
                split at hi
                · rw [if_pos (by assumption)] at hw'
                  rw [List.getElem?_drop] at hi hw'
                  exact (hrt _ c w hi (by rw [← Nat.add_assoc]; exact hw')).later h2 r
                · cases hi
          rw [hl] at e; exact e
      · cases hk
    · cases hk
  | _ => simp only [toT, reduceCtorEq] at hk

theorem toTs_sound : ∀ {vs : List V} {H : Heap} {S : Nat → Prop} (_ : Rel H μ S W) {us : List Value} (_ : All2 (RV μ S H W) vs us) {xs : List T} {H' : Heap} (_ : toTs H vs = some (xs, H')),
    ∃ S', Rel H' μ S' W ∧ Later H μ S W H' μ S' W ∧ All2 (RT S' W) xs us
  | [], H, S, r, us, hv, xs, H', hk => by
    simp only [toTs, Option.some.injEq, Prod.mk.injEq] at hk; obtain ⟨rfl, rfl⟩ := hk
    have : us = [] := List.length_eq_zero_iff.1 hv.1.symm
    subst this
    exact ⟨S, r, .refl _ _ _ _, .nil _⟩
  | v :: vs, H, S, r, us, hv, xs, H', hk => by
    simp only [toTs] at hk
    split at hk
    · rename_i x H1 h1
      split at hk
      · rename_i ys H2 h2
        simp only [Option.some.injEq, Prod.mk.injEq] at hk; obtain ⟨rfl, rfl⟩ := hk
        match us, hv with
        | u :: us, hv =>
          have hv0 := hv.2 0 v u rfl rfl
          have hv1 : All2 (RV μ S H W) vs us := ⟨by simpa using hv.1, fun i a b ha hb => hv.2 (i + 1) a b (by simpa using ha) (by simpa using hb)⟩
          obtain ⟨S1, r1, l1, e1⟩ := toT_sound r hv0 h1
          obtain ⟨S2, r2, l2, e2⟩ := toTs_sound r1 (hv1.imp fun a b h => h.later l1 r) h2
          exact ⟨S2, r2, l1.trans l2, .cons (e1.later l2 r1) e2⟩
      · cases hk
    · cases hk

theorem toElem_sound (r : Rel H μ S W) {v : V} {u : Value} (hv : RV μ S H W v u) {x : T} {H' : Heap} (hk : toElem H v = some (x, H')) :
    ∃ S', Rel H' μ S' W ∧ Later H μ S W H' μ S' W ∧ RT S' W x u := by
  cases v with
  | agg cs =>
    simp only [toElem] at hk
    split at hk
    · rename_i xs H1 h1
      simp only [Option.some.injEq, Prod.mk.injEq] at hk; obtain ⟨rfl, rfl⟩ := hk
      cases hv with
      | agg us hl h =>
        obtain ⟨S', r1, l1, e1⟩ := toTs_sound r ⟨hl.symm, h⟩ h1
        exact ⟨S', r1, l1, .agg us e1.1.symm e1.2⟩
    · cases hk
  | t y => exact toT_sound r hv hk
  | sl id off len gen sz => exact toT_sound r hv hk
  | _ => simp only [toElem, toT, reduceCtorEq] at hk

theorem toElems_sound : ∀ {vs : List V} {H : Heap} {S : Nat → Prop} (_ : Rel H μ S W) {us : List Value} (_ : All2 (RV μ S H W) vs us) {xs : List T} {H' : Heap} (_ : toElems H vs = some (xs, H')),
    ∃ S', Rel H' μ S' W ∧ Later H μ S W H' μ S' W ∧ All2 (RT S' W) xs us
  | [], H, S, r, us, hv, xs, H', hk => by
    simp only [toElems, Option.some.injEq, Prod.mk.injEq] at hk; obtain ⟨rfl, rfl⟩ := hk
    have : us = [] := List.length_eq_zero_iff.1 hv.1.symm
    subst this
    exact ⟨S, r, .refl _ _ _ _, .nil _⟩
  | v :: vs, H, S, r, us, hv, xs, H', hk => by
    simp only [toElems] at hk
    split at hk
    · rename_i x H1 h1
      split at hk
      · rename_i ys H2 h2
        simp only [Option.some.injEq, Prod.mk.injEq] at hk; obtain ⟨rfl, rfl⟩ := hk
        match us, hv with
        | u :: us, hv =>
          have hv0 := hv.2 0 v u rfl rfl
          have hv1 : All2 (RV μ S H W) vs us := ⟨by simpa using hv.1, fun i a b ha hb => hv.2 (i + 1) a b (by simpa using ha) (by simpa using hb)⟩
          obtain ⟨S1, r1, l1, e1⟩ := toElem_sound r hv0 h1
          obtain ⟨S2, r2, l2, e2⟩ := toElems_sound r1 (hv1.imp fun a b h => h.later l1 r) h2
          exact ⟨S2, r2, l1.trans l2, .cons (e1.later l2 r1) e2⟩
      · cases hk
    · cases hk

/-- What an instruction that writes or makes memory comes to. -/
def Eff (P : Program) (H : Heap) (μ : Nat → Loc) (S : Nat → Prop) (W : World) (s : Sem Value) (v : V) (H' : Heap) : Prop :=
  ∃ q W' μ' S', s.run P W = .ok q W' ∧ Rel H' μ' S' W' ∧ RV μ' S' H' W' v q ∧ Later H μ S W H' μ' S' W'

def EffU (P : Program) (H : Heap) (μ : Nat → Loc) (S : Nat → Prop) (W : World) (s : Sem Unit) (H' : Heap) : Prop :=
  ∃ W' μ' S', s.run P W = .ok () W' ∧ Rel H' μ' S' W' ∧ Later H μ S W H' μ' S' W'

theorem alloc_below (W : World) (o : Go.Obj) : Below W.heap.size W (W.alloc o) := (Below.refl _ _).alloc (Nat.le_refl _) o
theorem alloc_new (W : World) (o : Go.Obj) : (W.alloc o).heap[W.heap.size]? = some o := heap_alloc_new W o

/-- A new variable. -/
theorem new_box (r : Rel H μ S W) {cs : List V} {us : List Value} (h : All2 (RV μ S H W) cs us) (t : TypeId) :
    ∃ μ', Rel (H ++ [.box cs]) μ' S (W.alloc (.cells us.toArray t)) ∧ RV μ' S (H ++ [.box cs]) (W.alloc (.cells us.toArray t)) (.ref H.length 0) (.pointer (some ⟨W.heap.size, 0, none⟩)) ∧
      Later H μ S W (H ++ [.box cs]) μ' S (W.alloc (.cells us.toArray t)) := by
  obtain ⟨μ', e, r', l'⟩ := grow1 r (alloc_below W (.cells us.toArray t)) (.box cs) ⟨W.heap.size, 0, 0⟩ (fun _ => Nat.le_refl _) (fun μ' e L => by
    refine ⟨fun hs => ?_, us, t, alloc_new W _, h.1.symm, fun i c u hi hu => (h.2 i c u hi hu).later L r⟩
    have := r.size _ hs
    simp at this)
  refine ⟨μ', r', ?_, l'⟩
  have := RV.ref (μ := μ') (S := S) (H := H ++ [.box cs]) (W := W.alloc (.cells us.toArray t)) (id := H.length) (off := 0) cs (by simp)
  rw [e] at this; exact this

theorem run_newVar {t : TypeId} {v : Value} : (newVar t v).run P W = .ok ⟨W.heap.size, 0, none⟩ (W.alloc (.cells v.cells t)) := by
  simp only [newVar, newRow, Sem.run_bind, run_newObj, Result.andThen_ok, Sem.run_pure]; rfl

theorem sound_alloc (r : Rel H μ S W) {e : TypeId} {zero : List T} (hz : zeroCells P e = some zero) : Eff P H μ S W (Instr.alloc e true (.tuple #[])) (.ref H.length 0) (H ++ [.box (zero.map .t)]) := by
  obtain ⟨z, hzr, hz2⟩ := zeroCells_run (P := P) (W := W) (S := S) hz
  obtain ⟨μ', h1, h2, h3⟩ := new_box r (all2_t (H := H) (μ := μ) hz2) e
  simp only [Array.toArray_toList] at h1 h2 h3
  exact ⟨_, _, μ', S, by simp only [Instr.alloc, Sem.run_bind, hzr, Result.andThen_ok, run_newVar, Sem.run_pure], h1, h2, h3⟩

theorem sound_box (r : Rel H μ S W) {e : TypeId} {x : V} {u : Value} (hx : RV μ S H W x u) (hs : x.solid = true) : Eff P H μ S W (Instr.box e u) (.ref H.length 0) (H ++ [.box x.cells]) := by
  obtain ⟨μ', h1, h2, h3⟩ := new_box r (hx.cells hs) e
  simp only [Array.toArray_toList] at h1 h2 h3
  exact ⟨_, _, μ', S, by simp only [Instr.box, Sem.run_bind, Result.andThen_ok, run_newVar, Sem.run_pure], h1, h2, h3⟩

theorem one_cell {x : V} {u : Value} (hx : RV μ S H W x u) (ho : x.one = true) : u.oneCell' = true := by
  cases hx <;> try rfl
  · cases ho
  · rename_i h
    cases h <;> first | rfl | cases ho
  · cases ho
  · cases ho

/-- Cells that are stored one after the other. -/
theorem run_storeCells_put (b : Nat) (ty : TypeId) (fz : Nat × Nat) : ∀ (ds : List Value) (off : Nat) (i : Nat) (cur : List Value) (W : World), W.heap[b]? = some (.cells cur.toArray ty fz) → off + i + ds.length ≤ cur.length →
    (∀ j, j < cur.length → ¬ (fz.1 ≤ j ∧ j < fz.2)) → (∀ d ∈ ds, d.oneCell' = true) →
    ∃ W', (storeCells ⟨b, off, none⟩ ds i).run P W = .ok () W' ∧ W'.heap[b]? = some (.cells (putAt cur (off + i) ds).toArray ty fz) ∧ W'.os = W.os ∧ W'.tape = W.tape ∧ W'.output = W.output ∧ W'.heap.size = W.heap.size ∧
      ∀ k, k ≠ b → W'.heap[k]? = W.heap[k]? := by
  intro ds
  induction ds with
  | nil =>
    intro off i cur W h _ _ _
    exact ⟨W, rfl, by simpa [putAt] using h, rfl, rfl, rfl, rfl, fun _ _ => rfl⟩
  | cons d ds ih =>
    intro off i cur W h hl hfz hone
    simp only [List.length_cons] at hl
    have hc : W.cell? ⟨b, off + i, none⟩ = some cur[off + i] := by rw [cell_at h]; simp
    have hf : W.frozen? ⟨b, off + i, none⟩ = false := by
      simp only [World.frozen?, h]
      have := hfz (off + i) (by omega)
      simp; omega
    have h1 : (W.setCell ⟨b, off + i, none⟩ d).heap[b]? = some (.cells (cur.set (off + i) d).toArray ty fz) := by
      have hb : b < W.heap.size := (Array.getElem?_eq_some_iff.1 h).1
      simp only [World.setCell, Array.getElem?_modify, if_pos, h, Option.map_some]
      simp
    obtain ⟨W', e1, e2, e3, e4, e5, e6, e7⟩ := ih off (i + 1) (cur.set (off + i) d) (W.setCell ⟨b, off + i, none⟩ d) h1 (by simp; omega) (fun j hj => hfz j (by simpa using hj)) (fun x hx => hone x (List.mem_cons_of_mem _ hx))
    refine ⟨W', ?_, ?_, e3, e4, e5, ?_, fun k hk => ?_⟩
    · simp only [storeCells, Sem.run_bind, add_eq]
      rw [run_store P W _ d .plain (hone d (List.mem_cons_self ..)), hc]
      simp only [hf, Bool.false_eq_true, if_false, Result.andThen_ok]
      exact e1
    · rw [e2]
      congr 3
      apply List.ext_getElem?
      intro j
      rw [putAt_get _ _ _ _ (by simp; omega), putAt_get _ _ _ _ (by simp only [List.length_cons]; omega)]
      simp only [List.length_cons, List.getElem?_set]
      by_cases h1 : off + i = j
      · have a1 : ¬ (off + (i + 1) ≤ j ∧ j < off + (i + 1) + ds.length) := by omega
        have a2 : off + i ≤ j ∧ j < off + i + (ds.length + 1) := by omega
        have a3 : off + i < cur.length := by omega
        rw [if_neg a1, if_pos a2, if_pos h1, if_pos a3, show j - (off + i) = 0 by omega, List.getElem?_cons_zero]
      · by_cases h2 : off + i ≤ j ∧ j < off + i + (ds.length + 1)
        · have a1 : off + (i + 1) ≤ j ∧ j < off + (i + 1) + ds.length := by omega
          rw [if_pos a1, if_pos h2, show j - (off + i) = (j - (off + (i + 1))) + 1 by omega, List.getElem?_cons_succ]
        · have a1 : ¬ (off + (i + 1) ≤ j ∧ j < off + (i + 1) + ds.length) := by omega
          rw [if_neg a1, if_neg h2, if_neg h1]
    · rw [e6]; simp [World.setCell]
    · rw [e7 k hk]; simp only [World.setCell, Array.getElem?_modify]; rw [if_neg (by omega)]

end
end Go.Abs
