/- Functions: entry and return; what may be forgotten; how a call sees less of the heap. By the session itself. -/
import Derived.Test.YtljjabccgbakgaaAbC
namespace Go.Abs
open Go Go.RowKit
set_option linter.unusedSimpArgs false
set_option linter.unusedVariables false

def initVs : Nat → List V → List (Nat × V)
  | _, [] => []
  | i, v :: vs => (i, v) :: initVs (i + 1) vs

def resOne (H : Heap) (vs : List (Nat × V)) : Res → Option (Prop × V)
  | .tmp t => some (True, get vs t)
  | .cell t _ true => kload1 H (get vs t)
  | .cell t n false => kloadN n H (get vs t)

def resAll (H : Heap) (vs : List (Nat × V)) : List Res → Option (Prop × List V)
  | [] => some (True, [])
  | r :: rs => match resOne H vs r with
    | some (c, v) => match resAll H vs rs with
      | some (c', l) => some (c ∧ c', v :: l)
      | none => none
    | none => none

def resV (H : Heap) (vs : List (Nat × V)) (rs : List Res) : Option (Prop × V) :=
  match rs with
  | [r] => resOne H vs r
  | rs => match resAll H vs rs with
    | some (c, l) => some (c, .tup l)
    | none => none

/-- The end of a function: its result, and what is forgotten. -/
def finK (n : Nat) (rs : List Res) (Q : V → Heap → Prop) (s : St) : Prop :=
  match resV s.h s.vs rs with
  | some (c, v) => c ∧ ∃ v' H', Weak n ⟨[(0, v)], s.h⟩ ⟨[(0, v')], H'⟩ ∧ Q v' H'
  | none => False

def exitK (n : Nat) (rs : List Res) (Q : V → Heap → Prop) : Ex → St → Prop
  | .norm, s => finK n rs Q s
  | .ret, s => finK n rs Q s
  | .exit _, _ => False

section
variable {P : Program}

theorem get_initVs : ∀ (args : List V) (i t : Nat), get (initVs i args) t = if i ≤ t then args.getD (t - i) .undef else .undef
  | [], i, t => by simp [initVs, get]
  | v :: vs, i, t => by
    simp only [initVs, get, get_initVs vs (i + 1) t]
    by_cases h : i = t
    · subst h; simp
    · rw [if_neg h]
      by_cases h2 : i + 1 ≤ t
      · rw [if_pos h2, if_pos (by omega)]
        obtain ⟨k, rfl⟩ : ∃ k, t = i + 1 + k := ⟨t - (i + 1), by omega⟩
        rw [show i + 1 + k - (i + 1) = k by omega, show i + 1 + k - i = k + 1 by omega]; rfl
      · rw [if_neg h2, if_neg (by omega)]

def resSem (tmps : Array Value) : ResultVar → Sem Value
  | .tmp t => pure (tmps.getD t undef)
  | .cell p t => do loadVar t (← asAddr (tmps.getD p undef))

theorem resOne_sound {H : Heap} {μ : Nat → Loc} {S : Nat → Prop} {W : World} (r : Rel H μ S W) {vs : List (Nat × V)} {a : Act} (hv : ∀ t, RV μ S H W (get vs t) (a.tmps.getD t undef)) {rv : ResultVar} {rs : List ResultVar} {ls : List Res}
    (hc : cRes P (rv :: rs) = some ls) : ∃ l ls', ls = l :: ls' ∧ cRes P rs = some ls' ∧ ∀ {c : Prop} {v : V}, resOne H vs l = some (c, v) → c →
      ∃ q, (resSem a.tmps rv).run P W = .ok q W ∧ RV μ S H W v q := by
  cases rv with
  | tmp t =>
    simp only [cRes] at hc
    split at hc <;> cases hc
    rename_i l hl
    refine ⟨_, l, rfl, hl, ?_⟩
    intro c v h hcond
    simp only [resOne, Option.some.injEq, Prod.mk.injEq] at h
    obtain ⟨rfl, rfl⟩ := h
    exact ⟨_, rfl, hv t⟩
  | cell p t =>
    simp only [cRes] at hc
    split at hc <;> try (cases hc; done)
    · rename_i n l ha hn hl
      cases hc
      refine ⟨_, l, rfl, hl, ?_⟩
      intro c v h hcond
      simp only [resOne] at h
      obtain ⟨q, h1, h2⟩ := sound_loadN (P := P) r ha hn (hv p) h hcond
      obtain ⟨cs, hp, _, _⟩ := kloadN_pcells h hcond
      obtain ⟨ad, us, hu, _⟩ := ptr_cells r (hv p) hp
      refine ⟨q, ?_, h2⟩
      rw [hu] at h1
      simp only [Instr.loadAt, Instr.sureAddr, Sem.run_bind, Sem.run_pure, Result.andThen_ok] at h1
      simp only [resSem, hu, asAddr, Sem.run_bind, Sem.run_pure, Result.andThen_ok, h1]
    · rename_i l ha hn hl
      cases hc
      refine ⟨_, l, rfl, hl, ?_⟩
      intro c v h hcond
      simp only [resOne] at h
      obtain ⟨q, h1, h2⟩ := sound_load1 (P := P) r ha (hv p) h hcond
      obtain ⟨cs, hp, _⟩ := kload1_pcells h hcond
      obtain ⟨ad, us, hu, _⟩ := ptr_cells r (hv p) hp
      refine ⟨q, ?_, h2⟩
      rw [hu] at h1
      simp only [Instr.loadAt, Instr.sureAddr, Sem.run_bind, Sem.run_pure, Result.andThen_ok] at h1
      simp only [resSem, hu, asAddr, Sem.run_bind, Sem.run_pure, Result.andThen_ok, h1]

theorem resAll_sound {H : Heap} {μ : Nat → Loc} {S : Nat → Prop} {W : World} (r : Rel H μ S W) {vs : List (Nat × V)} {a : Act} (hv : ∀ t, RV μ S H W (get vs t) (a.tmps.getD t undef)) : ∀ {rs : List ResultVar} {ls : List Res},
    cRes P rs = some ls → ∀ {c : Prop} {l : List V}, resAll H vs ls = some (c, l) → c →
      ∃ qs : List Value, (rs.mapM (m := Sem) (resSem a.tmps)).run P W = .ok qs W ∧ All2 (RV μ S H W) l qs
  | [], ls, hc, c, l, h, hcond => by
    simp only [cRes, Option.some.injEq] at hc
    subst hc
    simp only [resAll, Option.some.injEq, Prod.mk.injEq] at h
    obtain ⟨rfl, rfl⟩ := h
    exact ⟨[], by simp, .nil _⟩
  | rv :: rs, ls, hc, c, l, h, hcond => by
    obtain ⟨x, ls', rfl, hc', hx⟩ := resOne_sound (P := P) r hv hc
    simp only [resAll] at h
    split at h
    · rename_i c1 v1 h1
      split at h
      · rename_i c2 l2 h2
        cases h
        obtain ⟨q, e1, e2⟩ := hx h1 hcond.1
        obtain ⟨qs, e3, e4⟩ := resAll_sound r hv hc' h2 hcond.2
        refine ⟨q :: qs, ?_, .cons e2 e4⟩
        simp only [List.mapM_cons, Sem.run_bind]
        rw [e1]
        simp only [Result.andThen_ok]
        rw [e3]
        simp only [Result.andThen_ok, Sem.run_pure]
      · cases h
    · cases h

theorem resV_sound {fn : Func} {H : Heap} {μ : Nat → Loc} {S : Nat → Prop} {W : World} (r : Rel H μ S W) {vs : List (Nat × V)} {a : Act} (hv : ∀ t, RV μ S H W (get vs t) (a.tmps.getD t undef)) {ls : List Res} (hc : cRes P fn.results.toList = some ls)
    {c : Prop} {v : V} (h : resV H vs ls = some (c, v)) (hcond : c) : ∃ q, (results fn a.tmps).run P W = .ok q W ∧ RV μ S H W v q := by
  have hres : results fn a.tmps = (do
      let vs ← fn.results.mapM (m := Sem) (resSem a.tmps)
      pure (if h : vs.size = 1 then vs[0] else .tuple vs)) := rfl
  have hlist : ∀ {qs : List Value}, (fn.results.toList.mapM (m := Sem) (resSem a.tmps)).run P W = .ok qs W → (results fn a.tmps).run P W = .ok (if h : qs.toArray.size = 1 then qs.toArray[0] else .tuple qs.toArray) W := by
    intro qs hqs
    have : (fn.results.mapM (m := Sem) (resSem a.tmps)) = (do pure (← fn.results.toList.mapM (m := Sem) (resSem a.tmps)).toArray) := by
      rw [Array.mapM_eq_mapM_toList]; rfl
    rw [hres, this]
    simp only [Sem.run_bind, hqs, Result.andThen_ok, Sem.run_pure]
  have gen : ∀ {l : List V}, c → resAll H vs ls = some (c, l) → fn.results.toList.length ≠ 1 → ∃ q, (results fn a.tmps).run P W = .ok q W ∧ RV μ S H W (.tup l) q := by
    intro l hc' hl hne
    obtain ⟨qs, e1, e2⟩ := resAll_sound (P := P) r hv hc hl hc'
    refine ⟨.tuple qs.toArray, ?_, .tup qs e2.1.symm e2.2⟩
    rw [hlist e1]
    have hlen : ∀ {rs : List ResultVar} {ls : List Res}, cRes P rs = some ls → ls.length = rs.length := by
      intro rs
      induction rs with
      | nil => intro ls h; simp only [cRes, Option.some.injEq] at h; subst h; rfl
      | cons rv rs ih =>
        intro ls h
        cases rv with
        | tmp t =>
          simp only [cRes] at h
          split at h <;> cases h
          rename_i l hl
          simp [ih hl]
        | cell p t =>
          simp only [cRes] at h
          split at h <;> cases h
          · rename_i n l _ _ hl; simp [ih hl]
          · rename_i l _ _ hl; simp [ih hl]
    have hall : ∀ {ls : List Res} {c : Prop} {l : List V}, resAll H vs ls = some (c, l) → l.length = ls.length := by
      intro ls
      induction ls with
      | nil => intro c l h; simp only [resAll, Option.some.injEq, Prod.mk.injEq] at h; obtain ⟨_, rfl⟩ := h; rfl
      | cons x xs ih =>
        intro c l h
        simp only [resAll] at h
        split at h <;> try (cases h; done)
        split at h <;> try (cases h; done)
        rename_i h2
        cases h
        simp [ih h2]
    have h1 := e2.1
    have h2 := hall hl
    have h3 := hlen hc
    rw [dif_neg (by simp only [List.size_toArray]; omega)]
  cases ls with
  | nil =>
    simp only [resV] at h
    split at h
    · rename_i c0 l hl
      cases h
      refine gen hcond hl fun e => ?_
      match hrs : fn.results.toList, e with
      | [rv], _ =>
        rw [hrs] at hc
        cases rv <;> simp only [cRes] at hc
        · cases hc
        · split at hc <;> cases hc
    · cases h
  | cons x xs =>
    cases xs with
    | nil =>
      simp only [resV] at h
      match hrs : fn.results.toList with
      | [] => rw [hrs] at hc; simp [cRes] at hc
      | rv :: rs =>
        rw [hrs] at hc
        obtain ⟨y, ls', he, hc', hx⟩ := resOne_sound (P := P) r hv hc
        cases he
        have hrs0 : rs = [] := by
          cases rs with
          | nil => rfl
          | cons rv2 rs =>
            obtain ⟨y, ls', he, _, _⟩ := resOne_sound (P := P) r hv hc'
            cases he
        subst hrs0
        obtain ⟨q, e1, e2⟩ := hx h hcond
        refine ⟨q, ?_, e2⟩
        rw [hlist (qs := [q]) (by rw [hrs]; simp only [List.mapM_cons, List.mapM_nil, Sem.run_bind, e1, Result.andThen_ok, Sem.run_pure])]
        simp
    | cons y ys =>
      simp only [resV] at h
      split at h
      · rename_i c0 l hl
        cases h
        refine gen hcond hl fun e => ?_
        match hrs : fn.results.toList, e with
        | [rv], _ =>
          rw [hrs] at hc
          cases rv <;> simp only [cRes] at hc
          · cases hc
          · split at hc <;> simp_all
      · cases h

/-- A function from its text. -/
theorem SCall.intro {f : FuncId} {fn : Func} {muts : List Nat} {af : AF} {args : List V} {H : Heap} {Q : V → Heap → Prop} (hf : P.funcs[f]? = some fn) (hname : (fn.name == "runtime.NumGoroutine") = false) (hc : cFunc P muts fn = some af)
    (hlen : args.length ≤ af.ntmps) (h : wpC (SCall P) H.length af.body (exitK H.length af.res Q) ⟨initVs 0 args, H⟩) : SCall P f args H Q := by
  unfold cFunc at hc
  split at hc <;> try (cases hc; done)
  rename_i c hb
  split at hc <;> try (cases hc; done)
  rename_i b rs hcode hres
  cases hc
  refine ⟨⟨fn, hf, by rw [hb]; rfl, hname⟩, fun μ S W vals r ha => ?_⟩
  refine calls_of_wp hf hb ?_
  have hsz : vals.length = args.length := ha.1.symm
  have htm : (vals.toArray ++ Array.replicate (fn.ntmps - vals.toArray.size) undef).size = fn.ntmps := by
    simp only [Array.size_append, List.size_toArray, Array.size_replicate]; simp only at hlen; omega
  have hg : Good fn.ntmps H μ S W ⟨initVs 0 args, H⟩ { tmps := vals.toArray ++ Array.replicate (fn.ntmps - vals.toArray.size) undef, defers := [] } W := by
    refine ⟨μ, S, r, rfl, htm, fun t => ?_, .refl _ _ _ _⟩
    rw [get_initVs]
    simp only [Nat.zero_le, if_true, Nat.sub_zero]
    by_cases ht : t < args.length
    · have h1 : args.getD t .undef = args[t] := by simp [ht]
      rw [h1]
      have h2 : (vals.toArray ++ Array.replicate (fn.ntmps - vals.toArray.size) undef).getD t undef = vals[t]'(by omega) := by
        rw [Array.getD_eq_getD_getElem?, Array.getElem?_append_left (by simp; omega)]
        simp [show t < vals.length by omega]
      rw [h2]
      exact ha.2 t _ _ (by simp [ht]) (by simp [show t < vals.length by omega])
    · have h1 : args.getD t .undef = .undef := by simp [List.getElem?_eq_none (Nat.le_of_not_lt ht)]
      rw [h1]; exact .undef _
  refine wp_mono (wpC_sound (fun _ _ _ _ h => h) (Nat.le_refl _) c b hcode _ _ h _ _ hg) ?_
  rintro e a' W' ⟨ex, s', he, hq, hg'⟩
  have fin : finK H.length rs Q s' → a'.defers = [] ∧ ∃ v, (results fn a'.tmps).run P W' = .ok v W' ∧ ∃ r u H' μ' S', Ending.returned v = .returned u ∧ Q r H' ∧ Rel H' μ' S' W' ∧ RV μ' S' H' W' r u ∧ Later H μ S W H' μ' S' W' := by
    intro hfin
    obtain ⟨μ1, S1, r1, hd1, hs1, hv1, l1⟩ := hg'
    unfold finK at hfin
    split at hfin
    · rename_i c v hrv
      obtain ⟨hc, v', H', hw, hQ⟩ := hfin
      obtain ⟨q, e1, e2⟩ := resV_sound (P := P) r1 hv1 hres hrv hc
      obtain ⟨μ2, S2, r2, l2, hv2⟩ := hw H μ S W μ1 S1 W' (fun t => if t = 0 then q else undef) (Nat.le_refl _) r1 l1 (fun t => by
        simp only [get]
        by_cases ht : 0 = t
        · subst ht; simpa using e2
        · rw [if_neg ht]; exact .undef _)
      have := hv2 0
      simp only [get, if_true] at this
      exact ⟨hd1, q, e1, v', q, H', μ2, S2, rfl, hQ, r2, this, l2⟩
    · exact hfin.elim
  cases ex <;> cases e <;> try exact he.elim
  · exact fin hq
  · exact hq.elim
  · exact fin hq
end
end Go.Abs
