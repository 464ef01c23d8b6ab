/- Every instruction that only reads is right. By the session itself. -/
import Derived.Test.YtljjabccgbakgaaAb4
namespace Go.Abs
open Go
set_option linter.unusedSimpArgs false
set_option linter.unusedVariables false

section
variable {P : Program} {H : Heap} {μ : Nat → Loc} {S : Nat → Prop} {W : World}

theorem one_arg {ρ : Operand → Value} {x : Operand} {args : List V} (h : All2 (RV μ S H W) args ([x].map ρ)) : ∃ v, args = [v] ∧ RV μ S H W v (ρ x) := by
  simpa using All2.one_inv h

theorem two_args {ρ : Operand → Value} {x y : Operand} {args : List V} (h : All2 (RV μ S H W) args ([x, y].map ρ)) : ∃ v w, args = [v, w] ∧ RV μ S H W v (ρ x) ∧ RV μ S H W w (ρ y) := by
  obtain ⟨v, r, rfl, h1, h2⟩ := All2.cons_inv h
  obtain ⟨w, rfl, h3⟩ := All2.one_inv h2
  exact ⟨v, w, rfl, h1, h3⟩

theorem three_args {ρ : Operand → Value} {x y z : Operand} {args : List V} (h : All2 (RV μ S H W) args ([x, y, z].map ρ)) : ∃ u v w, args = [u, v, w] ∧ RV μ S H W u (ρ x) ∧ RV μ S H W v (ρ y) ∧ RV μ S H W w (ρ z) := by
  obtain ⟨v, r, rfl, h1, h2⟩ := All2.cons_inv h
  obtain ⟨w, u, rfl, h3, h4⟩ := two_args (ρ := ρ) h2
  exact ⟨v, w, u, rfl, h1, h3, h4⟩

def Holds (P : Program) (H : Heap) (μ : Nat → Loc) (S : Nat → Prop) (W : World) (s : Sem Value) (v : V) : Prop := ∃ q, s.run P W = .ok q W ∧ RV μ S H W v q

theorem Holds.next {s : Sem Value} {v : V} (h : Holds P H μ S W s v) : ∃ q, (do pure (Next.value (← s)) : Sem Next).run P W = .ok (.value q) W ∧ RV μ S H W v q := by
  obtain ⟨q, h1, h2⟩ := h
  exact ⟨q, by simp only [Sem.run_bind, h1, Result.andThen_ok, Sem.run_pure], h2⟩

theorem all2_t {xs : List T} {us : List Value} (h : All2 (RT S W) xs us) : All2 (RV μ S H W) (xs.map .t) us := all2_map_t h

theorem sound_build {t : TypeId} {zero : List T} (hz : zeroCells P t = some zero) {is : List Nat} {ps : List (Nat × Nat)} {args : List V} {vals : List Value}
    (hpl : (∃ fs, P.underlying t = some (.struct fs) ∧ fieldPlaces P fs is = some ps ∧ (fs.toList.all fun f => (sizeT P f.type).isSome) = true) ∨
      (∃ len e n, P.underlying t = some (.array len e) ∧ sizeT P e = some n ∧ ps = is.map fun i => (i * n, n)))
    (ha : All2 (RV μ S H W) args vals) {cs : List V} (hf : fillV (zero.map .t) ps args = some cs) :
    Holds P H μ S W (Instr.build t (is.zip vals).toArray) (.agg cs) := by
  obtain ⟨z, hzr, hz2⟩ := zeroCells_run (P := P) (W := W) (S := S) hz
  rcases hpl with ⟨fs, hu, hp, hall⟩ | ⟨len, e, n, hu, hn, rfl⟩
  · obtain ⟨h1, h2⟩ := fieldPlaces_get hp
    obtain ⟨l, hl1, hl2⟩ := run_mapM_sizes (P := P) (W := W) fs.toList (fun f hf => by
      have := List.all_eq_true.1 hall f hf
      exact Option.isSome_iff_exists.1 this)
    obtain ⟨us', e1, e2⟩ := fill_sound (μ := μ) (S := S) (H := H) (W := W) (place := fun i => l.toArray[i]?) is ps (zero.map .t) z.cells.toList args vals cs h1 (fun j i p hj hp => by
      obtain ⟨f, hf, hsz, hoff⟩ := h2 j i p hj hp
      obtain ⟨n, hn, hli⟩ := hl2 i f (by simpa using hf)
      rw [hsz] at hn; cases hn
      simp only [List.getElem?_toArray, hli, hoff]) (all2_t hz2) ha hf
    refine ⟨.agg us'.toArray, ?_, .mkAgg e2⟩
    have hm : (fs.mapM (m := Sem) fun f => do pure (f.offset, ← sizeOf f.type)).run P W = .ok l.toArray W := by
      have : (fs.mapM (m := Sem) fun f => do pure (f.offset, ← sizeOf f.type)) = (do pure (← fs.toList.mapM (m := Sem) fun f => do pure (f.offset, ← sizeOf f.type)).toArray) := by
        rw [Array.mapM_eq_mapM_toList]; rfl
      rw [this]
      simp only [Sem.run_bind, hl1, Result.andThen_ok, Sem.run_pure]
    simp only [Array.toArray_toList] at e1
    simp only [Instr.build, Sem.run_bind, hzr, Result.andThen_ok, run_underlying hu, hm, List.toList_toArray, e1, Sem.run_pure]
  · obtain ⟨us', e1, e2⟩ := fill_sound (μ := μ) (S := S) (H := H) (W := W) (place := fun i => some (i * n, n)) is (is.map fun i => (i * n, n)) (zero.map .t) z.cells.toList args vals cs (by simp) (fun j i p hj hp => by
      rw [List.getElem?_map, hj] at hp; simpa using hp) (all2_t hz2) ha hf
    refine ⟨.agg us'.toArray, ?_, .mkAgg e2⟩
    simp only [Array.toArray_toList] at e1
    simp only [Instr.build, Sem.run_bind, hzr, Result.andThen_ok, run_underlying hu, run_sizeOf hn, List.toList_toArray, e1, Sem.run_pure]

theorem nilck_value {x : V} {u : Value} (hx : RV μ S H W x u) {c : Prop} {v : V} (hk : kval H .nilck [x] = some (c, v)) : v = x ∧ u ≠ .pointer none ∧ u ≠ .nilIface ∧ u ≠ .nilFunc ∧ ∀ n f cs, u ≠ .func (.method n) f cs := by
  cases x with
  | ref id o => simp only [kval, Option.some.injEq, Prod.mk.injEq] at hk; cases hx; exact ⟨hk.2.symm, by simp, by simp, by simp, by simp⟩
  | elt id i o g => simp only [kval, Option.some.injEq, Prod.mk.injEq] at hk; cases hx; exact ⟨hk.2.symm, by simp, by simp, by simp, by simp⟩
  | ip cs => simp only [kval, Option.some.injEq, Prod.mk.injEq] at hk; cases hx; exact ⟨hk.2.symm, by simp, by simp, by simp, by simp⟩
  | fn f cs => simp only [kval, Option.some.injEq, Prod.mk.injEq] at hk; cases hx; exact ⟨hk.2.symm, by simp, by simp, by simp, by simp⟩
  | _ => simp only [kval, reduceCtorEq] at hk

/-- An operation that is no call and only reads. -/
theorem op_val (r : Rel H μ S W) {wr : Bool} {o : Oper} {k : K} {xs : List Operand} (hc : cOp P wr o.op = some (k, xs)) {ρ : Operand → Value} {args : List V} (ha : All2 (RV μ S H W) args (xs.map ρ))
    {c : Prop} {v : V} (hk : kval H k args = some (c, v)) (hcond : c) : ∃ q, (execOp ρ o).run P W = .ok (.value q) W ∧ RV μ S H W v q := by
  unfold execOp
  cases hop : o.op with
  | move x =>
    rw [hop] at hc; simp only [cOp, Option.some.injEq, Prod.mk.injEq] at hc; obtain ⟨rfl, rfl⟩ := hc
    obtain ⟨w, rfl, hw⟩ := one_arg ha
    simp only [kval, Option.some.injEq, Prod.mk.injEq] at hk; obtain ⟨rfl, rfl⟩ := hk
    exact ⟨_, rfl, hw⟩
  | assign x =>
    rw [hop] at hc; simp only [cOp, Option.some.injEq, Prod.mk.injEq] at hc; obtain ⟨rfl, rfl⟩ := hc
    obtain ⟨w, rfl, hw⟩ := one_arg ha
    simp only [kval, Option.some.injEq, Prod.mk.injEq] at hk; obtain ⟨rfl, rfl⟩ := hk
    exact ⟨_, rfl, hw⟩
  | pick x y z =>
    rw [hop] at hc; simp only [cOp, Option.some.injEq, Prod.mk.injEq] at hc; obtain ⟨rfl, rfl⟩ := hc
    obtain ⟨a, b, d, rfl, h1, h2, h3⟩ := three_args ha
    obtain ⟨q, rfl⟩ : ∃ q, a = .t (.bool q) := by
      cases a with
      | t y => cases y with
        | bool q => exact ⟨q, rfl⟩
        | _ => simp [kval] at hk
      | _ => simp [kval] at hk
    simp only [kval, Option.some.injEq, Prod.mk.injEq] at hk; obtain ⟨rfl, rfl⟩ := hk
    have e1 := h1.bool_inv
    refine ⟨if q then ρ y else ρ z, ?_, ?_⟩
    · simp only [e1, asBool, Sem.run_bind, Sem.run_pure, Result.andThen_ok]
    · cases q <;> assumption
  | load t a =>
    rw [hop] at hc; simp only [cOp] at hc
    split at hc <;> try (cases hc; done)
    · rename_i n h1 h2; cases hc
      obtain ⟨w, rfl, hw⟩ := one_arg ha
      exact Holds.next (sound_loadN r h1 h2 hw hk hcond)
    · rename_i h1 h2; cases hc
      obtain ⟨w, rfl, hw⟩ := one_arg ha
      exact Holds.next (sound_load1 r h1 hw hk hcond)
  | nilCheck x =>
    rw [hop] at hc; simp only [cOp, Option.some.injEq, Prod.mk.injEq] at hc; obtain ⟨rfl, rfl⟩ := hc
    obtain ⟨w, rfl, hw⟩ := one_arg ha
    obtain ⟨rfl, n1, n2, n3, n4⟩ := nilck_value hw hk
    refine ⟨ρ x, ?_, hw⟩
    dsimp only
    split <;> simp_all
  | binOp op t x y yt =>
    rw [hop] at hc; simp only [cOp] at hc
    split at hc <;> try (cases hc; done)
    · cases hc
      obtain ⟨a, b, rfl, h1, h2⟩ := two_args ha
      exact Holds.next (sound_bin h1 h2 hk hcond x y)
    · cases hc
      obtain ⟨a, b, rfl, h1, h2⟩ := two_args ha
      exact Holds.next (sound_bin h1 h2 hk hcond x y)
    · rename_i hb; cases hc
      obtain ⟨a, b, rfl, h1, h2⟩ := two_args ha
      exact Holds.next (sound_binB hb h1 h2 hk x y)
  | unOp op t x =>
    rw [hop] at hc; simp only [cOp, Option.some.injEq, Prod.mk.injEq] at hc; obtain ⟨rfl, rfl⟩ := hc
    obtain ⟨w, rfl, hw⟩ := one_arg ha
    exact Holds.next (sound_un hw hk)
  | build t ps =>
    rw [hop] at hc; simp only [cOp] at hc
    have hps : ps.map (fun (p : Nat × Operand) => (p.1, ρ p.2)) = ((ps.toList.map (·.1)).zip ((ps.toList.map (·.2)).map ρ)).toArray := by
      rw [← run_mapM_places]; apply Array.ext'; simp
    split at hc <;> try (cases hc; done)
    · rename_i z fs hz hu
      split at hc
      · rename_i pl hpl
        split at hc
        · rename_i hall
          cases hc
          simp only [kval] at hk
          split at hk
          · rename_i cs hcs
            cases hk
            have := sound_build (H := H) (μ := μ) (S := S) (W := W) hz (.inl ⟨fs, hu, hpl, hall⟩) ha hcs
            dsimp only
            rw [hps]; exact Holds.next this
          · cases hk
        · cases hc
      · cases hc
    · rename_i z len e hz hu
      split at hc
      · rename_i n hn
        cases hc
        simp only [kval] at hk
        split at hk
        · rename_i cs hcs
          cases hk
          have := sound_build (H := H) (μ := μ) (S := S) (W := W) (is := ps.toList.map (·.1)) hz (.inr ⟨len, e, n, hu, hn, by simp⟩) ha hcs
          dsimp only
          rw [hps]; exact Holds.next this
        · cases hk
      · cases hc
  | fieldAddr t x i =>
    rw [hop] at hc; simp only [cOp] at hc
    split at hc <;> try (cases hc; done)
    rename_i fs hu
    split at hc <;> try (cases hc; done)
    rename_i f hf
    split at hc <;> try (cases hc; done)
    rename_i n hn0 hn
    cases hc
    obtain ⟨w, rfl, hw⟩ := one_arg ha
    exact Holds.next (sound_fieldA hu hf hn (by rintro rfl; exact hn0 rfl) hw hk)
  | field t x i =>
    rw [hop] at hc; simp only [cOp] at hc
    split at hc <;> try (cases hc; done)
    rename_i fs hu
    split at hc <;> try (cases hc; done)
    rename_i f hf
    split at hc <;> try (cases hc; done)
    · rename_i n h1 h2; cases hc
      obtain ⟨w, rfl, hw⟩ := one_arg ha
      exact Holds.next (sound_fieldN hu hf h1 h2 hw hk)
    · rename_i n h1 h2; cases hc
      obtain ⟨w, rfl, hw⟩ := one_arg ha
      exact Holds.next (sound_field1 hu hf h1 hw hk hcond)
  | indexAddr t x i =>
    rw [hop] at hc; simp only [cOp] at hc
    split at hc <;> try (cases hc; done)
    · rename_i e hu
      split at hc <;> try (cases hc; done)
      rename_i n hn
      split at hc <;> try (cases hc; done)
      rename_i hn0
      cases hc
      obtain ⟨a, b, rfl, h1, h2⟩ := two_args ha
      exact Holds.next (sound_idxS hn0 hu hn h1 h2 hk hcond)
    · rename_i len e hu
      split at hc <;> try (cases hc; done)
      rename_i n hn
      cases hc
      obtain ⟨a, b, rfl, h1, h2⟩ := two_args ha
      exact Holds.next (sound_idxA hu hn h1 h2 hk hcond)
  | index t x i =>
    rw [hop] at hc; simp only [cOp] at hc
    split at hc <;> try (cases hc; done)
    rename_i hu
    cases hc
    obtain ⟨a, b, rfl, h1, h2⟩ := two_args ha
    exact Holds.next (sound_idxStr hu h1 h2 hk hcond)
  | extract x i =>
    rw [hop] at hc; simp only [cOp, Option.some.injEq, Prod.mk.injEq] at hc; obtain ⟨rfl, rfl⟩ := hc
    obtain ⟨w, rfl, hw⟩ := one_arg ha
    obtain ⟨vs, rfl⟩ : ∃ vs, w = .tup vs := by
      cases w with
      | tup vs => exact ⟨vs, rfl⟩
      | _ => simp [kval] at hk
    simp only [kval, Option.some.injEq, Prod.mk.injEq] at hk; obtain ⟨rfl, rfl⟩ := hk
    exact Holds.next (sound_extract hw hcond)
  | convert s d x =>
    rw [hop] at hc; simp only [cOp] at hc
    split at hc <;> try (cases hc; done)
    · rename_i k1 k2 h1 h2; cases hc
      obtain ⟨w, rfl, hw⟩ := one_arg ha
      obtain ⟨k', n, rfl⟩ : ∃ k' n, w = .t (.int k' n) := by
        cases w with
        | t y => cases y with
          | int k' n => exact ⟨k', n, rfl⟩
          | _ => simp [kval] at hk
        | _ => simp [kval] at hk
      simp only [kval, Option.some.injEq, Prod.mk.injEq] at hk; obtain ⟨rfl, rfl⟩ := hk
      have e := hw.int_inv
      refine Holds.next ⟨_, ?_, .mkInt _ _⟩
      simp only [e, convert, Sem.run_bind, run_underlying h1, run_underlying h2, Result.andThen_ok, Conv.intToInt, Sem.run_pure]
    · rename_i h1 h2; cases hc
      obtain ⟨w, rfl, hw⟩ := one_arg ha
      obtain ⟨s, rfl⟩ : ∃ s, w = .t (.str s) := by
        cases w with
        | t y => cases y with
          | str s => exact ⟨s, rfl⟩
          | _ => simp [kval] at hk
        | _ => simp [kval] at hk
      simp only [kval, Option.some.injEq, Prod.mk.injEq] at hk; obtain ⟨rfl, rfl⟩ := hk
      have e := hw.str_inv
      refine Holds.next ⟨_, ?_, .mkStr _⟩
      simp only [e, convert, Sem.run_bind, run_underlying h1, run_underlying h2, Result.andThen_ok, Sem.run_pure]
    · rename_i e h1 h2
      split at hc <;> try (cases hc; done)
      rename_i he
      cases hc
      obtain ⟨w, rfl, hw⟩ := one_arg ha
      exact Holds.next (sound_toStr r h1 he h2 hw hk hcond)
    · split at hc <;> try (cases hc; done)
      split at hc <;> try (cases hc; done)
      cases hc
      simp only [kval] at hk
      cases hk
  | makeFunc fn first cap =>
    rw [hop] at hc
    cases fn with
    | func f =>
      simp only [cOp] at hc
      split at hc <;> try (cases hc; done)
      rename_i hf
      cases hc
      simp only [kval, Option.some.injEq, Prod.mk.injEq] at hk; obtain ⟨rfl, rfl⟩ := hk
      subst hf
      refine Holds.next ⟨.func (.func f) #[] (cap.toList.map ρ).toArray, ?_, .fn _ ha.1.symm ha.2⟩
      have e : Array.map ρ cap = (List.map ρ cap.toList).toArray := by apply Array.ext'; simp
      simp [Instr.makeFunc, e]
    | _ => simp only [cOp, reduceCtorEq] at hc
  | slice t x lo hi mx =>
    rw [hop] at hc
    cases mx with
    | some m => simp only [cOp, reduceCtorEq] at hc
    | none =>
      simp only [cOp] at hc
      have split2 : ∀ {args : List V}, All2 (RV μ S H W) args ((x :: sliceArgs lo hi).map ρ) → ∃ a r, args = a :: r ∧ RV μ S H W a (ρ x) ∧ All2 (RV μ S H W) r ((lo.map ρ).toList ++ (hi.map ρ).toList) := by
        intro args h
        obtain ⟨a, r, rfl, h1, h2⟩ := All2.cons_inv h
        refine ⟨a, r, rfl, h1, ?_⟩
        simpa [sliceArgs, optToList] using h2
      have is1 : lo.isSome = (lo.map ρ).isSome := by simp
      have is2 : hi.isSome = (hi.map ρ).isSome := by simp
      split at hc <;> try (cases hc; done)
      · rename_i e hu
        split at hc <;> try (cases hc; done)
        rename_i n hn
        cases hc
        obtain ⟨a, rr, rfl, h1, h2⟩ := split2 ha
        simp only [kval, is1, is2] at hk
        exact Holds.next (sound_slice hu hn h1 h2 hk hcond)
      · rename_i hu
        cases hc
        obtain ⟨a, rr, rfl, h1, h2⟩ := split2 ha
        simp only [kval, is1, is2] at hk
        exact Holds.next (sound_sliceStr hu h1 h2 hk hcond)
      · rename_i n e hu
        split at hc <;> try (cases hc; done)
        rename_i hn
        cases hc
        obtain ⟨a, rr, rfl, h1, h2⟩ := split2 ha
        simp only [kval, is1, is2] at hk
        exact Holds.next (sound_sliceA hu hn r h1 h2 hk hcond)
  | alloc e => rw [hop] at hc; simp only [cOp] at hc; split at hc <;> cases hc; simp only [kval, reduceCtorEq] at hk
  | box e x => rw [hop] at hc; simp only [cOp, Option.some.injEq, Prod.mk.injEq] at hc; obtain ⟨rfl, rfl⟩ := hc; simp only [kval, reduceCtorEq] at hk
  | store t a x =>
    rw [hop] at hc; simp only [cOp] at hc
    split at hc <;> try (cases hc; done)
    split at hc <;> try (cases hc; done)
    cases hc
    simp only [kval, reduceCtorEq] at hk
  | buildSlice t n ps =>
    rw [hop] at hc; simp only [cOp] at hc
    split at hc <;> try (cases hc; done)
    split at hc <;> try (cases hc; done)
    split at hc <;> try (cases hc; done)
    cases hc
    cases wr <;> simp only [kval, if_true, Bool.false_eq_true, if_false, reduceCtorEq] at hk
  | makeSlice t l cp =>
    rw [hop] at hc; simp only [cOp] at hc
    split at hc <;> try (cases hc; done)
    split at hc <;> try (cases hc; done)
    split at hc <;> try (cases hc; done)
    cases hc
    simp only [kval, reduceCtorEq] at hk
  | _ => rw [hop] at hc; simp only [cOp, reduceCtorEq] at hc
end
end Go.Abs
