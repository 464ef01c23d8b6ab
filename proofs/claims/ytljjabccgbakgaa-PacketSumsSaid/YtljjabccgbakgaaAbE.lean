/- Drawn regions: the plan is right. By the session itself. -/
import Derived.Test.YtljjabccgbakgaaAbD
namespace Go.Abs
open Go Go.RowKit
set_option linter.unusedSimpArgs false
set_option linter.unusedVariables false

section
variable {P : Program} {Cl : Known}

theorem altsOf_spec {g : Nat → Option Plan} {K : St → Prop} {s : St} : ∀ {es : List Nat} {p : Plan}, altsOf g es = some p → wpP Cl p K s → ∀ e ∈ es, ∃ pe, g e = some pe ∧ wpP Cl pe K s
  | [], _, h, _, e, he => by cases he
  | [x], p, h, hp, e, he => by
    simp only [List.mem_singleton] at he
    subst he
    exact ⟨p, h, hp⟩
  | x :: y :: es, p, h, hp, e, he => by
    simp only [altsOf] at h
    split at h
    · rename_i p1 q1 h1 h2
      cases h
      cases he with
      | head => exact ⟨p1, h1, hp.1⟩
      | tail _ he => exact altsOf_spec h2 hp.2 e he
    · cases h

structure DS (P : Program) (wr : Bool) (nt : Nat) (ops : Array Oper) (ds : List DI) : Prop where
  len : ds.length = ops.size
  ins : ∀ (i : Nat) (o : Oper) (d : DI), ops[i]? = some o → ds[i]? = some d → cIns P wr nt ops o = some d.ins ∧ d.dir = dirOf o
  ok : disOk ds = true

theorem isVal_spec {ds : List DI} {j : Nat} (h : isVal ds j = true) : ∃ d t, ds[j]? = some d ∧ d.ins.quiet = true ∧ d.ins.dst = some t ∧ t ∉ d.ins.uses ∧
    ∀ i e, i ≠ j → ds[i]? = some e → t ∈ e.ins.names → j ∈ e.pre := by
  unfold isVal at h
  split at h
  · rename_i d hd
    simp only [Bool.and_eq_true] at h
    obtain ⟨h1, h2⟩ := h
    split at h2
    · rename_i t ht
      simp only [Bool.and_eq_true, List.all_eq_true, List.mem_range, Bool.not_eq_true', List.contains_eq_mem, decide_eq_false_iff_not, Bool.or_eq_true, beq_iff_eq] at h2
      refine ⟨d, t, hd, h1, ht, h2.1, ?_⟩
      intro i e hij he hm
      have hi : i < ds.length := (List.getElem?_eq_some_iff.1 he).1
      have := h2.2 i hi
      rw [he] at this
      simp only [Bool.or_eq_true, Bool.not_eq_true', decide_eq_false_iff_not, decide_eq_true_eq] at this
      rcases this with h | h | h
      · exact absurd h hij
      · exact absurd hm h
      · exact h
    · cases h2
  · cases h

theorem effOk_spec {ds : List DI} {j : Nat} {d : DI} {t : Nat} (h : effOk ds j = true) (hd : ds[j]? = some d) (ht : d.ins.dst = some t) :
    ∀ i e, i ≠ j → ds[i]? = some e → t ∈ e.ins.names → j ∈ e.pre ∨ i ∈ d.pre := by
  unfold effOk at h
  rw [hd] at h
  simp only [ht, List.all_eq_true, List.mem_range, Bool.or_eq_true, beq_iff_eq] at h
  intro i e hij he hm
  have hi : i < ds.length := (List.getElem?_eq_some_iff.1 he).1
  have := h i hi
  rw [he] at this
  simp only [Bool.or_eq_true, Bool.not_eq_true', List.contains_eq_mem, decide_eq_false_iff_not, decide_eq_true_eq] at this
  rcases this with h | (h | h) | h
  · exact absurd h hij
  · exact absurd hm h
  · exact .inl h
  · exact .inr h

variable {wr : Bool} {nt : Nat} {ops : Array Oper} {ds : List DI}

theorem DS.pre (D : DS P wr nt ops ds) {j : Nat} {d : DI} (hd : ds[j]? = some d) : (∀ k ∈ d.dir, k < j) ∧ ∀ i ∈ d.pre, i ∈ d.dir ∨ ∃ k ∈ d.dir, ∃ e, ds[k]? = some e ∧ i ∈ e.pre := by
  have h := D.ok
  simp only [disOk, List.all_eq_true, List.mem_range, Bool.and_eq_true] at h
  have := (h j (List.getElem?_eq_some_iff.1 hd).1).2
  unfold preOk at this
  rw [hd] at this
  simp only [Bool.and_eq_true, List.all_eq_true, decide_eq_true_eq, Bool.or_eq_true, List.contains_eq_mem, List.any_eq_true] at this
  refine ⟨this.1, fun i hi => ?_⟩
  rcases this.2 i hi with h | ⟨k, hk, h⟩
  · exact .inl h
  · split at h
    · rename_i e he
      exact .inr ⟨k, hk, e, he, by simpa using h⟩
    · cases h

theorem DS.eff (D : DS P wr nt ops ds) {j : Nat} (hj : j < ds.length) : isVal ds j = true ∨ effOk ds j = true := by
  have h := D.ok
  simp only [disOk, List.all_eq_true, List.mem_range, Bool.and_eq_true, Bool.or_eq_true] at h
  exact (h j hj).1

variable {H0 : Heap} {μ0 : Nat → Loc} {S0 : Nat → Prop} {W0 : World}

/-- The machine has still to do what todo says; the plan has gone on to done. -/
structure Inv (ds : List DI) (nt : Nat) (H0 : Heap) (μ0 : Nat → Loc) (S0 : Nat → Prop) (W0 : World) (done todo : List Nat) (s : St) (a : Act) (W : World) : Prop where
  closed : ∀ i d, i ∈ done → ds[i]? = some d → ∀ j ∈ d.pre, j ∈ done
  mclosed : ∀ i d, i ∉ todo → ds[i]? = some d → ∀ j ∈ d.pre, j ∉ todo
  lt : ∀ i ∈ todo, i < ds.length
  sub : ∀ i, i < ds.length → i ∉ done → i ∈ todo
  pend : ∀ i, i ∈ todo → i ∈ done → isVal ds i = true ∧ ∃ d, ds[i]? = some d ∧ flo d.ins s
  good : ∃ m, Good nt H0 μ0 S0 W0 ⟨m, s.h⟩ a W ∧ ∀ t, (∀ i d, i ∈ todo → i ∈ done → ds[i]? = some d → d.ins.dst ≠ some t) → get m t = get s.vs t

theorem isReady_spec {done : List Nat} {i : Nat} (h : isReady ds done i = true) : i ∉ done ∧ ∃ d, ds[i]? = some d ∧ ∀ j ∈ d.pre, j ∈ done := by
  unfold isReady at h
  simp only [Bool.and_eq_true, Bool.not_eq_true', List.contains_eq_mem, decide_eq_false_iff_not] at h
  refine ⟨h.1, ?_⟩
  have h2 := h.2
  split at h2
  · rename_i d hd
    exact ⟨d, hd, fun j hj => by simpa using (List.all_eq_true.1 h2) j hj⟩
  · cases h2

theorem isReady_of {done : List Nat} {i : Nat} {d : DI} (h : i ∉ done) (hd : ds[i]? = some d) (hp : ∀ j ∈ d.pre, j ∈ done) : isReady ds done i = true := by
  unfold isReady
  rw [hd]
  simp only [Bool.and_eq_true, Bool.not_eq_true', List.contains_eq_mem, decide_eq_false_iff_not]
  exact ⟨h, List.all_eq_true.2 fun j hj => by simpa using hp j hj⟩

/-- All that can be read is read. -/
theorem settle (D : DS P wr nt ops ds) {K : St → Prop} {todo : List Nat} {a : Act} {W : World} : ∀ f done p s, mkPlan ds f done = some p → wpP Cl p K s → Inv ds nt H0 μ0 S0 W0 done todo s a W →
    ∃ f' done' p' s', mkPlan ds (f' + 1) done' = some p' ∧ (List.range ds.length).find? (fun i => isReady ds done' i && isVal ds i) = none ∧ wpP Cl p' K s' ∧ Inv ds nt H0 μ0 S0 W0 done' todo s' a W := by
  intro f
  induction f with
  | zero => intro done p s h; cases h
  | succ f ih =>
    intro done p s h hp hI
    cases hf : (List.range ds.length).find? (fun i => isReady ds done i && isVal ds i) with
    | none => exact ⟨f, done, p, s, h, hf, hp, hI⟩
    | some j =>
      have hj := List.find?_some hf
      simp only [Bool.and_eq_true] at hj
      simp only [mkPlan, hf] at h
      split at h
      · rename_i d p1 hd hp1
        cases h
        obtain ⟨hnd, d', hd', hpre⟩ := isReady_spec hj.1
        rw [hd] at hd'; cases hd'
        obtain ⟨d', t, hd', hq, ht, hu, hval⟩ := isVal_spec hj.2
        rw [hd] at hd'; cases hd'
        obtain ⟨v, hK, hflo⟩ := val_step hq ht hu hp
        refine ih _ p1 _ hp1 hK ?_
        have hnames : ∀ i e, i ∈ done → ds[i]? = some e → ∀ u ∈ e.ins.names, get (putO s.vs (some t) v) u = get s.vs u := by
          intro i e hi he u hu'
          rw [get_putO_some, if_neg]
          rintro rfl
          exact hnd (hI.closed i e hi he j (hval i e (by rintro rfl; exact hnd hi) he hu'))
        refine ⟨?_, hI.mclosed, hI.lt, fun i hi hn => hI.sub i hi fun h => hn (List.mem_cons_of_mem _ h), ?_, ?_⟩
        · intro i e hi he k hk
          cases hi with
          | head =>
            rw [hd] at he; cases he
            exact List.mem_cons_of_mem _ (hpre k hk)
          | tail _ hi => exact List.mem_cons_of_mem _ (hI.closed i e hi he k hk)
        · intro i hi hin
          cases hin with
          | head => exact ⟨hj.2, d, hd, hflo⟩
          | tail _ hin =>
            obtain ⟨h1, e, he, h2⟩ := hI.pend i hi hin
            obtain ⟨e', t', he', hq', _⟩ := isVal_spec h1
            rw [he] at he'; cases he'
            exact ⟨h1, e, he, flo_agree hq' (hnames i e hin he) (.inl rfl) h2⟩
        · obtain ⟨m, hg, hm⟩ := hI.good
          refine ⟨m, hg, fun u hu' => ?_⟩
          have htu : t ≠ u := by
            rintro rfl
            exact hu' j d (hI.sub j (List.getElem?_eq_some_iff.1 hd).1 hnd) (List.mem_cons_self ..) hd ht
          rw [get_putO_some, if_neg htu]
          exact hm u fun i e hi hin he => hu' i e hi (List.mem_cons_of_mem _ hin) he
      · cases h

theorem names_dst {i : Ins} {t : Nat} (h : i.dst = some t) : t ∈ i.names := by simp [Ins.names, h]
theorem names_uses {i : Ins} {t : Nat} (h : t ∈ i.uses) : t ∈ i.names := by simp [Ins.names, h]

/-- Whatever the machine does next keeps the relation. -/
theorem plan_sound (hCl : ∀ f args H k, Cl f args H k → SCall P f args H k) (D : DS P wr nt ops ds) {K : St → Prop} {Q : Exit → Act → World → Prop} (hK : ∀ s a W, K s → Good nt H0 μ0 S0 W0 s a W → Q .normal a W) :
    ∀ (fuel f : Nat) (done todo : List Nat) (p : Plan) (L : Array Bool) (s : St) (a : Act) (W : World), mkPlan ds f done = some p → wpP Cl p K s → Inv ds nt H0 μ0 S0 W0 done todo s a W →
      todo.length = fuel → todo.Nodup → L.size = ops.size → (∀ i, i < L.size → L.getD i true = decide (i ∉ todo)) → wpAny P .any ops Q fuel L a W := by
  intro fuel
  induction fuel with
  | zero =>
    intro f done todo p L s a W h hp hI hlen hnd hsz hL
    have ht : todo = [] := List.length_eq_zero_iff.1 hlen
    subst ht
    have hall : ∀ i, i < ds.length → i ∈ done := fun i hi => by
      by_cases hin : i ∈ done
      · exact hin
      · exact absurd (hI.sub i hi hin) (by simp)
    obtain ⟨f', done', p', s', h', hf', hp', hI'⟩ := settle D f done p s h hp hI
    have hall' : ∀ i, i < ds.length → i ∈ done' := fun i hi => by
      by_cases hin : i ∈ done'
      · exact hin
      · exact absurd (hI'.sub i hi hin) (by simp)
    unfold wpAny
    refine ⟨?_, ?_⟩
    · unfold Region.ready
      rw [List.filter_eq_nil_iff]
      intro i hi
      have hi' : i < L.size := by rw [hsz]; simpa using hi
      rw [hL i hi']
      simp
    · have : p' = .fin := by
        simp only [mkPlan, hf'] at h'
        rw [if_pos (List.all_eq_true.2 fun i hi => by simpa using hall' i (by simpa using hi))] at h'
        exact (Option.some.inj h').symm
      subst this
      obtain ⟨m, hg, hm⟩ := hI'.good
      refine hK s' a W hp' ?_
      obtain ⟨μ, S, r, h1, h2, h3, h4⟩ := hg
      exact ⟨μ, S, r, h1, h2, fun t => (hm t (by simp)) ▸ h3 t, h4⟩
  | succ fuel ih =>
    intro f done todo p L s a W h hp hI hlen hnd hsz hL
    obtain ⟨f, done, p, s, h, hf, hp, hI⟩ : ∃ f' done' p' s', mkPlan ds (f' + 1) done' = some p' ∧ (List.range ds.length).find? (fun i => isReady ds done' i && isVal ds i) = none ∧ wpP Cl p' K s' ∧ Inv ds nt H0 μ0 S0 W0 done' todo s' a W := settle D f done p s h hp hI
    have hLf : ∀ k, k < L.size → L.getD k false = L.getD k true := fun k hk => by simp [Array.getD, hk]
    unfold wpAny
    refine ⟨?_, ?_⟩
    · intro hnil
      exfalso
      have hne : todo ≠ [] := by rintro rfl; simp at hlen
      -- the least of todo is ready
      have least : ∃ i ∈ todo, ∀ j ∈ todo, i ≤ j := by
        have : ∀ (l : List Nat), l ≠ [] → ∃ i ∈ l, ∀ j ∈ l, i ≤ j := by
          intro l
          induction l with
          | nil => intro h; exact absurd rfl h
          | cons x l ihl =>
            intro _
            by_cases hl : l = []
            · subst hl; exact ⟨x, by simp, by simp⟩
            · obtain ⟨i, hi, hmin⟩ := ihl hl
              by_cases hxi : x ≤ i
              · refine ⟨x, by simp, fun j hj => ?_⟩
                cases hj with
                | head => exact Nat.le_refl _
                | tail _ hj => exact Nat.le_trans hxi (hmin j hj)
              · refine ⟨i, by simp [hi], fun j hj => ?_⟩
                cases hj with
                | head => omega
                | tail _ hj => exact hmin j hj
        exact this todo hne
      obtain ⟨i, hi, hmin⟩ := least
      have hil : i < ops.size := D.len ▸ hI.lt i hi
      have : i ∈ Region.ready .any ops L := by
        unfold Region.ready
        rw [List.mem_filter]
        refine ⟨by simpa using hil, ?_⟩
        have ho : ops[i]? = some ops[i] := Array.getElem?_eq_getElem hil
        have hdl : i < ds.length := hI.lt i hi
        have hd : ds[i]? = some ds[i] := List.getElem?_eq_getElem hdl
        have hdir := (D.ins i _ _ ho hd).2
        rw [hL i (hsz ▸ hil), ho]
        simp only [Option.map_some, Option.getD_some, Bool.and_eq_true, Bool.not_eq_true', decide_eq_false_iff_not, Classical.not_not]
        refine ⟨hi, ?_⟩
        rw [Array.all_eq_true']
        intro e he
        by_cases hb : Region.binds .any e = true
        · have hm : e.on ∈ ds[i].dir := by
            rw [hdir]
            exact List.mem_map.2 ⟨e, List.mem_filter.2 ⟨Array.mem_toList_iff.2 he, hb⟩, rfl⟩
          have hlt := (D.pre hd).1 _ hm
          have hkl : e.on < L.size := by rw [hsz]; omega
          rw [hLf _ hkl, hL _ hkl]
          have : e.on ∉ todo := fun h => by have := hmin _ h; omega
          simp [this]
        · simp [hb]
      rw [hnil] at this
      cases this
    · intro i hi
      unfold Region.ready at hi
      rw [List.mem_filter] at hi
      obtain ⟨hil, hi⟩ := hi
      have hil : i < ops.size := by simpa using hil
      have ho : ops[i]? = some ops[i] := Array.getElem?_eq_getElem hil
      have hdl : i < ds.length := by rw [D.len]; exact hil
      obtain ⟨d, hd⟩ : ∃ d, ds[i]? = some d := ⟨_, List.getElem?_eq_getElem hdl⟩
      obtain ⟨hins, hdir⟩ := D.ins i _ _ ho hd
      rw [hL i (hsz ▸ hil), ho] at hi
      simp only [Option.map_some, Option.getD_some, Bool.and_eq_true, Bool.not_eq_true', decide_eq_false_iff_not, Classical.not_not] at hi
      obtain ⟨hit, hedges⟩ := hi
      rw [Array.all_eq_true'] at hedges
      have hdirs : ∀ k ∈ d.dir, k ∉ todo := by
        intro k hk
        rw [hdir] at hk
        obtain ⟨e, he, rfl⟩ := List.mem_map.1 hk
        obtain ⟨he, hb⟩ := List.mem_filter.1 he
        have h2 := hedges e (Array.mem_toList_iff.1 he)
        have hlt : e.on < i := (D.pre hd).1 _ (by rw [hdir]; exact hk)
        have hkl : e.on < L.size := by rw [hsz]; omega
        rw [hb, hLf _ hkl, hL _ hkl] at h2
        simpa using h2
      have hpres : ∀ k ∈ d.pre, k ∉ todo := by
        intro k hk
        rcases (D.pre hd).2 k hk with h | ⟨j, hj, e, he, hke⟩
        · exact hdirs k h
        · exact hI.mclosed j e (hdirs j hj) he k hke
      obtain ⟨m, hg, hm⟩ := hI.good
      have herase : ∀ j, j ∈ todo.erase i ↔ j ≠ i ∧ j ∈ todo := fun j => hnd.mem_erase_iff
      have hlen' : (todo.erase i).length = fuel := by rw [List.length_erase_of_mem hit]; omega
      have hL' : ∀ j, j < (L.setIfInBounds i true).size → (L.setIfInBounds i true).getD j true = decide (j ∉ todo.erase i) := by
        intro j hj
        have hj' : j < L.size := by simpa using hj
        have e1 : (L.setIfInBounds i true).getD j true = if i = j then true else L.getD j true := by
          rw [Array.getD_eq_getD_getElem?, Array.getElem?_setIfInBounds]
          by_cases hij : i = j
          · subst hij
            rw [if_pos rfl, if_pos hj', if_pos rfl]
            rfl
          · rw [if_neg hij, if_neg hij, Array.getD_eq_getD_getElem?]
        rw [e1]
        by_cases hij : i = j
        · subst hij; rw [if_pos rfl]; simp [herase]
        · rw [if_neg hij, hL j hj']
          have : (j ∈ todo.erase i) ↔ j ∈ todo := by rw [herase]; exact ⟨fun h => h.2, fun h => ⟨fun e => hij e.symm, h⟩⟩
          simp [this]
      have hsz' : (L.setIfInBounds i true).size = ops.size := by simpa using hsz
      -- slots that the operation looks at are as the plan says
      have huses : ∀ t ∈ d.ins.uses, (i ∈ done → d.ins.dst ≠ some t) → get m t = get s.vs t := by
        intro t ht hself
        refine hm t fun j e hj hjd he hte => ?_
        by_cases hji : j = i
        · subst hji
          rw [hd] at he; cases he
          exact hself hjd hte
        · obtain ⟨hv, _⟩ := hI.pend j hj hjd
          obtain ⟨e', t', he', _, ht', _, hval⟩ := isVal_spec hv
          rw [he] at he'; cases he'
          rw [hte] at ht'; cases ht'
          exact hpres j (hval i d (fun h => hji h.symm) hd (names_uses ht)) hj
      have mcl : ∀ j e, j ∉ todo.erase i → ds[j]? = some e → ∀ k ∈ e.pre, k ∉ todo.erase i := by
        intro j e hj he k hk hke
        rw [herase] at hke
        by_cases hji : j = i
        · subst hji
          rw [hd] at he; cases he
          exact hpres k hk hke.2
        · exact hI.mclosed j e (fun h => hj ((herase j).2 ⟨hji, h⟩)) he k hk hke.2
      by_cases hdone : i ∈ done
      · -- it was read early
        obtain ⟨hv, d', hd', hflo⟩ := hI.pend i hit hdone
        rw [hd] at hd'; cases hd'
        obtain ⟨d', t, hd', hq, ht, hu, hval⟩ := isVal_spec hv
        rw [hd] at hd'; cases hd'
        refine op_sound hCl ho hins hg (fun u hu' => huses u hu' fun _ h => hu (by rw [ht] at h; cases h; exact hu')) (flo_run (vs := s.vs) hq ht hflo) ?_
        rintro v H' a' W' ⟨hH, hv'⟩ hg'
        rw [ht] at hg' hv'
        dsimp only at hH hv'
        subst hH
        rw [get_putO_some, if_pos rfl] at hv'
        refine ih (f + 1) done (todo.erase i) p _ s a' W' h hp ⟨hI.closed, mcl, fun j hj => hI.lt j ((herase j).1 hj).2, ?_, fun j hj => hI.pend j ((herase j).1 hj).2, ?_⟩ hlen' (hnd.erase i) hsz' hL'
        · intro j hj hjn
          exact (herase j).2 ⟨by rintro rfl; exact hjn hdone, hI.sub j hj hjn⟩
        · refine ⟨_, hg', fun u hu' => ?_⟩
          rw [get_putO_some]
          by_cases htu : t = u
          · subst htu; rw [if_pos rfl, hv']
          · rw [if_neg htu]
            refine hm u fun j e hj hjd he hje => ?_
            by_cases hji : j = i
            · subst hji
              rw [hd] at he; cases he
              rw [ht] at hje; cases hje
              exact htu rfl
            · exact hu' j e ((herase j).2 ⟨hji, hj⟩) hjd he hje
      · -- an effect
        have hpd : ∀ k ∈ d.pre, k ∈ done := by
          intro k hk
          by_cases hkd : k ∈ done
          · exact hkd
          · by_cases hkl : k < ds.length
            · exact absurd (hI.sub k hkl hkd) (hpres k hk)
            · exfalso
              -- predecessors are operations
              have : ∀ (n j : Nat) (e : DI), j ≤ n → ds[j]? = some e → ∀ k ∈ e.pre, k < ds.length := by
                intro n
                induction n with
                | zero =>
                  intro j e hj he k hk
                  rcases (D.pre he).2 k hk with h | ⟨x, hx, _⟩
                  · have := (D.pre he).1 k h; omega
                  · have := (D.pre he).1 x hx; omega
                | succ n ihn =>
                  intro j e hj he k hk
                  have hjl := (List.getElem?_eq_some_iff.1 he).1
                  rcases (D.pre he).2 k hk with h | ⟨x, hx, e', he', hk'⟩
                  · have := (D.pre he).1 k h; omega
                  · have := (D.pre he).1 x hx
                    exact ihn x e' (by omega) he' k hk'
              exact hkl (this i i d (Nat.le_refl _) hd k hk)
        have hready := isReady_of hdone hd hpd
        have hnv : isVal ds i ≠ true := by
          intro hv
          have := List.find?_eq_none.1 hf i (by simpa using hdl)
          simp [hready, hv] at this
        have heff : effOk ds i = true := (D.eff hdl).resolve_left hnv
        have halt := h
        simp only [mkPlan, hf] at halt
        rw [if_neg (by
          intro hall
          exact hdone (by simpa using List.all_eq_true.1 hall i (by simpa using hdl)))] at halt
        obtain ⟨pe, hpe, hwp⟩ := altsOf_spec halt hp i (List.mem_filter.2 ⟨by simpa using hdl, hready⟩)
        rw [hd] at hpe
        split at hpe
        · rename_i d' p1 hd' hp1
          cases hd'
          cases hpe
          refine op_sound hCl ho hins hg (fun u hu' => huses u hu' fun h => absurd h hdone) hwp ?_
          rintro v H' a' W' hfl hg'
          obtain ⟨hwp1, hfls⟩ := flos_spec hfl
          -- slots of what is pending are not written
          have hnames : ∀ j e, j ∈ todo → j ∈ done → ds[j]? = some e → ∀ u ∈ e.ins.names, get (putO s.vs d.ins.dst v) u = get s.vs u := by
            intro j e hj hjd he u hu'
            cases hdst : d.ins.dst with
            | none => rfl
            | some t =>
              rw [get_putO_some, if_neg]
              rintro rfl
              rcases effOk_spec heff hd hdst j e (by rintro rfl; exact hdone hjd) he hu' with h | h
              · exact hdone (hI.closed j e hjd he i h)
              · exact hpres j h hj
          refine ih f (i :: done) (todo.erase i) p1 _ _ a' W' hp1 hwp1 ⟨?_, mcl, fun j hj => hI.lt j ((herase j).1 hj).2, ?_, ?_, ?_⟩ hlen' (hnd.erase i) hsz' hL'
          · intro j e hj he k hk
            cases hj with
            | head =>
              rw [hd] at he; cases he
              exact List.mem_cons_of_mem _ (hpd k hk)
            | tail _ hj => exact List.mem_cons_of_mem _ (hI.closed j e hj he k hk)
          · intro j hj hjn
            refine (herase j).2 ⟨by rintro rfl; exact hjn (List.mem_cons_self ..), hI.sub j hj fun h => hjn (List.mem_cons_of_mem _ h)⟩
          · intro j hj hjd
            obtain ⟨hji, hj⟩ := (herase j).1 hj
            have hjd : j ∈ done := by
              cases hjd with
              | head => exact absurd rfl hji
              | tail _ h => exact h
            obtain ⟨hv, e, he, hflo⟩ := hI.pend j hj hjd
            refine ⟨hv, e, he, ?_⟩
            obtain ⟨e', t', he', hq', _⟩ := isVal_spec hv
            rw [he] at he'; cases he'
            by_cases hr : e.ins.reads = true
            · refine hfls _ ?_
              unfold floatsOf
              refine List.mem_map.2 ⟨(e, j), List.mem_filter.2 ⟨?_, ?_⟩, rfl⟩
              · rw [List.mem_zipIdx_iff_getElem?]; exact he
              · simp only [Bool.and_eq_true, List.contains_eq_mem, decide_eq_true_eq, Bool.not_eq_true', decide_eq_false_iff_not]
                exact ⟨⟨⟨hjd, hv⟩, hr⟩, fun hm => hpres j hm hj⟩
            · exact flo_agree hq' (hnames j e hj hjd he) (.inr (by simpa using hr)) hflo
          · refine ⟨_, hg', fun u hu' => ?_⟩
            have pendold : ∀ j e, j ∈ todo → j ∈ done → ds[j]? = some e → e.ins.dst ≠ some u := fun j e hj hjd he =>
              hu' j e ((herase j).2 ⟨by rintro rfl; exact hdone hjd, hj⟩) (List.mem_cons_of_mem _ hjd) he
            cases hdst : d.ins.dst with
            | none => exact hm u pendold
            | some t =>
              rw [get_putO_some, get_putO_some]
              split
              · rfl
              · exact hm u pendold
        · cases hpe

theorem mkDIs_get : ∀ {is : List Ins} {ds ps : List (List Nat)} {i : Nat} {d : DI}, (mkDIs is ds ps)[i]? = some d → is[i]? = some d.ins ∧ ds[i]? = some d.dir
  | i :: is, d :: ds, p :: ps, 0, e, h => by
    simp only [mkDIs, List.getElem?_cons_zero, Option.some.injEq] at h
    subst h
    exact ⟨rfl, rfl⟩
  | i :: is, d :: ds, p :: ps, n + 1, e, h => by
    simp only [mkDIs, List.getElem?_cons_succ] at h ⊢
    exact mkDIs_get h
  | [], _, _, _, _, h => by simp [mkDIs] at h
  | _ :: _, [], _, _, _, h => by simp [mkDIs] at h
  | _ :: _, _ :: _, [], _, _, h => by simp [mkDIs] at h

theorem cInss_get {os : List Oper} : ∀ {os' : List Oper} {is : List Ins} {i : Nat} {o : Oper} {x : Ins}, cInss P wr nt ops os' = some is → os'[i]? = some o → is[i]? = some x → cIns P wr nt ops o = some x := by
  intro os'
  induction os' with
  | nil => intro is i o x h ho; simp at ho
  | cons y ys ih =>
    intro is i o x h ho hx
    simp only [cInss] at h
    split at h
    · rename_i z hz
      split at h
      · rename_i zs hzs
        cases h
        cases i with
        | zero =>
          simp only [List.getElem?_cons_zero, Option.some.injEq] at ho hx
          subst ho hx
          exact hz
        | succ i =>
          simp only [List.getElem?_cons_succ] at ho hx
          exact ih hzs ho hx
      · cases h
    · cases h

/-- A drawn region. -/
theorem wpP_sound (hCl : ∀ f args H k, Cl f args H k → SCall P f args H k) {is : List Ins} {p : Plan} (his : cInss P wr nt ops ops.toList = some is) (hp : cDraw is ops = some p) {K : St → Prop} {Q : Exit → Act → World → Prop}
    (hK : ∀ s a W, K s → Good nt H0 μ0 S0 W0 s a W → Q .normal a W) {s : St} {a : Act} {W : World} (h : wpP Cl p K s) (hg : Good nt H0 μ0 S0 W0 s a W) :
    wpAny P .any ops Q ops.size (Array.replicate ops.size false) a W := by
  unfold cDraw at hp
  dsimp only at hp
  split at hp
  · rename_i hc
    obtain ⟨hlen, hok⟩ := hc
    have D : DS P wr nt ops (mkDIs is (ops.toList.map dirOf) (presOf [] (ops.toList.map dirOf))) := by
      refine ⟨hlen, ?_, hok⟩
      intro i o d ho hd
      obtain ⟨h1, h2⟩ := mkDIs_get hd
      refine ⟨cInss_get (os := []) his (by rw [Array.getElem?_toList]; exact ho) h1, ?_⟩
      rw [List.getElem?_map, Array.getElem?_toList, ho] at h2
      exact (Option.some.inj h2).symm
    refine plan_sound hCl D hK ops.size _ [] (List.range ops.size) p _ s a W hp h ?_ (by simp) List.nodup_range (by simp) ?_
    · refine ⟨by simp, ?_, ?_, ?_, by simp, ⟨s.vs, hg, fun t _ => rfl⟩⟩
      · intro i d hi hd
        exfalso
        apply hi
        rw [List.mem_range, ← hlen]
        exact (List.getElem?_eq_some_iff.1 hd).1
      · intro i hi; rw [hlen]; simpa using hi
      · intro i hi _; rw [hlen] at hi; simpa using hi
    · intro i hi
      have : i < ops.size := by simpa using hi
      simp [Array.getD, this]
  · cases hp

end
end Go.Abs
