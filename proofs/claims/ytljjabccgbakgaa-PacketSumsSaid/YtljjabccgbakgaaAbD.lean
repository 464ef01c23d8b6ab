/- Drawn regions: whatever order is drawn, the plan says what comes of it. By the session itself. -/
import Derived.Test.YtljjabccgbakgaaAb12
import Derived.Orders
namespace Go.Abs
open Go Go.RowKit
set_option linter.unusedSimpArgs false
set_option linter.unusedVariables false

/-- A reading instruction gives again what stands in its slot. -/
def flo (i : Ins) (s : St) : Prop :=
  match i with
  | ⟨some d, none, .op k xs⟩ => stepK s.h k (xs.map (ev s.vs)) fun v _ => v = get s.vs d
  | ⟨some d, some (t, w), .op k xs⟩ => guardV (get s.vs t) w (stepK s.h k (xs.map (ev s.vs)) fun v _ => v = get s.vs d) (get s.vs d = .undef)
  | _ => False

def flos : List Ins → St → Prop → Prop
  | [], _, q => q
  | i :: is, s, q => flo i s ∧ flos is s q

def wpP (Cl : Known) : Plan → (St → Prop) → St → Prop
  | .fin, K, s => K s
  | .val i p, K, s => wpR Cl [i] (wpP Cl p K) s
  | .eff i fl p, K, s => wpR Cl [i] (fun s' => flos fl s' (wpP Cl p K s')) s
  | .alt p q, K, s => wpP Cl p K s ∧ wpP Cl q K s

theorem flos_spec {s : St} {q : Prop} : ∀ {is : List Ins}, flos is s q → q ∧ ∀ i ∈ is, flo i s
  | [], h => ⟨h, fun _ h => by cases h⟩
  | i :: is, h => ⟨(flos_spec h.2).1, fun j hj => by
      cases hj with
      | head => exact h.1
      | tail _ hj => exact (flos_spec h.2).2 j hj⟩

theorem kval_heap {H H' : Heap} {k : K} {args : List V} (h : k.reads = false) : kval H k args = kval H' k args := by
  unfold kval
  split <;> first | rfl | (exact absurd h (by simp [K.reads])) | skip

theorem ev_agree {m vs : List (Nat × V)} {x : Opnd} (h : ∀ t ∈ x.uses, get m t = get vs t) : ev m x = ev vs x := by
  cases x with
  | tmp t => exact h t (by simp [Opnd.uses])
  | val v => rfl

theorem evs_agree {m vs : List (Nat × V)} {xs : List Opnd} (h : ∀ t ∈ xs.flatMap Opnd.uses, get m t = get vs t) : xs.map (ev m) = xs.map (ev vs) :=
  List.map_congr_left fun x hx => ev_agree fun t ht => h t (List.mem_flatMap.2 ⟨x, hx, ht⟩)

theorem wpB_agree {Cl : Known} {b : Body} {m vs : List (Nat × V)} {H : Heap} {k : V → Heap → Prop} (h : ∀ t ∈ b.uses, get m t = get vs t) : wpB Cl b ⟨m, H⟩ k = wpB Cl b ⟨vs, H⟩ k := by
  cases b with
  | op op xs => simp only [wpB]; rw [evs_agree h]
  | call f xs => simp only [wpB]; rw [evs_agree h]
  | callv x xs =>
    simp only [wpB]
    rw [evs_agree fun t ht => h t (by simp only [Body.uses, List.mem_append]; exact .inr ht), ev_agree fun t ht => h t (by simp only [Body.uses, List.mem_append]; exact .inl ht)]

theorem get_putO_some (vs : List (Nat × V)) (d t : Nat) (v : V) : get (putO vs (some d) v) t = if d = t then v else get vs t := get_put vs d t v

section
variable {P : Program} {Cl : Known}

/-- One operation of a region. -/
theorem op_sound (hCl : ∀ f args H k, Cl f args H k → SCall P f args H k) {wr : Bool} {nt : Nat} {ops : Array Oper} {H0 : Heap} {μ0 : Nat → Loc} {S0 : Nat → Prop} {W0 : World} {K : St → Prop} {Q : Exit → Act → World → Prop}
    {i : Nat} {o : Oper} {ins : Ins} (hi : ops[i]? = some o) (hins : cIns P wr nt ops o = some ins) {m vs : List (Nat × V)} {H : Heap} {a : Act} {W : World} (hg : Good nt H0 μ0 S0 W0 ⟨m, H⟩ a W)
    (huse : ∀ t ∈ ins.uses, get m t = get vs t) (h : wpR Cl [ins] K ⟨vs, H⟩) {N : Act → World → Prop}
    (hnext : ∀ v H' a' W', K ⟨putO vs ins.dst v, H'⟩ → Good nt H0 μ0 S0 W0 ⟨putO m ins.dst v, H'⟩ a' W' → N a' W') : wpOp P ops Q i N a W := by
  unfold wpOp
  rw [hi]
  unfold cIns at hins
  split at hins
  · rename_i g b hgd hbd
    split at hins
    · rename_i hdst
      simp only [Option.some.injEq] at hins
      subst hins
      have hb : ∀ t ∈ b.uses, get m t = get vs t := fun t ht => huse t (by simp only [Ins.uses, List.mem_append]; exact .inr ht)
      cases hgo : o.guard with
      | none =>
        rw [hgo] at hgd
        simp only [cGuard, Option.some.injEq] at hgd
        subst hgd
        simp only [wpR] at h
        dsimp only
        rw [if_pos (by simp [Region.wanted, hgo])]
        rw [← wpB_agree hb] at h
        exact .inl (wpB_sound hCl hbd hdst hg h fun v H' a' W' hk hg' => hnext v H' a' W' hk hg')
      | some jw =>
        obtain ⟨j, want⟩ := jw
        rw [hgo] at hgd
        simp only [cGuard] at hgd
        split at hgd
        · rename_i t ht
          simp only [Option.some.injEq] at hgd
          subst hgd
          simp only [wpR] at h
          unfold guardV at h
          split at h
          · rename_i q hq
            dsimp only
            have hq' : get m t = .t (.bool q) := (huse t (by simp [Ins.uses])).trans hq
            obtain ⟨μ, S, r, hdd, hnn, hv, l⟩ := hg
            have hvt := hv t
            simp only [hq'] at hvt
            have hbool := hvt.bool_inv
            have htl : t < a.tmps.size := by
              rcases Nat.lt_or_ge t a.tmps.size with h | h
              · exact h
              · rw [Array.getD_eq_getD_getElem?, Array.getElem?_eq_none h] at hbool
                cases hbool
            have hy := yielded_bool ht htl hbool
            by_cases hqw : q = want
            · rw [if_pos (by simp [Region.wanted, hgo, hy, hqw])]
              have h1 := h.1 hqw
              rw [← wpB_agree hb] at h1
              exact .inl (wpB_sound hCl hbd hdst ⟨μ, S, r, hdd, hnn, hv, l⟩ h1 fun v H' a' W' hk hg' => hnext v H' a' W' hk hg')
            · rw [if_neg (by simp [Region.wanted, hgo, hy, hqw])]
              exact hnext .undef H _ W (h.2 hqw) (good_put (d := o.dst) r hdd hnn hv l r (.undef _) (.refl _ _ _ _) hdst)
          · exact h.elim
        · cases hgd
    · cases hins
  · cases hins

theorem stepK_quiet {H : Heap} {k : K} {args : List V} {q : V → Heap → Prop} (hk : k.isEff = false) (h : stepK H k args q) : ∃ v, q v H ∧ ∀ q', q' v H → stepK H k args q' := by
  unfold stepK at h ⊢
  simp only [hk, Bool.false_eq_true, if_false] at h ⊢
  unfold kk at h ⊢
  split at h
  · rename_i c v hv
    exact ⟨v, h.2, fun q' hq => ⟨h.1, hq⟩⟩
  · exact h.elim

/-- A reading instruction, done early. -/
theorem val_step {ins : Ins} {K : St → Prop} {vs : List (Nat × V)} {H : Heap} {d : Nat} (hq : ins.quiet = true) (hd : ins.dst = some d) (hu : d ∉ ins.uses) (h : wpR Cl [ins] K ⟨vs, H⟩) :
    ∃ v, K ⟨putO vs (some d) v, H⟩ ∧ flo ins ⟨putO vs (some d) v, H⟩ := by
  obtain ⟨dst, g, b⟩ := ins
  simp only at hd
  subst hd
  cases b with
  | op k xs =>
    have hk : k.isEff = false := by simpa [Ins.quiet] using hq
    have same : ∀ v, xs.map (ev (putO vs (some d) v)) = xs.map (ev vs) := fun v => evs_agree fun t ht => by
      rw [get_putO_some, if_neg]
      rintro rfl
      exact hu (by simp only [Ins.uses, Body.uses, List.mem_append]; exact .inr ht)
    cases g with
    | none =>
      simp only [wpR, wpB] at h
      obtain ⟨v, h1, h2⟩ := stepK_quiet hk h
      refine ⟨v, h1, ?_⟩
      simp only [flo]
      rw [same v]
      exact h2 _ (by rw [get_putO_some, if_pos rfl])
    | some tw =>
      obtain ⟨t, w⟩ := tw
      have htd : d ≠ t := by
        rintro rfl
        exact hu (by simp [Ins.uses])
      simp only [wpR, wpB] at h
      unfold guardV at h
      split at h
      · rename_i q hq
        by_cases hqw : q = w
        · obtain ⟨v, h1, h2⟩ := stepK_quiet hk (h.1 hqw)
          refine ⟨v, h1, ?_⟩
          simp only [flo]
          rw [get_putO_some, if_neg htd, hq, same v, get_putO_some, if_pos rfl]
          exact ⟨fun _ => h2 _ rfl, fun hn => absurd hqw hn⟩
        · refine ⟨.undef, h.2 hqw, ?_⟩
          simp only [flo]
          rw [get_putO_some, if_neg htd, hq, get_putO_some, if_pos rfl]
          exact ⟨fun hn => absurd hn hqw, fun _ => rfl⟩
      · exact h.elim
  | call f xs => simp [Ins.quiet] at hq
  | callv f xs => simp [Ins.quiet] at hq

theorem flo_run {ins : Ins} {vs : List (Nat × V)} {H : Heap} {d : Nat} (hq : ins.quiet = true) (hd : ins.dst = some d) (h : flo ins ⟨vs, H⟩) :
    wpR Cl [ins] (fun s => s.h = H ∧ get s.vs d = get vs d) ⟨vs, H⟩ := by
  obtain ⟨dst, g, b⟩ := ins
  simp only at hd
  subst hd
  cases b with
  | op k xs =>
    have hk : k.isEff = false := by simpa [Ins.quiet] using hq
    cases g with
    | none =>
      simp only [flo] at h
      obtain ⟨v, h1, h2⟩ := stepK_quiet hk h
      simp only [wpR, wpB]
      refine h2 _ ⟨rfl, ?_⟩
      rw [get_putO_some, if_pos rfl, h1]
    | some tw =>
      obtain ⟨t, w⟩ := tw
      simp only [flo] at h
      simp only [wpR, wpB]
      unfold guardV at h ⊢
      split
      · rename_i q hq
        rw [hq] at h
        refine ⟨fun e => ?_, fun e => ⟨trivial, ?_⟩⟩
        · obtain ⟨v, h1, h2⟩ := stepK_quiet hk (h.1 e)
          refine h2 _ ⟨rfl, ?_⟩
          rw [get_putO_some, if_pos rfl, h1]
        · rw [get_putO_some, if_pos rfl, h.2 e]
      · rename_i hx
        split at h
        · rename_i q hq; exact hx q hq
        · exact h
  | call f xs => simp [Ins.quiet] at hq
  | callv f xs => simp [Ins.quiet] at hq

theorem flo_agree {ins : Ins} {m vs : List (Nat × V)} {H H' : Heap} (hq : ins.quiet = true) (hn : ∀ t ∈ ins.names, get m t = get vs t) (hH : H' = H ∨ ins.reads = false) (h : flo ins ⟨vs, H⟩) : flo ins ⟨m, H'⟩ := by
  obtain ⟨dst, g, b⟩ := ins
  cases b with
  | op k xs =>
    have hk : k.isEff = false := by simpa [Ins.quiet] using hq
    have hxs : xs.map (ev m) = xs.map (ev vs) := evs_agree fun t ht => hn t (by simp only [Ins.names, Ins.uses, Body.uses, List.mem_append]; exact .inr (.inr ht))
    have step : ∀ q : V → Prop, stepK H k (xs.map (ev vs)) (fun v _ => q v) → stepK H' k (xs.map (ev m)) (fun v _ => q v) := by
      intro q h
      rw [hxs]
      unfold stepK at h ⊢
      simp only [hk, Bool.false_eq_true, if_false] at h ⊢
      rcases hH with rfl | hr
      · exact h
      · rw [kval_heap (H' := H) (by simpa [Ins.reads] using hr)]
        unfold kk at h ⊢
        split at h
        · exact h
        · exact h.elim
    cases dst with
    | none => cases g <;> exact h.elim
    | some d =>
      have hd : get m d = get vs d := hn d (by simp [Ins.names])
      cases g with
      | none =>
        simp only [flo] at h ⊢
        rw [hd]
        exact step _ h
      | some tw =>
        obtain ⟨t, w⟩ := tw
        have ht : get m t = get vs t := hn t (by simp [Ins.names, Ins.uses])
        simp only [flo] at h ⊢
        rw [hd, ht]
        unfold guardV at h ⊢
        split
        · rename_i q hq
          rw [hq] at h
          exact ⟨fun e => step _ (h.1 e), h.2⟩
        · rename_i hx
          split at h
          · rename_i q hq; exact hx q hq
          · exact h
  | call f xs => simp [Ins.quiet] at hq
  | callv f xs => simp [Ins.quiet] at hq

end
end Go.Abs
