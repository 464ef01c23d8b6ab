/- Whole bodies: the logic for control, and why it is right. By the session itself. -/
import Derived.Test.YtljjabccgbakgaaAbE
namespace Go.Abs
open Go Go.RowKit
set_option linter.unusedSimpArgs false
set_option linter.unusedVariables false

def wpC (Cl : Known) (n : Nat) : Cd → (Ex → St → Prop) → St → Prop
  | .skip, Q, s => Q .norm s
  | .rgn is, Q, s => wpR Cl is (Q .norm) s
  | .rgnD p, Q, s => wpP Cl p (Q .norm) s
  | .seq a b, Q, s => wpC Cl n a (thenK (wpC Cl n b Q) Q) s
  | .cond c a b, Q, s => condV (ev s.vs c) (wpC Cl n a Q s) (wpC Cl n b Q s)
  | .block id c, Q, s => wpC Cl n c (blockK id Q) s
  | .loop c, Q, s => ∃ (I : Nat → St → Prop) (m : Nat) (s0 : St), Weak n s s0 ∧ I m s0 ∧ ∀ m s, I m s → wpC Cl n c (thenK (fun s' => ∃ m' s'', m' < m ∧ Weak n s' s'' ∧ I m' s'') Q) s
  | .exit id, Q, s => Q (.exit id) s
  | .ret, Q, s => Q .ret s

section
variable {P : Program}

def exRel : Ex → Exit → Prop
  | .norm, .normal => True
  | .exit i, .exit j => i = j
  | .ret, .ret => True
  | _, _ => False

/-- The abstract exits, as the machine's. -/
def lift (nt : Nat) (H0 : Heap) (μ0 : Nat → Loc) (S0 : Nat → Prop) (W0 : World) (Q : Ex → St → Prop) (e : Exit) (a : Act) (W : World) : Prop := ∃ x s, exRel x e ∧ Q x s ∧ Good nt H0 μ0 S0 W0 s a W

theorem good_weak {nt : Nat} {H0 : Heap} {μ0 : Nat → Loc} {S0 : Nat → Prop} {W0 : World} {s s' : St} {a : Act} {W : World} {n : Nat} (hn : H0.length ≤ n) (h : Weak n s s') (hg : Good nt H0 μ0 S0 W0 s a W) : Good nt H0 μ0 S0 W0 s' a W := by
  obtain ⟨μ, S, r, hd, hs, hv, l⟩ := hg
  obtain ⟨μ', S', r', l', hv'⟩ := h H0 μ0 S0 W0 μ S W _ hn r l hv
  exact ⟨μ', S', r', hd, hs, hv', l'⟩

theorem Later.bump {H : Heap} {μ : Nat → Loc} {S : Nat → Prop} {W W' : World} (hh : W'.heap = W.heap) (ho : W'.os = W.os) (ht : W'.tape = W.tape) (hp : W'.output = W.output) : Later H μ S W H μ S W' :=
  ⟨ho, ht, hp, by rw [hh]; exact Nat.le_refl _, fun _ o h => ⟨o, h, o.to_refl _⟩, fun _ _ _ => by rw [hh], fun _ h => h, fun _ _ h => .inl h, fun _ h => .inr ⟨h, rfl⟩⟩

theorem Rel.bump {H : Heap} {μ : Nat → Loc} {S : Nat → Prop} {W W' : World} (hh : W'.heap = W.heap) (l : Later H μ S W H μ S W') (r : Rel H μ S W) : Rel H μ S W' := by
  refine ⟨fun id o ho => ?_, r.inj, fun b hb => by rw [hh]; exact r.size b hb⟩
  have row : ∀ {l sz xs}, RowAt S W l sz xs → RowAt S W' l sz xs := by
    intro l sz xs h
    refine ⟨h.1, h.2.1, fun hc => ?_⟩
    obtain ⟨us, ty, fz, h1, h2, h3, h4⟩ := h.2.2 hc
    exact ⟨us, ty, fz, by rw [hh]; exact h1, h2, h3, fun i c u hc hu => (h4 i c u hc hu).mono (fun _ h => h) fun b _ => by rw [hh]⟩
  have := r.objs id o ho
  cases o with
  | box cs =>
    obtain ⟨h0, us, ty, h1, h2, h3⟩ := this
    exact ⟨h0, us, ty, by rw [hh]; exact h1, h2, fun i c u hc hu => (h3 i c u hc hu).later l r⟩
  | row sz g xs => exact ⟨this.1, row this.2⟩
  | frz sz g xs => exact ⟨this.1, row this.2⟩
  | map es =>
    obtain ⟨h0, ms, cl, h1, h2, h3⟩ := this
    exact ⟨h0, ms, cl, by rw [hh]; exact h1, h2, fun i e m he hm => ⟨(h3 i e m he hm).1.mono (fun _ h => h) fun b _ => by rw [hh], (h3 i e m he hm).2.mono (fun _ h => h) fun b _ => by rw [hh]⟩⟩

theorem Good.drawn {nt : Nat} {H0 : Heap} {μ0 : Nat → Loc} {S0 : Nat → Prop} {W0 : World} {s : St} {a : Act} {W : World} (hg : Good nt H0 μ0 S0 W0 s a W) : Good nt H0 μ0 S0 W0 s a { W with drawn := W.drawn + 1 } := by
  obtain ⟨μ, S, r, hd, hs, hv, l⟩ := hg
  have l' : Later s.h μ S W s.h μ S { W with drawn := W.drawn + 1 } := Later.bump rfl rfl rfl rfl
  exact ⟨μ, S, Rel.bump (W := W) rfl l' r, hd, hs, fun t => (hv t).later l' r, l.trans l'⟩

theorem wpC_sound {Cl : Known} (hCl : ∀ f args H k, Cl f args H k → SCall P f args H k) {muts : List Nat} {nt n : Nat} {H0 : Heap} {μ0 : Nat → Loc} {S0 : Nat → Prop} {W0 : World} (hn : H0.length ≤ n) :
    ∀ (c : Code) (c' : Cd), cCode P muts nt c = some c' → ∀ (Q : Ex → St → Prop) (s : St), wpC Cl n c' Q s → ∀ (a : Act) (W : World), Good nt H0 μ0 S0 W0 s a W → c.wp P (lift nt H0 μ0 S0 W0 Q) a W := by
  intro c
  induction c with
  | skip => intro c' hc Q s h a W hg; cases hc; exact wp_skip ⟨.norm, s, trivial, h, hg⟩
  | exit id => intro c' hc Q s h a W hg; cases hc; exact wp_exit ⟨.exit id, s, rfl, h, hg⟩
  | ret => intro c' hc Q s h a W hg; cases hc; exact wp_ret ⟨.ret, s, trivial, h, hg⟩
  | region id ops draw =>
    intro c' hc Q s h a W hg
    cases draw with
    | true =>
      simp only [cCode] at hc
      split at hc
      · rename_i is his
        split at hc
        · rename_i p hp
          split at hc
          · rename_i hm
            cases hc
            refine wp_region_any hm ?_
            exact wpP_sound hCl his hp (Q := lift nt H0 μ0 S0 W0 Q) (fun s a W hk hg => ⟨.norm, s, trivial, hk, hg⟩) h hg.drawn
          · cases hc
        · cases hc
      · cases hc
    | false =>
      simp only [cCode] at hc
      split at hc
      · rename_i is his
        cases hc
        refine wp_region ?_
        have := wpR_sound (P := P) hCl (K := Q .norm) (Q := lift nt H0 μ0 S0 W0 Q) (fun s a W hk hg => ⟨.norm, s, trivial, hk, hg⟩) ops.toList 0 is s a W (by simp) his h hg
        simpa using this
      · cases hc
  | seq x y ihx ihy =>
    intro c' hc Q s h a W hg
    simp only [cCode] at hc
    split at hc
    · rename_i x' y' hx hy
      cases hc
      refine wp_seq (wp_mono (ihx _ hx _ s h a W hg) ?_)
      rintro e a' W' ⟨ex, s', he, hq, hg'⟩
      cases ex <;> cases e <;> try exact he.elim
      · exact ihy _ hy Q s' hq a' W' hg'
      · exact ⟨_, s', he, hq, hg'⟩
      · exact ⟨.ret, s', trivial, hq, hg'⟩
    · cases hc
  | cond z x y ihx ihy =>
    intro c' hc Q s h a W hg
    simp only [cCode] at hc
    split at hc
    · rename_i z' x' y' hz hx hy
      cases hc
      simp only [wpC] at h
      unfold condV at h
      split at h
      · rename_i q hq
        have hv := hg
        obtain ⟨μ, S, r, hd, hnn, hv, l⟩ := hv
        have hz' := cOpnd_sound hv hz
        rw [hq] at hz'
        refine wp_cond hz'.bool_inv ?_
        cases q with
        | true => exact ihx _ hx Q s (h.1 rfl) a W hg
        | false => exact ihy _ hy Q s (h.2 rfl) a W hg
      · exact h.elim
    · cases hc
  | block id x ih =>
    intro c' hc Q s h a W hg
    simp only [cCode] at hc
    split at hc
    · rename_i x' hx
      cases hc
      refine wp_block (wp_mono (ih _ hx _ s h a W hg) ?_)
      rintro e a' W' ⟨ex, s', he, hq, hg'⟩
      cases ex <;> cases e <;> try exact he.elim
      · exact ⟨.norm, s', trivial, hq, hg'⟩
      · rename_i i j
        simp only [exRel] at he
        subst he
        simp only [Exit.inBlock]
        simp only [blockK] at hq
        split
        · rename_i hi; rw [if_pos hi] at hq; exact ⟨.norm, s', trivial, hq, hg'⟩
        · rename_i hi; rw [if_neg hi] at hq; exact ⟨.exit i, s', rfl, hq, hg'⟩
      · exact ⟨.ret, s', trivial, hq, hg'⟩
    · cases hc
  | loop x ih =>
    intro c' hc Q s h a W hg
    simp only [cCode] at hc
    split at hc
    · rename_i x' hx
      cases hc
      obtain ⟨I, m, s0, hw, hI, hstep⟩ := h
      have hg0 := good_weak hn hw hg
      clear hw hg
      intro b k cs
      have key : ∀ m s a W, I m s → Good nt H0 μ0 S0 W0 s a W →
          ∃ e a' w', lift nt H0 μ0 S0 W0 Q e a' w' ∧ Arrives P (lone (b.at a (.code x :: .inLoop x :: k)) cs W) b k cs e a' w' := by
        intro m
        induction m using Nat.strongRecOn with
        | _ m ihm =>
          intro s a W hI hg
          obtain ⟨e, a₁, w₁, hq, harr⟩ := ih _ hx _ s (hstep m s hI) a W hg b (.inLoop x :: k) cs
          obtain ⟨ex, s', he, hq, hg'⟩ := hq
          cases ex <;> cases e <;> try exact he.elim
          · obtain ⟨m', s'', hlt, hw, hI'⟩ := hq
            obtain ⟨e₂, a₂, w₂, hq₂, harr₂⟩ := ihm m' hlt s'' a₁ w₁ hI' (good_weak hn hw hg')
            exact ⟨e₂, a₂, w₂, hq₂, .of_steps (Steps.trans harr (.one step_inLoop)) harr₂⟩
          · exact ⟨.exit _, a₁, w₁, ⟨_, s', he, hq, hg'⟩, .pass (x := .inLoop x) rfl (fun _ _ => .inl (by simp)) harr⟩
          · exact ⟨.ret, a₁, w₁, ⟨.ret, s', trivial, hq, hg'⟩, .pass (x := .inLoop x) rfl (fun _ _ => .inl (by simp)) harr⟩
      obtain ⟨e, a', w', hq, harr⟩ := key m s0 a W hI hg0
      exact ⟨e, a', w', hq, .of_steps (.one step_loop) harr⟩
    · cases hc
  | _ => intro c' hc; simp [cCode] at hc

end
end Go.Abs
