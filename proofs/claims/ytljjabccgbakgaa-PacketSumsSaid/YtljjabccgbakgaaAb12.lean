/- The program logic of the abstract machine, and why it is right. By the session itself. -/
import Derived.Test.YtljjabccgbakgaaAb11
import Derived.Calls
namespace Go.Abs
open Go Go.RowKit
set_option linter.unusedSimpArgs false
set_option linter.unusedVariables false

structure St where
  vs : List (Nat × V)
  h : Heap

def get : List (Nat × V) → Nat → V
  | [], _ => .undef
  | (k, v) :: r, t => if k = t then v else get r t

def put (vs : List (Nat × V)) (t : Nat) (v : V) : List (Nat × V) := (t, v) :: vs

def putO (vs : List (Nat × V)) : Option Nat → V → List (Nat × V)
  | some t, v => put vs t v
  | none, _ => vs

def ev (vs : List (Nat × V)) : Opnd → V
  | .tmp t => get vs t
  | .val v => v

inductive Ex where
  | norm
  | exit (id : Nat)
  | ret

/-- What is known of calls. -/
abbrev Known := FuncId → List V → Heap → (V → Heap → Prop) → Prop

def kk (o : Option (Prop × V)) (H : Heap) (k : V → Heap → Prop) : Prop :=
  match o with
  | some (c, v) => c ∧ k v H
  | none => False

def ke (o : Option (Prop × V × Heap)) (k : V → Heap → Prop) : Prop :=
  match o with
  | some (c, v, H) => c ∧ k v H
  | none => False

def stepK (H : Heap) (op : K) (args : List V) (k : V → Heap → Prop) : Prop := if op.isEff then ke (keff H op args) k else kk (kval H op args) H k

def callV (Cl : Known) (f : V) (args : List V) (H : Heap) (k : V → Heap → Prop) : Prop :=
  match f with
  | .fn f caps => Cl f (args ++ caps) H k
  | _ => False

def wpB (Cl : Known) (b : Body) (s : St) (k : V → Heap → Prop) : Prop :=
  match b with
  | .op op xs => stepK s.h op (xs.map (ev s.vs)) k
  | .call f xs => Cl f (xs.map (ev s.vs)) s.h k
  | .callv x xs => callV Cl (ev s.vs x) (xs.map (ev s.vs)) s.h k

def guardV (v : V) (want : Bool) (yes no : Prop) : Prop :=
  match v with
  | .t (.bool q) => (q = want → yes) ∧ (q ≠ want → no)
  | _ => False

def wpR (Cl : Known) : List Ins → (St → Prop) → St → Prop
  | [], k, s => k s
  | ⟨d, none, b⟩ :: r, k, s => wpB Cl b s fun v H => wpR Cl r k ⟨putO s.vs d v, H⟩
  | ⟨d, some (t, want), b⟩ :: r, k, s => guardV (get s.vs t) want (wpB Cl b s fun v H => wpR Cl r k ⟨putO s.vs d v, H⟩) (wpR Cl r k ⟨putO s.vs d .undef, s.h⟩)

/-- The state s2 says no more than s1; the first n objects stay what they are. -/
def Weak (n : Nat) (s1 s2 : St) : Prop :=
  ∀ (H0 : Heap) μ0 S0 W0 μ S W (val : Nat → Value), H0.length ≤ n → Rel s1.h μ S W → Later H0 μ0 S0 W0 s1.h μ S W → (∀ t, RV μ S s1.h W (get s1.vs t) (val t)) →
    ∃ μ' S', Rel s2.h μ' S' W ∧ Later H0 μ0 S0 W0 s2.h μ' S' W ∧ ∀ t, RV μ' S' s2.h W (get s2.vs t) (val t)

theorem Weak.refl (n : Nat) (s : St) : Weak n s s := fun _ _ _ _ μ S _ _ _ r l h => ⟨μ, S, r, l, h⟩
theorem Weak.trans {n : Nat} {a b c : St} (h : Weak n a b) (k : Weak n b c) : Weak n a c := fun H0 μ0 S0 W0 μ S W val hn r l hv =>
  let ⟨μ', S', r', l', hv'⟩ := h H0 μ0 S0 W0 μ S W val hn r l hv
  k H0 μ0 S0 W0 μ' S' W val hn r' l' hv'

def thenK (k : St → Prop) (Q : Ex → St → Prop) : Ex → St → Prop
  | .norm, s => k s
  | .exit id, s => Q (.exit id) s
  | .ret, s => Q .ret s

def blockK (id : Nat) (Q : Ex → St → Prop) : Ex → St → Prop
  | .norm, s => Q .norm s
  | .exit i, s => if i = id then Q .norm s else Q (.exit i) s
  | .ret, s => Q .ret s

def condV (v : V) (yes no : Prop) : Prop :=
  match v with
  | .t (.bool q) => (q = true → yes) ∧ (q = false → no)
  | _ => False

def Callable (P : Program) (f : FuncId) : Prop := ∃ fn, P.funcs[f]? = some fn ∧ fn.body.isNone = false ∧ (fn.name == "runtime.NumGoroutine") = false

/-- A call, seen from the abstract machine. -/
def SCall (P : Program) (f : FuncId) (args : List V) (H : Heap) (Q : V → Heap → Prop) : Prop :=
  Callable P f ∧ ∀ μ S W (vals : List Value), Rel H μ S W → All2 (RV μ S H W) args vals →
    Calls P f vals.toArray W fun e W' => ∃ r u H' μ' S', e = .returned u ∧ Q r H' ∧ Rel H' μ' S' W' ∧ RV μ' S' H' W' r u ∧ Later H μ S W H' μ' S' W'

theorem SCall.mono {P : Program} {f : FuncId} {args : List V} {H : Heap} {Q Q' : V → Heap → Prop} (h : SCall P f args H Q) (hq : ∀ r H', Q r H' → Q' r H') : SCall P f args H Q' :=
  ⟨h.1, fun μ S W vals r ha => (h.2 μ S W vals r ha).mono fun _ _ ⟨v, u, H', μ', S', e, q, rest⟩ => ⟨v, u, H', μ', S', e, hq _ _ q, rest⟩⟩

section
variable {P : Program}

/-- A state of the machine, seen from the abstract one; it began at H0. -/
def Good (nt : Nat) (H0 : Heap) (μ0 : Nat → Loc) (S0 : Nat → Prop) (W0 : World) (s : St) (a : Act) (W : World) : Prop :=
  ∃ μ S, Rel s.h μ S W ∧ a.defers = [] ∧ a.tmps.size = nt ∧ (∀ t, RV μ S s.h W (get s.vs t) (a.tmps.getD t undef)) ∧ Later H0 μ0 S0 W0 s.h μ S W

theorem get_put (vs : List (Nat × V)) (t u : Nat) (v : V) : get (put vs t v) u = if t = u then v else get vs u := by
  rfl

theorem cOpnd_sound {μ : Nat → Loc} {S : Nat → Prop} {H : Heap} {W : World} {vs : List (Nat × V)} {a : Act} (h : ∀ t, RV μ S H W (get vs t) (a.tmps.getD t undef)) {x : Operand} {y : Opnd} (hc : cOpnd x = some y) : RV μ S H W (ev vs y) (a.eval x) := by
  have one : ∀ {v : Value} {x : T}, constT v = some x → RT S W x v := by
    intro v x hx
    have : constTs [v] = some [x] := by simp [constTs, hx]
    exact (constTs_sound (S := S) (W := W) this).2 0 x v rfl rfl
  unfold cOpnd at hc
  split at hc
  · cases hc; exact h _
  · rename_i cs
    split at hc
    · rename_i xs hx
      cases hc
      have := constTs_sound (S := S) (W := W) hx
      have h2 : RV μ S H W (.agg (xs.map .t)) (.agg cs.toList.toArray) := .mkAgg (all2_t this)
      simpa [ev, Act.eval] using h2
    · cases hc
  · split at hc
    · rename_i v _ x hx; cases hc; exact .t (one hx)
    · cases hc
  · cases hc; exact .fn [] rfl (by simp)
  · cases hc

theorem cOpnds_sound {μ : Nat → Loc} {S : Nat → Prop} {H : Heap} {W : World} {vs : List (Nat × V)} {a : Act} (h : ∀ t, RV μ S H W (get vs t) (a.tmps.getD t undef)) : ∀ {xs : List Operand} {ys : List Opnd}, cOpnds xs = some ys → All2 (RV μ S H W) (ys.map (ev vs)) (xs.map a.eval)
  | [], ys, hc => by simp only [cOpnds, Option.some.injEq] at hc; subst hc; exact .nil _
  | x :: xs, ys, hc => by
    simp only [cOpnds] at hc
    split at hc
    · rename_i y hy
      split at hc
      · rename_i ys' hys
        cases hc
        exact .cons (cOpnd_sound h hy) (cOpnds_sound h hys)
      · cases hc
    · cases hc

theorem cOp_call {wr : Bool} {c : Call} {k : K} {xs : List Operand} (h : cOp P wr (.call c) = some (k, xs)) : False := by simp [cOp] at h

theorem isEff_val {H : Heap} {k : K} {args : List V} (h : k.isEff = true) : kval H k args = none := by
  cases k <;> first | (cases h; done) | rfl

theorem isEff_eff {H : Heap} {k : K} {args : List V} (h : k.isEff = false) : keff H k args = none := by
  cases k <;> first | (cases h; done) | rfl

/-- What becomes of the state when an operation has an answer. -/
theorem good_put {nt : Nat} {H0 : Heap} {μ0 : Nat → Loc} {S0 : Nat → Prop} {W0 : World} {s : St} {a : Act} {W W' : World} {μ μ' : Nat → Loc} {S S' : Nat → Prop} {H' : Heap} {d : Option Nat} {v : V} {q : Value}
    (r : Rel s.h μ S W) (hd : a.defers = []) (hn : a.tmps.size = nt) (hv : ∀ t, RV μ S s.h W (get s.vs t) (a.tmps.getD t undef)) (l : Later H0 μ0 S0 W0 s.h μ S W)
    (r' : Rel H' μ' S' W') (hq : RV μ' S' H' W' v q) (l' : Later s.h μ S W H' μ' S' W') (hdst : dstOk d nt = true) : Good nt H0 μ0 S0 W0 ⟨putO s.vs d v, H'⟩ (a.put d q) W' := by
  refine ⟨μ', S', r', ?_, ?_, fun t => ?_, l.trans l'⟩
  · cases d <;> exact hd
  · cases d with
    | none => exact hn
    | some t => simp [Act.put, hn]
  · cases d with
    | none => exact (hv t).later l' r
    | some u =>
      simp only [putO, get_put]
      have hu : u < nt := by simpa [dstOk] using hdst
      by_cases h : u = t
      · subst h
        rw [if_pos rfl]
        have : (a.put (some u) q).tmps.getD u undef = q := by
          simp only [Act.put, Array.getD_eq_getD_getElem?, Array.getElem?_setIfInBounds]
          simp [hn, hu]
        rw [this]; exact hq
      · rw [if_neg h]
        have : (a.put (some u) q).tmps.getD t undef = a.tmps.getD t undef := by
          simp only [Act.put, Array.getD_eq_getD_getElem?, Array.getElem?_setIfInBounds]
          rw [if_neg h]
        rw [this]; exact (hv t).later l' r

theorem run_call_value {ρ : Operand → Value} {o : Oper} {x : Operand} {args : Array Operand} {ts : Array TypeId} (ho : o.op = .call ⟨.value x, args, ts⟩) {f : FuncId} {caps : Array Value} (hx : ρ x = .func (.func f) #[] caps) (hc : Callable P f) {W : World} :
    (execOp ρ o).run P W = .ok (.enter f (args.map ρ ++ caps)) W := by
  obtain ⟨fn, h1, h2, h3⟩ := hc
  unfold execOp
  rw [ho]
  simp only [resolve, hx, Deferred.ofValue, Sem.run_bind, Sem.run_pure, Result.andThen_ok, invoke, callFunc, run_program, h1, h3, h2]
  simp


/-- One operation. -/
theorem wpB_sound {Cl : Known} (hCl : ∀ f args H k, Cl f args H k → SCall P f args H k) {wr : Bool} {o : Oper} {b : Body} (hb : cBody P wr o.op = some b) {nt : Nat} {H0 : Heap} {μ0 : Nat → Loc} {S0 : Nat → Prop} {W0 : World}
    (hdst : dstOk o.dst nt = true) {s : St} {a : Act} {W : World} (hg : Good nt H0 μ0 S0 W0 s a W) {k : V → Heap → Prop} (h : wpB Cl b s k)
    {next : Act → World → Prop} {Q : Exit → Act → World → Prop} (hnext : ∀ v H' a' W', k v H' → Good nt H0 μ0 S0 W0 ⟨putO s.vs o.dst v, H'⟩ a' W' → next a' W') : o.wp P a W next Q := by
  obtain ⟨μ, S, r, hd, hn, hv, l⟩ := hg
  have effs : ∀ {op : K} {args : List V} {c : Prop} {v : V} {H' : Heap}, keff s.h op args = some (c, v, H') → c → k v H' →
      (∃ n q W' μ' S', (execOp a.eval o).run P W = .ok n W' ∧ (n = .value q ∨ (n = .skip ∧ q = undef)) ∧ Rel H' μ' S' W' ∧ RV μ' S' H' W' v q ∧ Later s.h μ S W H' μ' S' W') → o.wp P a W next Q := by
    intro op args c v H' _ hc hk ⟨n, q, W', μ', S', e1, e2, e3, e4, e5⟩
    have hgood := good_put (d := o.dst) r hd hn hv l e3 e4 e5 hdst
    unfold Oper.wp
    rw [e1]
    rcases e2 with rfl | ⟨rfl, rfl⟩
    · rw [Oper.upon_value]; exact hnext v H' _ _ hk hgood
    · rw [Oper.upon_skip]; exact hnext v H' _ _ hk hgood
  have vals : ∀ {c : Prop} {v : V}, c → k v s.h → (∃ q, (execOp a.eval o).run P W = .ok (.value q) W ∧ RV μ S s.h W v q) → o.wp P a W next Q := by
    intro c v hc hk ⟨q, e1, e2⟩
    have hgood := good_put (d := o.dst) r hd hn hv l r e2 (.refl _ _ _ _) hdst
    unfold Oper.wp
    rw [e1, Oper.upon_value]
    exact hnext v s.h _ _ hk hgood
  have call : ∀ {x : Operand} {args : Array Operand} {ts : Array TypeId} {f : FuncId} {caps : List Value} {capsV : List V} {xs : List Opnd}, o.op = .call ⟨.value x, args, ts⟩ → a.eval x = .func (.func f) #[] caps.toArray →
      All2 (RV μ S s.h W) capsV caps → cOpnds args.toList = some xs → Cl f (xs.map (ev s.vs) ++ capsV) s.h k → o.wp P a W next Q := by
    intro x args ts f caps capsV xs ho hx hcaps hxs hcl
    obtain ⟨hcallable, hcall⟩ := hCl _ _ _ _ hcl
    unfold Oper.wp
    rw [run_call_value ho hx hcallable, Oper.upon_enter]
    have hargs := (cOpnds_sound hv hxs).append hcaps
    have he : args.map a.eval ++ caps.toArray = (args.toList.map a.eval ++ caps).toArray := by apply Array.ext'; simp
    rw [he]
    refine (hcall μ S W _ r hargs).mono ?_
    rintro e W' ⟨v, u, H', μ', S', rfl, hk, r', hu, l'⟩
    exact hnext v H' _ _ hk (good_put (d := o.dst) r hd hn hv l r' hu l' hdst)
  have plain : ∀ {kk0 : K} {ys : List Operand} {xs : List Opnd}, (∀ {args : List V} {c : Prop} {v : V}, All2 (RV μ S s.h W) args (ys.map a.eval) → kval s.h kk0 args = some (c, v) → c → ∃ q, (execOp a.eval o).run P W = .ok (.value q) W ∧ RV μ S s.h W v q) →
      (∀ {args : List V} {c : Prop} {v : V} {H' : Heap}, All2 (RV μ S s.h W) args (ys.map a.eval) → keff s.h kk0 args = some (c, v, H') → c → ∃ n q W' μ' S', (execOp a.eval o).run P W = .ok n W' ∧ (n = .value q ∨ (n = .skip ∧ q = undef)) ∧ Rel H' μ' S' W' ∧ RV μ' S' H' W' v q ∧ Later s.h μ S W H' μ' S' W') →
      cOpnds ys = some xs → stepK s.h kk0 (xs.map (ev s.vs)) k → o.wp P a W next Q := by
    intro kk0 ys xs hval heff hxs hst
    have hargs := cOpnds_sound hv hxs
    unfold stepK at hst
    split at hst
    · unfold ke at hst
      split at hst
      · rename_i c v H' hk
        exact effs hk hst.1 hst.2 (heff hargs hk hst.1)
      · exact hst.elim
    · unfold kk at hst
      split at hst
      · rename_i c v hk
        exact vals hst.1 hst.2 (hval hargs hk hst.1)
      · exact hst.elim
  cases hop : o.op with
  | call cc =>
    rw [hop] at hb
    simp only [cBody] at hb
    obtain ⟨callee, cargs, cts⟩ := cc
    unfold cCall at hb
    dsimp only at hb
    split at hb
    · rename_i f
      split at hb
      · rename_i xs hxs
        cases hb
        refine call (f := f) (caps := []) (capsV := []) hop (by simp [Act.eval]) (.nil _) hxs ?_
        rw [List.append_nil]; exact h
      · cases hb
    · rename_i x _
      split at hb
      · rename_i y hy
        split at hb
        · rename_i xs hxs
          cases hb
          have hx := cOpnd_sound hv hy
          simp only [wpB] at h
          unfold callV at h
          split at h
          · rename_i f caps hf
            rw [hf] at hx
            generalize hval : a.eval x = val at hx
            cases hx with
            | fn us hl hh => exact call (caps := us) (capsV := caps) hop hval ⟨hl.symm, hh⟩ hxs h
          · exact h.elim
        · cases hb
      · cases hb
    · rename_i bb
      split at hb
      · rename_i kk0 ys hcb
        split at hb
        · rename_i xs hxs
          cases hb
          exact plain (fun ha hk hc => builtin_val r hop hcb ha hk hc) (fun ha hk hc => builtin_eff r hop hcb ha hk hc) hxs h
        · cases hb
      · cases hb
    · cases hb
  | _ =>
    have hb' : cOpBody P wr o.op = some b := by rw [hop] at hb ⊢; exact hb
    unfold cOpBody at hb'
    split at hb'
    · rename_i kk0 ys hco
      split at hb'
      · rename_i xs hxs
        cases hb'
        exact plain (fun ha hk hc => op_val r hco ha hk hc) (fun ha hk hc => op_eff r hco ha hk hc) hxs h
      · cases hb'
    · cases hb'

theorem yielded_bool {ops : Array Oper} {a : Act} {j t : Nat} (hj : (ops[j]?).bind (·.dst) = some t) {q : Bool} (ht : t < a.tmps.size) (hq : a.tmps.getD t undef = .bool q) : yielded ops a.tmps j = some q := by
  unfold yielded
  rw [hj]
  simp only [Option.bind_some]
  rw [Array.getD_eq_getD_getElem?, Array.getElem?_eq_getElem ht] at hq
  rw [Array.getElem?_eq_getElem ht]
  simp only [Option.getD_some] at hq
  rw [hq]

theorem wpR_sound {Cl : Known} (hCl : ∀ f args H k, Cl f args H k → SCall P f args H k) {wr : Bool} {nt : Nat} {ops : Array Oper} {H0 : Heap} {μ0 : Nat → Loc} {S0 : Nat → Prop} {W0 : World} {K : St → Prop} {Q : Exit → Act → World → Prop}
    (hK : ∀ s a W, K s → Good nt H0 μ0 S0 W0 s a W → Q .normal a W) : ∀ (os : List Oper) (n : Nat) (is : List Ins) (s : St) (a : Act) (W : World), ops.toList.drop n = os → cInss P wr nt ops os = some is → wpR Cl is K s → Good nt H0 μ0 S0 W0 s a W →
    wpOps P ops Q ((List.range ops.size).drop n) a W := by
  intro os
  induction os with
  | nil =>
    intro n is s a W hd hc h hg
    simp only [cInss, Option.some.injEq] at hc
    subst hc
    have : ops.size ≤ n := by
      have := congrArg List.length hd
      simp at this; omega
    rw [List.drop_of_length_le (by simpa using this)]
    exact hK s a W h hg
  | cons o os ih =>
    intro n is s a W hd hc h hg
    have hn : n < ops.size := by
      have := congrArg List.length hd
      simp at this; omega
    have hon : ops[n]? = some o := by
      rw [← Array.getElem?_toList]
      have : (ops.toList.drop n)[0]? = some o := by rw [hd]; rfl
      simpa using this
    have hdrop : (List.range ops.size).drop n = n :: (List.range ops.size).drop (n + 1) := by
      rw [List.drop_eq_getElem_cons (by simpa using hn)]; simp
    have hd' : ops.toList.drop (n + 1) = os := by
      have : ops.toList.drop (n + 1) = (ops.toList.drop n).drop 1 := by rw [List.drop_drop]
      rw [this, hd]; rfl
    simp only [cInss] at hc
    split at hc
    · rename_i i hi
      split at hc
      · rename_i is' his
        cases hc
        rw [hdrop]
        simp only [wpOps, hon]
        unfold cIns at hi
        split at hi
        · rename_i g b hgd hbd
          split at hi
          · rename_i hdst
            simp only [Option.some.injEq] at hi
            subst hi
            cases hgo : o.guard with
            | none =>
              rw [hgo] at hgd
              simp only [cGuard, Option.some.injEq] at hgd
              subst hgd
              simp only [wpR] at h
              rw [if_pos (by simp [Region.wanted, hgo])]
              refine .inl (wpB_sound hCl hbd hdst hg h fun v H' a' W' hk hg' => ih (n + 1) is' _ a' W' hd' his hk hg')
            | some jw =>
              obtain ⟨j, want⟩ := jw
              rw [hgo] at hgd
              simp only [cGuard] at hgd
              split at hgd
              · rename_i t ht
                simp only [Option.some.injEq] at hgd
                subst hgd
                simp only [wpR] at h
                unfold guardV at h
                split at h
                · rename_i q hq
                  obtain ⟨μ, S, r, hdd, hnn, hv, l⟩ := hg
                  have hvt := hv t
                  rw [hq] at hvt
                  have hbool := hvt.bool_inv
                  have htl : t < a.tmps.size := by
                    rcases Nat.lt_or_ge t a.tmps.size with h | h
                    · exact h
                    · rw [Array.getD_eq_getD_getElem?, Array.getElem?_eq_none h] at hbool
                      cases hbool
                  have hy := yielded_bool ht htl hbool
                  by_cases hqw : q = want
                  · rw [if_pos (by simp [Region.wanted, hgo, hy, hqw])]
                    exact .inl (wpB_sound hCl hbd hdst ⟨μ, S, r, hdd, hnn, hv, l⟩ (h.1 hqw) fun v H' a' W' hk hg' => ih (n + 1) is' _ a' W' hd' his hk hg')
                  · rw [if_neg (by simp [Region.wanted, hgo, hy, hqw])]
                    exact ih (n + 1) is' _ _ W hd' his (h.2 hqw) (good_put (d := o.dst) r hdd hnn hv l r (.undef _) (.refl _ _ _ _) hdst)
                · exact h.elim
              · cases hgd
          · cases hi
        · cases hi
      · cases hc
    · cases hc

end
end Go.Abs
