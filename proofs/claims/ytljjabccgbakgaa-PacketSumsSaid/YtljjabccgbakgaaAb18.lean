/- Calls of functions whose contracts speak of data alone. By the session itself. -/
import Derived.Test.YtljjabccgbakgaaAb17
namespace Go.Abs
open Go
set_option linter.unusedSimpArgs false
set_option linter.unusedVariables false

/-- The result is data. -/
def RTree (x : T) (r : V) (H : Heap) : Prop := r = .t x ∧ H = []
/-- The results are data. -/
def RTup (xs : List T) (r : V) (H : Heap) : Prop := r = .tup (xs.map .t) ∧ H = []
/-- The result is new memory. -/
def RRow (sz : Nat) (xs : List T) (r : V) (H : Heap) : Prop := ∃ g, r = .sl 0 0 xs.length g sz ∧ H = [.row sz g xs]

section
variable {P : Program} {f : FuncId} {args : List V} {H : Heap} {k : V → Heap → Prop}

theorem flatL_t {xs : List T} (h : xs.all T.flat = true) : V.flatL (xs.map .t) = true := by
  rw [flatL_eq, List.all_map]; exact h

theorem renL_t (ρ : Nat → Option Nat) : ∀ xs : List T, V.renL ρ (xs.map .t) = xs.map .t
  | [] => rfl
  | x :: xs => by simp [V.renL, V.ren, renL_t ρ xs]

theorem call_tree {x : T} (h : SCall P f (args.map (Abs.view H)) [] (RTree x)) (hx : x.flat = true) (hk : k (.t x) H) : SCall P f args H k := by
  refine (h.lend fun r N hq => ?_).mono ?_
  · obtain ⟨rfl, rfl⟩ := hq; exact ⟨hx, rfl⟩
  · rintro r H' ⟨r0, N, ⟨rfl, rfl⟩, rfl, rfl⟩
    simpa [V.ren] using hk

theorem call_tup {xs : List T} (h : SCall P f (args.map (Abs.view H)) [] (RTup xs)) (hx : xs.all T.flat = true) (hk : k (.tup (xs.map .t)) H) : SCall P f args H k := by
  refine (h.lend fun r N hq => ?_).mono ?_
  · obtain ⟨rfl, rfl⟩ := hq; exact ⟨flatL_t hx, rfl⟩
  · rintro r H' ⟨r0, N, ⟨rfl, rfl⟩, rfl, rfl⟩
    simpa [V.ren, renL_t] using hk

theorem call_row {sz : Nat} {xs : List T} (h : SCall P f (args.map (Abs.view H)) [] (RRow sz xs)) (hx : xs.all T.flat = true) (hk : ∀ g, k (.sl H.length 0 xs.length g sz) (H ++ [.row sz g xs])) : SCall P f args H k := by
  refine (h.lend fun r N hq => ?_).mono ?_
  · obtain ⟨g, rfl, rfl⟩ := hq; exact ⟨rfl, by simpa [Obj.flatO] using hx⟩
  · rintro r H' ⟨r0, N, ⟨g, rfl, rfl⟩, rfl, rfl⟩
    have := hk g
    simpa [V.ren, tau, Obj.ren] using this

section
variable {K : St → Prop} {vs : List (Nat × V)} {r : List Ins} {d : Nat} {xs : List Opnd}

theorem step_call (h : SCall P f (xs.map (ev vs)) H fun v H' => wpR (SCall P) r K ⟨(d, v) :: vs, H'⟩) : wpR (SCall P) (⟨some d, none, .call f xs⟩ :: r) K ⟨vs, H⟩ := h
theorem step_callv {x : Opnd} {caps : List V} (hx : ev vs x = .fn f caps) (h : SCall P f (xs.map (ev vs) ++ caps) H fun v H' => wpR (SCall P) r K ⟨(d, v) :: vs, H'⟩) : wpR (SCall P) (⟨some d, none, .callv x xs⟩ :: r) K ⟨vs, H⟩ := by
  simp only [wpR, wpB, hx, callV]; exact h
theorem step_guard {t : Nat} {w : Bool} {b : Body} {q : Bool} (hv : get vs t = .t (.bool q)) (h1 : q = w → wpR (SCall P) (⟨some d, none, b⟩ :: r) K ⟨vs, H⟩) (h2 : q ≠ w → wpR (SCall P) r K ⟨(d, .undef) :: vs, H⟩) : wpR (SCall P) (⟨some d, some (t, w), b⟩ :: r) K ⟨vs, H⟩ := by
  simp only [wpR, hv, guardV]; exact ⟨h1, h2⟩
/-- An effect of a drawn region that is a call. -/
theorem step_eff {i : Ins} {fl : List Ins} {p : Plan} {s : St} (h : wpR (SCall P) [i] (fun s' => flos fl s' (wpP (SCall P) p K s')) s) : wpP (SCall P) (.eff i fl p) K s := h

theorem step_tree {x : T} (h : SCall P f ((xs.map (ev vs)).map (Abs.view H)) [] (RTree x)) (hx : x.flat = true) (hk : wpR (SCall P) r K ⟨(d, .t x) :: vs, H⟩) : wpR (SCall P) (⟨some d, none, .call f xs⟩ :: r) K ⟨vs, H⟩ := step_call (call_tree h hx hk)
theorem step_tup {ys : List T} (h : SCall P f ((xs.map (ev vs)).map (Abs.view H)) [] (RTup ys)) (hx : ys.all T.flat = true) (hk : wpR (SCall P) r K ⟨(d, .tup (ys.map .t)) :: vs, H⟩) : wpR (SCall P) (⟨some d, none, .call f xs⟩ :: r) K ⟨vs, H⟩ := step_call (call_tup h hx hk)
theorem step_row {sz : Nat} {ys : List T} (h : SCall P f ((xs.map (ev vs)).map (Abs.view H)) [] (RRow sz ys)) (hx : ys.all T.flat = true) (hk : ∀ g, wpR (SCall P) r K ⟨(d, .sl H.length 0 ys.length g sz) :: vs, H ++ [.row sz g ys]⟩) : wpR (SCall P) (⟨some d, none, .call f xs⟩ :: r) K ⟨vs, H⟩ := step_call (call_row h hx hk)
end

/-- A call that needs nothing of the heap. -/
theorem call_any {Q : V → Heap → Prop} (h : SCall P f (args.map (Abs.view H)) [] Q) (hf : ∀ r N, Q r N → r.flatV = true ∧ N.all Obj.flatO = true) (hk : ∀ r N, Q r N → k (r.ren (tau [] H.length)) (H ++ N.map (Obj.ren (tau [] H.length)))) : SCall P f args H k :=
  (h.lend hf).mono fun r H' ⟨r0, N, hq, e1, e2⟩ => by subst e1 e2; exact hk r0 N hq

theorem SCall.argOf {Q : V → Heap → Prop} (i : Nat) {v v' : V} (hget : args[i]? = some v) (hv : ∀ μ S W u, RV μ S H W v u → RV μ S H W v' u) (h : SCall P f (args.set i v') H Q) : SCall P f args H Q := by
  refine ⟨h.1, fun μ S W vals r ha => h.2 μ S W vals r ⟨by simp [ha.1], fun j c u hc hu => ?_⟩⟩
  rw [List.getElem?_set] at hc
  split at hc
  · rename_i hij
    subst hij
    split at hc
    · cases hc
      exact hv μ S W u (ha.2 i v u hget hu)
    · cases hc
  · exact ha.2 j c u hc hu

/-- An empty list has elements of any size. -/
theorem nil_at {Q : V → Heap → Prop} (i : Nat) {s : Nat} (s' : Nat) {t : Bool} (hget : args[i]? = some (.t (.lst s t []))) (h : SCall P f (args.set i (.t (.lst s' t []))) H Q) : SCall P f args H Q := by
  refine SCall.argOf i hget (fun μ S W u hu => ?_) h
  cases hu with
  | t hu =>
    cases hu with
    | lst a cap us hsz hcap ht hn hl hS hc hr =>
      exact .t (.lst a cap us (fun x hx => by cases hx) hcap ht hn (by simpa [Abs.flat] using hl) hS hc (fun i c u hc => by simp [Abs.flat] at hc))

end
end Go.Abs
