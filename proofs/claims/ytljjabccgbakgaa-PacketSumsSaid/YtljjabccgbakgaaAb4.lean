/- The instructions that only read are right: indexes, slices, and all of them together. By the session itself. -/
import Derived.Test.YtljjabccgbakgaaAb3
import Derived.Laws.BytesArg
namespace Go.Abs
open Go
set_option linter.unusedSimpArgs false
set_option linter.unusedVariables false

section
variable {P : Program} {H : Heap} {μ : Nat → Loc} {S : Nat → Prop} {W : World}

theorem run_asIntOf (k : IntKind) (n : Int) : (asIntOf (.int k n)).run P W = .ok (k, n) W := rfl
theorem run_asInt (k : IntKind) (n : Int) : (asInt (.int k n)).run P W = .ok n W := rfl

theorem run_indexAt_slice {t e : TypeId} {n : Nat} (hu : P.underlying t = some (.slice e)) (hn : sizeT P e = some n) (a : Addr) (len cap : Nat) (k : IntKind) (i : Int) (h0 : 0 ≤ i) (h1 : i < len) :
    (Instr.indexAt t (.slice (some a) len cap) (.int k i)).run P W = .ok (.pointer (some (a.add (i.toNat * n)))) W := by
  simp only [Instr.indexAt, Sem.run_bind, run_asIntOf, Result.andThen_ok, run_underlying hu, Sem.run_pure]
  rw [if_pos ⟨h0, h1⟩]
  simp only [Sem.run_bind, run_sizeOf hn, Result.andThen_ok, Sem.run_pure]

theorem run_indexAt_array {t e : TypeId} {n len : Nat} (hu : P.underlying t = some (.array len e)) (hn : sizeT P e = some n) (a : Addr) (k : IntKind) (i : Int) (h0 : 0 ≤ i) (h1 : i < len) :
    (Instr.indexAt t (.pointer (some a)) (.int k i)).run P W = .ok (.pointer (some (a.add (i.toNat * n)))) W := by
  simp only [Instr.indexAt, Sem.run_bind, run_asIntOf, Result.andThen_ok, run_underlying hu, Sem.run_pure, Instr.sureAddr]
  rw [if_pos ⟨h0, h1⟩]
  simp only [Sem.run_bind, run_sizeOf hn, Result.andThen_ok, Sem.run_pure]

theorem sound_idxS {t e : TypeId} {n : Nat} (hn0 : n ≠ 0) (hu : P.underlying t = some (.slice e)) (hn : sizeT P e = some n) {x y : V} {u v : Value} (hx : RV μ S H W x u) (hy : RV μ S H W y v)
    {c : Prop} {r : V} (hk : kidxS n H x y = some (c, r)) (hc : c) : ∃ q, (Instr.indexAt t u v).run P W = .ok q W ∧ RV μ S H W r q := by
  unfold kidxS at hk
  split at hk
  · obtain rfl := hy.int_inv
    cases hk
    obtain ⟨rfl, h0, h1⟩ := hc
    have hx' := hx.t_inv
    cases hx' with
    | lst a cap us hsz hcap ht hnone hl hS hcell hr =>
      cases a with
      | none => have := (hnone rfl).1; subst this; simp at h1; omega
      | some a =>
        rename_i k i
        refine ⟨_, run_indexAt_slice hu hn a _ _ k i h0 h1, elem_ip (.lst (some a) cap us hsz hcap ht hnone hl hS hcell hr) hn0 (by omega)⟩
  · obtain rfl := hy.int_inv
    split at hk
    · rename_i k i _ sz' g xs hrow
      split at hk
      · rename_i hg
        obtain ⟨hg, rfl, rfl⟩ := hg
        cases hk
        cases hx with
        | sl a cap sz2 g2 xs2 hr2 hg2 hcap2 hn2 h2 =>
          rw [hrow] at hr2
          cases hr2
          obtain ⟨_, hlen, ha⟩ := h2 hg
          have hc0 : cap ≠ 0 := by omega
          obtain ⟨rfl, _⟩ := ha hc0
          refine ⟨_, run_indexAt_slice hu hn _ _ _ k i hc.1 hc.2, .elt _ _ _ _ hrow (by omega) fun _ => ⟨by omega, ?_⟩⟩
          rw [add_eq rfl]; simp only [Nat.add_zero, Nat.add_mul, Nat.add_assoc]
      · cases hk
    · cases hk
  · obtain rfl := hy.int_inv
    cases hk
    obtain ⟨rfl, h0, h1⟩ := hc
    cases hx with
    | bsl a cap cs hb hcap hl ha =>
      rename_i k i
      have hc0 : cap ≠ 0 := by omega
      obtain rfl := ha hc0
      refine ⟨_, run_indexAt_slice hu hn _ _ _ k i h0 h1, ?_⟩
      rw [add_eq rfl, Nat.mul_one]; exact .ref cs hb
  · cases hk

theorem sound_idxA {t e : TypeId} {n len : Nat} (hu : P.underlying t = some (.array len e)) (hn : sizeT P e = some n) {x y : V} {u v : Value} (hx : RV μ S H W x u) (hy : RV μ S H W y v)
    {c : Prop} {r : V} (hk : kidxA len n x y = some (c, r)) (hc : c) : ∃ q, (Instr.indexAt t u v).run P W = .ok q W ∧ RV μ S H W r q := by
  unfold kidxA at hk
  split at hk
  · obtain rfl := hy.int_inv
    cases hk
    cases hx with
    | ref cs hb =>
      refine ⟨_, run_indexAt_array hu hn _ _ _ hc.1 hc.2, ?_⟩
      rw [add_eq rfl]; exact .ref cs hb
  · obtain rfl := hy.int_inv
    cases hk
    cases hx with
    | elt a sz g xs hr hg h =>
      refine ⟨_, run_indexAt_array hu hn _ _ _ hc.1 hc.2, .elt _ sz g xs hr hg fun e => ?_⟩
      obtain ⟨h1, h2⟩ := h e
      refine ⟨h1, ?_⟩
      rw [h2, add_eq rfl]; simp only [Nat.add_assoc]
  · obtain rfl := hy.int_inv
    cases hk
    cases hx with
    | ip a us hl hsp hS hcell hr =>
      rename_i i
      refine ⟨_, run_indexAt_array hu hn _ _ _ hc.1 hc.2, .ip _ (us.drop (i.toNat * n)) (by simp [hl]) (by rw [add_eq hsp]) (fun h => by rw [add_eq hsp]; exact hS (by simp at h; omega)) (fun j w hj => ?_) (fun j c w hi hw => ?_)⟩
      · rw [List.getElem?_drop] at hj
        have := hcell _ w hj
        rw [add_eq hsp] at this
        rw [add_eq hsp, add_eq rfl]
        simpa [Nat.add_assoc] using this
      · rw [List.getElem?_drop] at hi hw
        exact hr _ c w hi hw
  · cases hk

theorem sound_idxStr {t : TypeId} (hu : P.underlying t = some .string) {x y : V} {u v : Value} (hx : RV μ S H W x u) (hy : RV μ S H W y v)
    {c : Prop} {r : V} (hk : kidxStr x y = some (c, r)) (hc : c) : ∃ q, (Instr.index t u v).run P W = .ok q W ∧ RV μ S H W r q := by
  unfold kidxStr at hk
  split at hk
  · obtain rfl := hx.str_inv
    obtain rfl := hy.int_inv
    cases hk
    rename_i s k i
    refine ⟨_, ?_, .mkInt _ _⟩
    have hi : i.toNat < s.size := by omega
    simp only [Instr.index, Sem.run_bind, run_asIntOf, Result.andThen_ok, run_underlying hu]
    rw [if_pos hc.1, getElem?_pos s i.toNat hi]
    simp only [Sem.run_pure, bt]
    congr 3
    have hi' : i.toNat < s.data.toList.length := hi
    rw [List.getD_eq_getElem?_getD, List.getElem?_eq_getElem hi']
    rfl
  · cases hk

theorem bounds_none {len : Nat} {lo : Bool} {xs : List V} {c : Prop} {l h : Nat} (hk : bounds len lo false xs = some (c, l, h)) : h = len := by
  unfold bounds at hk
  split at hk <;> first | contradiction | (cases hk; rfl) | (cases hk; done)

/-- What the bounds of a slice expression come to. -/
theorem sound_bounds (isSlice : Bool) {len cap : Nat} (hcap : len ≤ cap) {lo hi : Option Value} {xs : List V} {c : Prop} {l h : Nat}
    (ha : All2 (RV μ S H W) xs (lo.toList ++ hi.toList)) (hk : bounds len lo.isSome hi.isSome xs = some (c, l, h)) (hc : c) :
    (Instr.sliceBounds isSlice len cap lo hi none).run P W = .ok (l, h, cap) W ∧ l ≤ h ∧ h ≤ len := by
  have hb : ∀ (k : IntKind) (i : Int) (y : Nat) (code : BoundsCode), 0 ≤ i → i ≤ y → (Instr.sliceBound (.int k i) y code).run P W = .ok i.toNat W := by
    intro k i y code h0 h1
    simp only [Instr.sliceBound, Sem.run_bind, run_asIntOf, Result.andThen_ok]
    rw [if_pos ⟨h0, h1⟩]; rfl
  cases lo with
  | none =>
    cases hi with
    | none =>
      obtain rfl := All2.nil_inv ha
      simp only [bounds, Option.isSome_none] at hk
      cases hk
      exact ⟨rfl, by omega, by omega⟩
    | some hv =>
      obtain ⟨x, rfl, hx⟩ := All2.one_inv ha
      simp only [Option.isSome_none, Option.isSome_some] at hk
      obtain ⟨k, n, rfl⟩ : ∃ k n, x = V.t (.int k n) := by
        cases x with
        | t y => cases y with
          | int k n => exact ⟨k, n, rfl⟩
          | _ => simp [bounds] at hk
        | _ => simp [bounds] at hk
      obtain rfl := hx.int_inv
      simp only [bounds, Option.some.injEq, Prod.mk.injEq] at hk
      obtain ⟨rfl, rfl, rfl⟩ := hk
      refine ⟨?_, by omega, by omega⟩
      simp only [Instr.sliceBounds, Sem.run_bind, Sem.run_pure, Result.andThen_ok, hb k n cap _ hc.1 (by omega)]
  | some lv =>
    cases hi with
    | none =>
      obtain ⟨x, rfl, hx⟩ := All2.one_inv ha
      simp only [Option.isSome_none, Option.isSome_some] at hk
      obtain ⟨k, n, rfl⟩ : ∃ k n, x = V.t (.int k n) := by
        cases x with
        | t y => cases y with
          | int k n => exact ⟨k, n, rfl⟩
          | _ => simp [bounds] at hk
        | _ => simp [bounds] at hk
      obtain rfl := hx.int_inv
      simp only [bounds, Option.some.injEq, Prod.mk.injEq] at hk
      obtain ⟨rfl, rfl, rfl⟩ := hk
      refine ⟨?_, by omega, by omega⟩
      simp only [Instr.sliceBounds, Sem.run_bind, Sem.run_pure, Result.andThen_ok, hb k n len _ hc.1 hc.2]
    | some hv =>
      obtain ⟨x, xs', rfl, hx, h'⟩ := All2.cons_inv ha
      obtain ⟨y, rfl, hy⟩ := All2.one_inv h'
      simp only [Option.isSome_some] at hk
      obtain ⟨k, n, rfl⟩ : ∃ k n, x = V.t (.int k n) := by
        cases x with
        | t y => cases y with
          | int k n => exact ⟨k, n, rfl⟩
          | _ => simp [bounds] at hk
        | _ => simp [bounds] at hk
      obtain ⟨k', n', rfl⟩ : ∃ k n, y = V.t (.int k n) := by
        cases y with
        | t y => cases y with
          | int k n => exact ⟨k, n, rfl⟩
          | _ => simp [bounds] at hk
        | _ => simp [bounds] at hk
      obtain rfl := hx.int_inv
      obtain rfl := hy.int_inv
      simp only [bounds, Option.some.injEq, Prod.mk.injEq] at hk
      obtain ⟨rfl, rfl, rfl⟩ := hk
      refine ⟨?_, by omega, by omega⟩
      simp only [Instr.sliceBounds, Sem.run_bind, Sem.run_pure, Result.andThen_ok, hb k' n' cap _ (by omega) (by omega), hb k n n'.toNat _ hc.1 (by omega)]

theorem sound_slice {t e : TypeId} {n : Nat} (hu : P.underlying t = some (.slice e)) (hn : sizeT P e = some n) {x : V} {u : Value} (hx : RV μ S H W x u) {lo hi : Option Value} {xs : List V}
    (ha : All2 (RV μ S H W) xs (lo.toList ++ hi.toList)) {c : Prop} {r : V} (hk : kslice n lo.isSome hi.isSome x xs = some (c, r)) (hc : c) : ∃ q, (Instr.sliceAt t u lo hi none).run P W = .ok q W ∧ RV μ S H W r q := by
  have key : ∀ (a : Option Addr) (len cap l h : Nat), (Instr.sliceBounds true len cap lo hi none).run P W = .ok (l, h, cap) W →
      (Instr.sliceAt t (.slice a len cap) lo hi none).run P W = .ok (.slice (if cap = l then a else a.map (·.add (l * n))) (h - l) (cap - l)) W := by
    intro a len cap l h hb
    simp only [Instr.sliceAt, Sem.run_bind, run_underlying hu, Result.andThen_ok, Instr.slice, hb, run_sizeOf hn, Sem.run_pure]
  cases x with
  | t y =>
    cases y with
    | lst sz tight ys =>
      simp only [kslice] at hk
      split at hk
      · rename_i c' l h hb
        cases hk
        obtain ⟨hszn, hc⟩ := hc
        have hx' := hx.t_inv
        cases hx' with
        | lst a cap us hsz hcap ht hnone hl hS hcell hr =>
          obtain ⟨h1, h2, h3⟩ := sound_bounds (P := P) (W := W) true hcap ha hb hc
          refine ⟨_, key a _ cap l h h1, .t ?_⟩
          have hlen : ((ys.take h).drop l).length = h - l := by simp; omega
          rw [← hlen]
          have hfl := flat_length hsz
          have hl' : l * sz ≤ ys.length * sz := Nat.mul_le_mul_right sz (by omega)
          refine .lst _ _ ((us.take (h * sz)).drop (l * sz)) ((hsz.take h).drop l) (by omega) (fun e => ?_) (fun e => ?_) ?_ (fun a' e h0 => ?_) (fun a' e i w hi => ?_) (fun i c w hi hw => ?_)
          · simp only [Bool.and_eq_true, Bool.not_eq_true'] at e
            have := ht e.1
            have hh : h = ys.length := by
              cases hi with
              | none => exact bounds_none hb
              | some v => simp at e
            omega
          · have hnil : a = none := by
              cases a with
              | none => rfl
              | some a => split at e <;> simp at e
            obtain ⟨rfl, rfl⟩ := hnone hnil
            simp
          · rw [flat_drop l (hsz.take h), flat_take h hsz]; simp [hl]
          · have h0' : 0 < us.length := by simp at h0; omega
            cases a with
            | none => split at e <;> simp at e
            | some a0 =>
              have hb0 := hS a0 rfl h0'
              split at e
              · cases e; exact hb0
              · simp only [Option.map_some, Option.some.injEq] at e
                rw [← e, Addr.add_block]; exact hb0
          · rw [List.getElem?_drop, List.getElem?_take] at hi
            split at hi
            · cases a with
              | none => split at e <;> simp at e
              | some a0 =>
                have hw := hcell a0 rfl _ w hi
                have hsp : a0.spot = none := by
                  by_cases hz : l * sz + i = 0
                  · rw [hz, add_zero_addr] at hw
                    unfold World.cell? at hw
                    split at hw
                    · split at hw
                      · cases hw
                      · rename_i h; simpa using h
                    · cases hw
                  · have h0 : 0 < us.length := by
                      obtain ⟨h, _⟩ := List.getElem?_eq_some_iff.1 hi; omega
                    have hw0 := hcell a0 rfl 0 us[0] (by simp)
                    rw [add_zero_addr] at hw0
                    unfold World.cell? at hw0
                    split at hw0
                    · split at hw0
                      · cases hw0
                      · rename_i h; simpa using h
                    · cases hw0
                split at e
                · rename_i hcl
                  cases e
                  have : l = ys.length ∧ h = ys.length := by omega
                  obtain ⟨rfl, rfl⟩ := this
                  obtain ⟨h5, _⟩ := List.getElem?_eq_some_iff.1 hi
                  omega
                · simp only [Option.map_some, Option.some.injEq] at e
                  rw [← e]
                  have hszn' : sz = n := by
                    rcases hszn with h | h
                    · exact h
                    · subst h; have : us.length = 0 := by simp [hl, flat]
                      obtain ⟨h5, _⟩ := List.getElem?_eq_some_iff.1 hi; omega
                  rw [add_eq hsp, hszn'] at hw
                  rw [add_eq hsp, add_eq rfl]
                  simpa [Nat.add_assoc] using hw
            · cases hi
          · rw [flat_drop l (hsz.take h), flat_take h hsz] at hi
            rw [List.getElem?_drop, List.getElem?_take] at hi hw
            split at hi
            · rw [if_pos (by assumption)] at hw
              exact hr _ c w hi hw
            · cases hi
      · cases hk
    | _ => simp only [kslice, reduceCtorEq] at hk
  | sl id off len gen sz =>
    simp only [kslice] at hk
    split at hk
    · rename_i c' l h hb
      cases hk
      obtain ⟨hszn, hc⟩ := hc
      cases hx with
      | sl a cap sz2 g2 xs2 hr2 hg2 hcap2 hn2 h2 =>
        obtain ⟨h1, h3, h4⟩ := sound_bounds (P := P) (W := W) true hcap2 ha hb hc
        refine ⟨_, key a _ cap l h h1, .sl _ _ _ _ _ hr2 hg2 (by omega) (fun e => ?_) fun e => ?_⟩
        · cases a with
          | none => have := hn2 rfl; omega
          | some a => split at e <;> simp at e
        · obtain ⟨k1, k2, k3⟩ := h2 e
          refine ⟨k1, by omega, fun hne => ?_⟩
          obtain ⟨k4, k5⟩ := k3 (by omega)
          refine ⟨?_, by omega⟩
          rw [if_neg (by omega), k4, Option.map_some, add_eq rfl, hszn]
          simp only [Nat.add_mul, Nat.add_assoc]
    · cases hk
  | _ => simp only [kslice, reduceCtorEq] at hk

theorem sound_sliceStr {t : TypeId} (hu : P.underlying t = some .string) {x : V} {u : Value} (hx : RV μ S H W x u) {lo hi : Option Value} {xs : List V}
    (ha : All2 (RV μ S H W) xs (lo.toList ++ hi.toList)) {c : Prop} {r : V} (hk : ksliceStr lo.isSome hi.isSome x xs = some (c, r)) (hc : c) : ∃ q, (Instr.sliceAt t u lo hi none).run P W = .ok q W ∧ RV μ S H W r q := by
  cases x with
  | t y =>
    cases y with
    | str s =>
      obtain rfl := hx.str_inv
      simp only [ksliceStr] at hk
      split at hk
      · rename_i c' l h hb
        cases hk
        obtain ⟨h1, _, _⟩ := sound_bounds (P := P) (W := W) false (Nat.le_refl _) ha hb hc
        refine ⟨_, ?_, .mkStr _⟩
        simp only [Instr.sliceAt, Sem.run_bind, run_underlying hu, Result.andThen_ok, Instr.slice, h1, Sem.run_pure, Option.isSome_none, Bool.false_eq_true, if_false]
      · cases hk
    | _ => simp only [ksliceStr, reduceCtorEq] at hk
  | _ => simp only [ksliceStr, reduceCtorEq] at hk

theorem sound_sliceA {t e : TypeId} {n : Nat} (hu : P.underlying t = some (.array n e)) (hn : sizeT P e = some 1) {x : V} {u : Value} (r0 : Rel H μ S W) (hx : RV μ S H W x u) {lo hi : Option Value} {xs : List V}
    (ha : All2 (RV μ S H W) xs (lo.toList ++ hi.toList)) {c : Prop} {r : V} (hk : ksliceA H n lo.isSome hi.isSome x xs = some (c, r)) (hc : c) : ∃ q, (Instr.sliceAt t u lo hi none).run P W = .ok q W ∧ RV μ S H W r q := by
  cases x with
  | ref id o =>
    simp only [ksliceA] at hk
    split at hk
    · rename_i cs hb
      split at hk
      · rename_i c' l h hbd
        cases hk
        obtain ⟨hlen, hc⟩ := hc
        cases hx with
        | ref cs' hb' =>
          obtain ⟨h1, h2, h3⟩ := sound_bounds (P := P) (W := W) false (Nat.le_refl n) ha hbd hc
          refine ⟨.slice (some (if n = l then ⟨(μ id).blk, o, none⟩ else Addr.add ⟨(μ id).blk, o, none⟩ (l * 1))) (h - l) (n - l), ?_, .bsl _ _ cs hb (by omega) (by omega) fun hne => ?_⟩
          · simp only [Instr.sliceAt, Sem.run_bind, run_underlying hu, Result.andThen_ok, Instr.sureAddr, h1, run_sizeOf hn, Sem.run_pure]
          · rw [if_neg (by omega), add_eq rfl, Nat.mul_one]
      · cases hk
    · cases hk
  | _ => simp only [ksliceA, reduceCtorEq] at hk

theorem sound_extract {i : Nat} {vs : List V} {u : Value} (hx : RV μ S H W (.tup vs) u) (hi : i < vs.length) : ∃ q, (Instr.extract u i).run P W = .ok q W ∧ RV μ S H W (vs.getD i .undef) q := by
  cases hx with
  | tup us hl h =>
    obtain ⟨w, hw, hr⟩ := All2.get ⟨hl.symm, h⟩ (getD_some .undef hi)
    refine ⟨w, ?_, hr⟩
    simp only [Instr.extract, List.getElem?_toArray, hw, Sem.run_pure]

theorem onlyT_map : ∀ {vs : List V} {xs : List T}, onlyT vs = some xs → vs = xs.map .t
  | [], xs, h => by simp only [onlyT, Option.some.injEq] at h; subst h; rfl
  | v :: vs, xs, h => by
    cases v with
    | t x =>
      simp only [onlyT] at h
      split at h
      · rename_i ys hy
        cases h
        rw [onlyT_map hy]; rfl
      · cases h
    | _ => simp only [onlyT, reduceCtorEq] at h

theorem map_t_inj {xs ys : List T} (h : xs.map V.t = ys.map V.t) : xs = ys := by
  induction xs generalizing ys with
  | nil => cases ys <;> simp_all
  | cons x xs ih => cases ys with
    | nil => simp at h
    | cons y ys =>
      simp only [List.map_cons, List.cons.injEq, V.t.injEq] at h
      rw [h.1, ih h.2]

/-- A slice that is only read: where it lies and what its cells are; m: so many cells has an element. -/
theorem elems_cells (r : Rel H μ S W) {x : V} {u : Value} (hx : RV μ S H W x u) {xs : List T} {m : Nat} (hk : elems H m x = some xs) :
    ∃ a cap, ∃ us : List Value, u = .slice a xs.length cap ∧ (a = none → xs = []) ∧ Sized m xs ∧ All2 (RT S W) (flat xs) us ∧ ∀ a', a = some a' → ∀ (i : Nat) w, us[i]? = some w → W.cell? (a'.add i) = some w := by
  cases x with
  | t y =>
    cases y with
    | lst sz tight ys =>
      simp only [elems] at hk
      split at hk
      · rename_i hsz
        cases hk
        have hx' := hx.t_inv
        cases hx' with
        | lst a cap us hsz2 hcap ht hnone hl hS hcell hr =>
          refine ⟨a, cap, us, rfl, fun e => (hnone e).1, ?_, ⟨hl.symm, hr⟩, hcell⟩
          rcases hsz with h | h
          · exact h ▸ hsz2
          · subst h; exact .nil _
      · cases hk
    | _ => simp only [elems, reduceCtorEq] at hk
  | sl id off len gen sz =>
    simp only [elems] at hk
    split at hk
    · rename_i sz' g ys hrow
      split at hk
      · rename_i hg
        obtain ⟨hg, rfl⟩ := hg
        cases hk
        cases hx with
        | sl a cap sz2 g2 xs2 hr2 hg2 hcap2 hn2 h2 =>
          rw [hrow] at hr2
          cases hr2
          obtain ⟨hsz0, hlen, ha⟩ := h2 hg
          obtain ⟨hsized, hcapr, hblk⟩ := r.row hrow
          have hl : ((ys.drop off).take len).length = len := by simp; omega
          have hfl := flat_length hsized
          by_cases hc0 : cap = 0
          · have : len = 0 := by omega
            subst this
            exact ⟨a, cap, [], by rw [hl], fun _ => by simp, by simp; exact .nil _, ⟨by simp [flat], by simp⟩, by simp⟩
          · obtain ⟨rfl, hcc⟩ := ha hc0
            have hcr : (μ id).cap ≠ 0 := by omega
            obtain ⟨us, ty, fz, hw, _, hul, hrt⟩ := hblk hcr
            have hm1 : len * sz' + off * sz' ≤ ys.length * sz' := by rw [← Nat.add_mul]; exact Nat.mul_le_mul_right _ (by omega)
            have hm2 : ys.length * sz' ≤ (μ id).cap * sz' := Nat.mul_le_mul_right _ hcapr
            refine ⟨_, cap, (us.drop ((μ id).off + off * sz')).take (len * sz'), by rw [hl], fun e => by simp at e, (hsized.drop off).take len, ⟨?_, ?_⟩, ?_⟩
            · rw [flat_take len (hsized.drop off), flat_drop off hsized]
              simp only [List.length_take, List.length_drop]; omega
            · intro i c w hi hw'
              rw [flat_take len (hsized.drop off), flat_drop off hsized] at hi
              rw [List.getElem?_take] at hi hw'
              split at hi
              · rw [if_pos (by assumption)] at hw'
                rw [List.getElem?_drop] at hi hw'
                exact hrt _ c w hi (by rw [← Nat.add_assoc]; exact hw')
              · cases hi
            · intro a' e i w hi
              cases e
              rw [List.getElem?_take] at hi
              split at hi
              · rw [List.getElem?_drop] at hi
                rw [← hsz0, add_eq rfl, cell_at hw]; exact hi
              · cases hi
      · cases hk
    · cases hk
  | bsl id off len =>
    simp only [elems] at hk
    split at hk
    · rename_i cs hb
      split at hk
      · rename_i hm
        split at hk
        · rename_i ys hy
          split at hk
          · rename_i hone
            simp only [Option.some.injEq] at hk
            subst hk
            have hmap := onlyT_map hy
            cases hx with
            | bsl a cap cs' hb' hcap hl ha =>
              rw [hb] at hb'; cases hb'
              obtain ⟨_, us, ty, hw, hul, hr⟩ := r.objs id _ hb
              have hlen : ys.length = len := by
                have := congrArg List.length hmap
                simp at this; omega
              have hflat : flat ys = ys := by
                have : ∀ zs : List T, (∀ z ∈ zs, z.cells = [z]) → flat zs = zs := by
                  intro zs
                  induction zs with
                  | nil => intro _; rfl
                  | cons z zs ih => intro h; rw [flat_cons, h z (List.mem_cons_self ..), ih fun y hy => h y (List.mem_cons_of_mem _ hy)]; rfl
                refine this ys fun z hz => ?_
                have := List.all_eq_true.1 hone z hz
                cases z <;> first | rfl | cases this
              refine ⟨some a, cap, (us.drop off).take len, by rw [hlen], fun e => by simp at e, ?_, ⟨?_, ?_⟩, ?_⟩
              · intro z hz
                have := List.all_eq_true.1 hone z hz
                rw [hm]
                cases z <;> first | exact ⟨rfl, rfl⟩ | cases this
              · rw [hflat]; simp; omega
              · intro i c w hi hw'
                rw [hflat] at hi
                have hi2 : ((cs.drop off).take len)[i]? = some (.t c) := by rw [hmap, List.getElem?_map, hi]; rfl
                rw [List.getElem?_take] at hi2 hw'
                split at hi2
                · rw [if_pos (by assumption)] at hw'
                  rw [List.getElem?_drop] at hi2 hw'
                  exact (hr _ _ w hi2 hw').t_inv
                · cases hi2
              · intro a' e i w hi
                cases e
                rw [List.getElem?_take] at hi
                split at hi
                · rw [List.getElem?_drop] at hi
                  rw [ha (by omega), add_eq rfl, cell_at hw]; exact hi
                · cases hi
          · cases hk
        · cases hk
      · cases hk
    · cases hk
  | _ => simp only [elems, reduceCtorEq] at hk

def numsOf : List T → List Int
  | [] => []
  | .int _ n :: r => n :: numsOf r
  | _ :: r => 0 :: numsOf r

theorem bytesOf_nums : ∀ xs : List T, bytesOf xs = (numsOf xs).map fun n => UInt8.ofNat n.toNat
  | [] => rfl
  | x :: xs => by
    cases x <;> simp only [bytesOf, numsOf, List.map_cons, bytesOf_nums xs] <;> rfl

theorem isByte_cells : ∀ {xs : List T}, xs.all isByte = true → Sized 1 xs ∧ flat xs = xs
  | [], _ => ⟨.nil _, rfl⟩
  | x :: xs, h => by
    simp only [List.all_cons, Bool.and_eq_true] at h
    obtain ⟨h1, h2⟩ := isByte_cells h.2
    cases x with
    | int k n => exact ⟨fun y hy => by rcases List.mem_cons.1 hy with rfl | hy; exact ⟨rfl, rfl⟩; exact h1 y hy, by rw [flat_cons, h2]; rfl⟩
    | _ => cases h.1

theorem isByte_nums : ∀ {xs : List T} {us : List Value}, xs.all isByte = true → All2 (RT S W) xs us → us = (numsOf xs).map (Value.int .u8)
  | [], us, _, ha => by
    have : us = [] := List.length_eq_zero_iff.1 ha.1.symm
    subst this; rfl
  | x :: xs, us, h, ha => by
    match us, ha with
    | u :: us, ha =>
      simp only [List.all_cons, Bool.and_eq_true] at h
      have h0 := ha.2 0 x u rfl rfl
      have ih := isByte_nums (us := us) h.2 ⟨by simpa using ha.1, fun i a b h1 h2 => ha.2 (i + 1) a b (by simpa using h1) (by simpa using h2)⟩
      cases x with
      | int k n =>
        cases h0
        cases k <;> try (cases h.1; done)
        simp only [numsOf, List.map_cons, ih]
      | _ => cases h.1

theorem sound_toStr (r : Rel H μ S W) {s d e : TypeId} (hs : P.underlying s = some (.slice e)) (he : P.underlying e = some (.int .u8)) (hd : P.underlying d = some .string) {x : V} {u : Value}
    (hx : RV μ S H W x u) {c : Prop} {v : V} (hk : ktoStr H x = some (c, v)) (hc : c) : ∃ q, (convert s d u).run P W = .ok q W ∧ RV μ S H W v q := by
  unfold ktoStr at hk
  split at hk
  · rename_i xs hel
    cases hk
    obtain ⟨a, cap, us, rfl, hnone, hsz, hall, hcell⟩ := elems_cells r hx hel
    obtain ⟨h1, h2⟩ := isByte_cells hc
    rw [h2] at hall
    refine ⟨_, ?_, .mkStr _⟩
    cases a with
    | none =>
      have := hnone rfl
      subst this
      rw [run_convert_bytes_nil W s e hs he _ _ d hd]
      rfl
    | some a =>
      have hn := isByte_nums hc hall
      have hl : (loadCells a xs.length).run P W = .ok ((numsOf xs).map (Value.int .u8)).toArray W := by
        have := run_loadCells_list (P := P) W a us (hcell a rfl)
        rw [hn] at this
        have e : ((numsOf xs).map (Value.int .u8)).length = xs.length := by rw [← hn]; exact hall.1.symm
        rw [e] at this; exact this
      rw [run_convert_bytes_string W s d e _ _ _ hs he hd, run_bytesToString W _ _ _ _ hl, foldl_push_bytes, bytesOf_nums]
      simp [ByteArray.empty, ByteArray.emptyWithCapacity]
      rfl
  · cases hk

theorem optToList {o : Option Operand} {ρ : Operand → Value} : (o.map ρ).toList = o.toList.map ρ := by cases o <;> rfl

theorem constTs_sound : ∀ {zs : List Value} {xs : List T}, constTs zs = some xs → All2 (RT S W) xs zs
  | [], xs, h => by simp only [constTs, Option.some.injEq] at h; subst h; exact .nil _
  | z :: zs, xs, h => by
    simp only [constTs] at h
    split at h
    · rename_i x hx
      split at h
      · rename_i ys hy
        cases h
        refine .cons ?_ (constTs_sound hy)
        unfold constT at hx
        split at hx <;> try (cases hx; done)
        · cases hx; exact .bool _
        · cases hx; exact .int _ _
        · cases hx; exact .str _
        · cases hx; exact .nilp
        · cases hx; exact .nilf
        · cases hx; exact .lst none 0 [] (.nil _) (by simp) (by simp) (by simp) (by simp [flat]) (by simp) (by simp) (by simp)
      · cases h
    · cases h

theorem zeroCells_run {t : TypeId} {zs : List T} (h : zeroCells P t = some zs) : ∃ z, (zeroValue t).run P W = .ok z W ∧ All2 (RT S W) zs z.cells.toList := by
  unfold zeroCells at h
  split at h
  · rename_i i hi
    split at h
    · rename_i z hz
      refine ⟨z, ?_, constTs_sound h⟩
      simp only [zeroValue, Sem.run_bind, run_typeInfo hi, Result.andThen_ok, hz, Sem.run_pure]
    · cases h
  · cases h

theorem run_mapM_places {ρ : Operand → Value} : ∀ (l : List (Nat × Operand)), l.map (fun p => (p.1, ρ p.2)) = (l.map (·.1)).zip ((l.map (·.2)).map ρ)
  | [] => rfl
  | p :: l => by simp [run_mapM_places l]

theorem fieldPlaces_get {fs : Array Field} : ∀ {is : List Nat} {ps : List (Nat × Nat)}, fieldPlaces P fs is = some ps → is.length = ps.length ∧
    ∀ (j i : Nat) p, is[j]? = some i → ps[j]? = some p → ∃ f, fs[i]? = some f ∧ sizeT P f.type = some p.2 ∧ f.offset = p.1
  | [], ps, h => by simp only [fieldPlaces, Option.some.injEq] at h; subst h; simp
  | i :: is, ps, h => by
    simp only [fieldPlaces] at h
    split at h
    · rename_i f hf
      split at h
      · rename_i n hn
        split at h
        · rename_i r hr
          cases h
          obtain ⟨h1, h2⟩ := fieldPlaces_get hr
          refine ⟨by simp [h1], fun j i' p hj hp => ?_⟩
          cases j with
          | zero => simp at hj hp; subst hj; subst hp; exact ⟨f, hf, hn, rfl⟩
          | succ j => exact h2 j i' p (by simpa using hj) (by simpa using hp)
        · cases h
      · cases h
    · cases h

theorem run_mapM_sizes (fs : List Field) (h : ∀ f ∈ fs, ∃ n, sizeT P f.type = some n) :
    ∃ l : List (Nat × Nat), (fs.mapM (m := Sem) fun f => do pure (f.offset, ← sizeOf f.type)).run P W = .ok l W ∧ ∀ (i : Nat) f, fs[i]? = some f → ∃ n, sizeT P f.type = some n ∧ l[i]? = some (f.offset, n) := by
  induction fs with
  | nil => exact ⟨[], by simp, by simp⟩
  | cons f fs ih =>
    obtain ⟨l, h1, h2⟩ := ih fun g hg => h g (List.mem_cons_of_mem _ hg)
    obtain ⟨n, hn⟩ := h f (List.mem_cons_self ..)
    refine ⟨(f.offset, n) :: l, ?_, fun i g hg => ?_⟩
    · simp only [List.mapM_cons, Sem.run_bind, run_sizeOf hn, Result.andThen_ok, Sem.run_pure, h1]
    · cases i with
      | zero => simp at hg; subst hg; exact ⟨n, hn, rfl⟩
      | succ i => simpa using h2 i g (by simpa using hg)
end
end Go.Abs
