/- The instructions that write or make memory are right: stores, slices, append. By the session itself. -/
import Derived.Test.YtljjabccgbakgaaAb7
namespace Go.Abs
open Go Go.RowKit
set_option linter.unusedSimpArgs false
set_option linter.unusedVariables false

section
variable {P : Program} {H H' : Heap} {μ μ' : Nat → Loc} {S S' : Nat → Prop} {W W' : World}

theorem rt_one {x : T} {u : Value} (h : RT S W x u) (ho : x.one = true) : u.oneCell' = true := by
  cases h <;> first | rfl | cases ho

theorem all2_one {xs : List T} {us : List Value} (h : All2 (RT S W) xs us) (ho : xs.all T.one = true) : ∀ u ∈ us, u.oneCell' = true := by
  intro u hu
  obtain ⟨i, hi⟩ := List.getElem?_of_mem hu
  have hl : i < xs.length := by rw [h.1]; obtain ⟨h, _⟩ := List.getElem?_eq_some_iff.1 hi; exact h
  exact rt_one (h.2 i xs[i] u (by simp [hl]) hi) (List.all_eq_true.1 ho _ (List.getElem_mem hl))

theorem all2_oneV {xs : List V} {us : List Value} (h : All2 (RV μ S H W) xs us) (ho : xs.all V.one = true) : ∀ u ∈ us, u.oneCell' = true := by
  intro u hu
  obtain ⟨i, hi⟩ := List.getElem?_of_mem hu
  have hl : i < xs.length := by rw [h.1]; obtain ⟨h, _⟩ := List.getElem?_eq_some_iff.1 hi; exact h
  exact one_cell (h.2 i xs[i] u (by simp [hl]) hi) (List.all_eq_true.1 ho _ (List.getElem_mem hl))

theorem run_storeAt {t : TypeId} {n : Nat} (hn : sizeT P t = some n) {a : Addr} {v : Value} (hv : v.cells.size = n) : (Instr.storeAt t (.pointer (some a)) v).run P W = (storeCells a v.cells.toList).run P W := by
  simp only [Instr.storeAt, Instr.sureAddr, Sem.run_bind, Sem.run_pure, Result.andThen_ok, storeVar, run_sizeOf hn]
  rw [if_neg (by omega)]

theorem sized_set {sz : Nat} {xs : List T} (h : Sized sz xs) (i : Nat) {e : T} (he : e.cells.length = sz ∧ e.cells.all T.one = true) : Sized sz (xs.set i e) := by
  intro x hx
  rcases List.mem_or_eq_of_mem_set hx with h1 | h1
  · exact h x h1
  · exact h1 ▸ he

theorem flat_set {sz : Nat} : ∀ {xs : List T} {i off : Nat} {e e' : T} {ds : List T}, Sized sz xs → xs[i]? = some e → e'.cells = putAt e.cells off ds → off + ds.length ≤ sz →
    flat (xs.set i e') = putAt (flat xs) (i * sz + off) ds
  | [], i, off, e, e', ds, _, h, _, _ => by simp at h
  | x :: xs, 0, off, e, e', ds, hs, h, he, ho => by
    simp at h; subst h
    have hx := (hs x (List.mem_cons_self ..)).1
    rw [List.set_cons_zero, flat_cons, flat_cons, he, Nat.zero_mul, Nat.zero_add]
    unfold putAt
    rw [List.take_append_of_le_length (by omega), List.drop_append_of_le_length (by omega)]
    simp
  | x :: xs, i + 1, off, e, e', ds, hs, h, he, ho => by
    have hx := (hs x (List.mem_cons_self ..)).1
    rw [List.set_cons_succ, flat_cons, flat_cons, flat_set (fun y hy => hs y (List.mem_cons_of_mem _ hy)) (by simpa using h) he ho, Nat.succ_mul]
    unfold putAt
    rw [show i * sz + sz + off = x.cells.length + (i * sz + off) by omega, List.take_length_add_append, show x.cells.length + (i * sz + off) + ds.length = x.cells.length + (i * sz + off + ds.length) by omega, List.drop_length_add_append]
    simp

theorem elemPut_cells {sz : Nat} {e x : T} {off n : Nat} (he : e.cells.length = sz) (hx : x.cells.length = n) (ho : off + n ≤ sz) (hn : n ≠ 0) (hone : x.cells.all T.one = true) : (elemPut e off x).cells = putAt e.cells off x.cells := by
  have scal : ∀ y : T, y.cells = [y] → sz = 1 → (T.at x.cells 0).cells = putAt y.cells off x.cells := by
    intro y hy hs
    have h0 : off = 0 := by omega
    have h1 : n = 1 := by omega
    subst h0
    match hxc : x.cells, hx with
    | [z], hx =>
      have hz : z.one = true := by simpa [hxc] using hone
      have : z.cells = [z] := by cases z <;> first | rfl | cases hz
      simp [T.at, putAt, hy, this]
    | [], hx => simp at hx; omega
    | _ :: _ :: _, hx => simp at hx; omega
  cases e with
  | agg cs => rfl
  | _ => exact scal _ rfl (by simpa [T.cells] using he.symm)

theorem sound_store (r : Rel H μ S W) {t : TypeId} {n : Nat} (hn : sizeT P t = some n) (hn0 : n ≠ 0) {x y : V} {u v : Value} (hx : RV μ S H W x u) (hy : RV μ S H W y v) {c : Prop} {z : V} {H' : Heap}
    (hk : kstore H n x y = some (c, z, H')) (hc : c) : z = .undef ∧ EffU P H μ S W (Instr.storeAt t u v) H' := by
  cases x with
  | ref id off =>
    simp only [kstore] at hk
    split at hk
    · rename_i cs hb
      cases hk
      obtain ⟨hs, hlen, hoff, hone⟩ := hc
      refine ⟨rfl, ?_⟩
      cases hx with
      | ref cs' hb' =>
        obtain ⟨hnS, us, ty, hw, hl, hr⟩ := r.objs id _ hb
        have hcells := hy.cells hs
        have hvs : v.cells.size = n := by have := hcells.1; simp at this; omega
        obtain ⟨W', e1, e2, e3, e4, e5, e6, e7⟩ := run_storeCells_put (P := P) (μ id).blk ty (0, 0) v.cells.toList off 0 us W hw (by simp; omega) (by simp) (all2_oneV hcells hone)
        obtain ⟨μ', h1, h2, h3, h4⟩ := change (W' := W') (S' := S) (o' := .box (putAt cs off y.cells)) r hb (μ id) e3 e4 e5 (by omega) (fun b _ hb => e7 b fun h => hb ⟨rfl, h⟩) (fun _ h => h) (fun _ h => .inl h)
          (fun b h => by rw [e6]; exact r.size b h) ⟨by rw [putAt_length _ _ _ (by omega)], rfl⟩ (fun _ => .inr ⟨rfl, rfl⟩)
          (fun μ' e1 e2' L => by
            refine ⟨hnS, _, ty, e2, by rw [putAt_length _ _ _ (by simp; omega), putAt_length _ _ _ (by omega)]; exact hl, ?_⟩
            have hall := (All2.putAt (R := RV μ S H W) ⟨hl.symm, hr⟩ hcells off).imp fun a b h => h.later L r
            simpa using hall.2)
        exact ⟨W', μ', S, by rw [run_storeAt hn hvs]; exact e1, h3, h4⟩
    · cases hk
  | elt id i off gen =>
    simp only [kstore] at hk
    split at hk
    · rename_i x H1 hx1
      split at hk
      · rename_i sz g xs hrow
        split at hk
        · rename_i hg
          cases hk
          obtain ⟨hi, hlen, hoff, hone⟩ := hc
          refine ⟨rfl, ?_⟩
          obtain ⟨S1, r1, l1, e1⟩ := toElem_sound r hy hx1
          have hx' := hx.later l1 r
          cases hx' with
          | elt a sz2 g2 xs2 hr2 hg2 hh =>
            rw [hrow] at hr2
            simp only [rowOf, Option.some.injEq, Prod.mk.injEq] at hr2
            obtain ⟨rfl, rfl, rfl⟩ := hr2
            obtain ⟨hi2, rfl⟩ := hh hg
            obtain ⟨hS, hsized, hcapr, hblk⟩ := r1.objs id _ hrow
            have hcr : (μ id).cap ≠ 0 := by omega
            obtain ⟨us, ty, fz, hw, hfz, hul, hrt⟩ := hblk hcr
            have hel := at_get hi
            have hszc := (hsized _ (List.mem_of_getElem? hel)).1
            have hszo := (hsized _ (List.mem_of_getElem? hel)).2
            have hcells := e1.cells
            have hvs : v.cells.size = n := by have := hcells.1; simp at this; omega
            have hm1 : i * sz + sz ≤ xs.length * sz := by
              have := Nat.mul_le_mul_right sz (show i + 1 ≤ xs.length by omega)
              rw [Nat.succ_mul] at this; exact this
            have hm2 : xs.length * sz ≤ (μ id).cap * sz := Nat.mul_le_mul_right _ hcapr
            have hfl := flat_length hsized
            obtain ⟨W', f1, f2, f3, f4, f5, f6, f7⟩ := run_storeCells_put (P := P) (μ id).blk ty fz v.cells.toList ((μ id).off + i * sz + off) 0 us W hw (by simp; omega) hfz.2 (all2_one hcells hone)
            have hep := elemPut_cells (off := off) hszc hlen hoff hn0 hone
            have hepl : (elemPut (T.at xs i) off x).cells.length = sz ∧ (elemPut (T.at xs i) off x).cells.all T.one = true := by
              rw [hep]
              refine ⟨by rw [putAt_length _ _ _ (by omega)]; exact hszc, ?_⟩
              rw [List.all_eq_true] at hszo hone ⊢
              intro z hz
              simp only [putAt, List.mem_append] at hz
              rcases hz with h | h | h
              · exact hszo z (List.mem_of_mem_take h)
              · exact hone z h
              · exact hszo z (List.mem_of_mem_drop h)
            have hlv : (Obj.row sz gen xs).live (μ id) = true := by simpa [Obj.live] using hcr
            subst hg
            obtain ⟨μ', h1, h2, h3, h4⟩ := change (W' := W') (S' := S1) (o' := .row sz gen (xs.set i (elemPut (T.at xs i) off x))) r1 hrow (μ id) f3 f4 f5 (by omega) (fun b _ hb => f7 b fun h => hb ⟨hlv, h⟩) (fun _ h => h) (fun _ h => .inl h)
              (fun b h => by rw [f6]; exact r1.size b h) ⟨rfl, .inr ⟨rfl, by simp, rfl⟩⟩ (fun _ => .inr ⟨hlv, rfl⟩)
              (fun μ' e1' e2' L => by
                refine ⟨hS, sized_set hsized i hepl, by simpa using hcapr, fun _ => ⟨_, ty, fz, f2, ?_, ?_, ?_⟩⟩
                · rw [putAt_length _ _ _ (by simp; omega)]; exact hfz
                · rw [putAt_length _ _ _ (by simp; omega)]; exact hul
                · intro j c w hj hw'
                  rw [flat_set hsized hel hep (by omega)] at hj
                  rw [putAt_get _ _ _ _ (by omega)] at hj
                  rw [putAt_get _ _ _ _ (by simp; omega)] at hw'
                  simp only [Nat.add_zero, Array.length_toList] at hw'
                  split at hj
                  · rename_i hj2
                    rw [if_pos (by omega)] at hw'
                    rw [show (μ id).off + j - ((μ id).off + i * sz + off) = j - (i * sz + off) by omega] at hw'
                    exact (hcells.2 _ c w hj hw').later L r1
                  · rename_i hj2
                    rw [if_neg (by omega)] at hw'
                    exact (hrt j c w hj hw').later L r1)
            exact ⟨W', μ', S1, by rw [run_storeAt hn hvs]; exact f1, h3, l1.trans h4⟩
        · cases hk
      · cases hk
    · cases hk
  | _ => simp only [kstore, reduceCtorEq] at hk

/-- A new row. -/
theorem new_row (r : Rel H μ S W) {sz cap : Nat} {xs : List T} {us : List Value} (hsz : Sized sz xs) (hcap : xs.length ≤ cap) (hlen : cap * sz ≤ us.length) (h : ∀ (i : Nat) c u, (flat xs)[i]? = some c → us[i]? = some u → RT S W c u) (t : TypeId)
    (b : Below W.heap.size W W') (hw : W'.heap[W.heap.size]? = some (.cells us.toArray t (0, 0))) :
    ∃ μ', Rel (H ++ [.row sz 0 xs]) μ' S W' ∧ RV μ' S (H ++ [.row sz 0 xs]) W' (.sl H.length 0 xs.length 0 sz) (.slice (some ⟨W.heap.size, 0, none⟩) xs.length cap) ∧ Later H μ S W (H ++ [.row sz 0 xs]) μ' S W' := by
  obtain ⟨μ', e, r', l'⟩ := grow1 r b (.row sz 0 xs) ⟨W.heap.size, 0, cap⟩ (fun _ => Nat.le_refl _) (fun μ' e L => by
    refine ⟨fun _ hs => ?_, hsz, hcap, fun _ => ⟨us, t, (0, 0), hw, ⟨by simp, by simp⟩, by simpa using hlen, fun i c u hi hu => ?_⟩⟩
    · have := r.size _ hs; simp at this
    · exact (h i c u hi (by simpa using hu)).later L r)
  refine ⟨μ', r', ?_, l'⟩
  refine .sl _ cap sz 0 xs (by simp [rowOf]) (Nat.le_refl _) hcap (by simp) fun _ => ⟨rfl, by omega, fun _ => ?_⟩
  rw [e]; exact ⟨by simp, by simp⟩

/-- New memory that is never written. -/
theorem new_lst (r : Rel H μ S W) {sz : Nat} {xs : List T} {us : List Value} (hsz : Sized sz xs) (hlen : us.length = (flat xs).length) (h : ∀ (i : Nat) c u, (flat xs)[i]? = some c → us[i]? = some u → RT S W c u) (t : TypeId)
    (b : Below W.heap.size W W') (hw : W'.heap[W.heap.size]? = some (.cells us.toArray t (0, 0))) :
    ∃ S', Rel H μ S' W' ∧ RT S' W' (.lst sz true xs) (.slice (some ⟨W.heap.size, 0, none⟩) xs.length xs.length) ∧ Later H μ S W H μ S' W' := by
  have hsize : W.heap.size < W'.heap.size := (Array.getElem?_eq_some_iff.1 hw).1
  obtain ⟨r', l'⟩ := grow0 (S' := fun b => S b ∨ b = W.heap.size) r b (fun _ h => .inl h) (fun b h => by rcases h with h | h; exact .inl h; exact .inr (by omega)) (fun k h => by
    rcases h with h | h
    · exact Nat.lt_of_lt_of_le (r.size k h) b.size
    · omega)
  refine ⟨_, r', .lst _ _ us hsz (Nat.le_refl _) (fun _ => rfl) (by simp) hlen (fun a' e _ => by cases e; exact .inr rfl) (fun a' e i u hu => by cases e; rw [add_eq rfl, cell_at hw]; simpa using hu) (fun i c u hi hu => (h i c u hi hu).later l' r), l'⟩
end
end Go.Abs
