/- Several texts of the session, one behind the other: L2. By the session itself. -/
import Derived.Test.YtbpclinijbgchaaL1
import Derived.Calls
import Derived.Orders
import Derived.Below
import Derived.SizedLaws
import Derived.ChangeSlices
import Derived.OpenShut
import Derived.DataElems
import Derived.ChangeArms
/- The instructions that write or make memory are right: append, make, literals, copy. By the session itself. -/
namespace Go.Abs
open Go Go.RowKit
set_option linter.unusedSimpArgs false
set_option linter.unusedVariables false

section
variable {P : Program} {H H' : Heap} {μ μ' : Nat → Loc} {S S' : Nat → Prop} {W W' : World}

/-- What stands in a slice, read as cells. -/
theorem run_firstCells {a : Option Addr} {n m len cap : Nat} {us : List Value} (hl : us.length = n * m) (hn : a = none → us = []) (hc : ∀ a', a = some a' → ∀ (i : Nat) w, us[i]? = some w → W.cell? (a'.add i) = some w) :
    (Builtin.firstCells m n (.slice a len cap)).run P W = .ok us.toArray W := by
  cases a with
  | none => rw [hn rfl]; rfl
  | some a =>
    have := run_loadCells_list (P := P) W a us (hc a rfl)
    rw [hl] at this
    exact this

theorem zeroCells_eq (z : List Value) (n : Nat) : (Builtin.zeroCells z.toArray n).toList.length = n * z.length := by
  simp [Builtin.zeroCells]

/-- The values of one element, over and over. -/
theorem rep_cells {sz : Nat} {z : T} {us : List Value} (hz : z.cells.length = sz) (ha : All2 (RT S W) z.cells us) (n : Nat) :
    All2 (RT S W) (flat (List.replicate n z)) (((Array.range (n * sz)).map fun i => us.toArray[i % us.toArray.size]!).toList) := by
  have hus : us.length = sz := by rw [← ha.1]; exact hz
  have hflen : (flat (List.replicate n z)).length = n * sz := by
    induction n with
    | zero => simp [flat]
    | succ n ih => rw [List.replicate_succ, flat_cons, List.length_append, ih, hz, Nat.succ_mul, Nat.add_comm]
  refine ⟨by simp [hflen], fun i c u hc hu => ?_⟩
  have hi : i < n * sz := by obtain ⟨h, _⟩ := List.getElem?_eq_some_iff.1 hc; omega
  have hs0 : 0 < sz := by
    rcases Nat.eq_zero_or_pos sz with h | h
    · subst h; simp at hi
    · exact h
  have hmod : i % sz < sz := Nat.mod_lt _ hs0
  have hcz : z.cells[i % sz]? = some c := by
    have key : ∀ (n i : Nat), i < n * sz → (flat (List.replicate n z))[i]? = z.cells[i % sz]? := by
      intro n
      induction n with
      | zero => intro i h; simp at h
      | succ n ih =>
        intro i h
        rw [List.replicate_succ, flat_cons]
        by_cases h1 : i < sz
        · rw [List.getElem?_append_left (by omega), Nat.mod_eq_of_lt h1]
        · rw [List.getElem?_append_right (by omega), hz, ih (i - sz) (by rw [Nat.succ_mul] at h; omega)]
          congr 1
          exact (Nat.mod_eq_sub_mod (by omega)).symm
    rw [← key n i hi]; exact hc
  have hcu : us[i % sz]? = some u := by
    simp only [Array.toList_map, Array.toList_range, List.getElem?_map] at hu
    rw [List.getElem?_range hi] at hu
    simp only [Option.map_some, Option.some.injEq] at hu
    rw [← hu]
    simp only [List.size_toArray, hus]
    rw [List.getElem?_eq_getElem (by omega)]
    congr 1
    rw [getElem!_pos us.toArray (i % sz) (by simp; omega)]
    simp
  exact ha.2 _ c u hcz hcu

theorem zeroElem_run {t : TypeId} {z : T} (h : zeroElem P t = some z) : ∃ v, (zeroValue t).run P W = .ok v W ∧ All2 (RT S W) z.cells v.cells.toList := by
  unfold zeroElem at h
  split at h
  · rename_i cs _ hc
    obtain ⟨v, h1, h2⟩ := zeroCells_run (P := P) (W := W) (S := S) hc
    cases h
    exact ⟨v, h1, h2⟩
  · rename_i x ha hc
    obtain ⟨v, h1, h2⟩ := zeroCells_run (P := P) (W := W) (S := S) hc
    cases h
    refine ⟨v, h1, ?_⟩
    have : z.cells = [z] := by
      unfold zeroCells at hc
      split at hc
      · split at hc
        · rename_i zv _
          cases hzl : zv.cells.toList with
          | nil => rw [hzl] at hc; simp [constTs] at hc
          | cons w ws =>
            rw [hzl] at hc
            simp only [constTs] at hc
            split at hc
            · rename_i y hy
              split at hc
              · simp only [Option.some.injEq, List.cons.injEq] at hc
                rw [← hc.1]
                unfold constT at hy
                split at hy <;> first | (cases hy; done) | (cases hy; rfl)
              · cases hc
            · cases hc
        · cases hc
      · cases hc
    rw [this]; exact h2
  · cases h

section
variable {ts : Array TypeId} {t u ty e : TypeId} {i : TypeInfo} {z : Value} (h0 : ts[0]? = some t) (h1 : ts[1]? = some u) (ht : P.underlying t = some (.slice e)) (hu : P.underlying u = some .string ∨ ∃ e', P.underlying u = some (.slice e'))
  (hi : P.info? e = some i) (hz : i.zero = some z) {base : Option Addr} {sLen sCap : Nat} {x : Value} {n : Nat} (hn : (Builtin.lenOf x).run P W = .ok n W)
include h0 h1 ht hu hi hn

theorem run_append_in (hcap : sLen + n ≤ sCap) {new : List Value} (hnew : (Builtin.firstCells i.size n x).run P W = .ok new.toArray W) :
    (Builtin.append_ ts ty #[.slice base sLen sCap, x]).run P W = ((match base with | some a => storeCells (a.add (sLen * i.size)) new | none => pure ()).run P W).andThen fun _ W' => .ok (.slice base (sLen + n) sCap) W' := by
  have hlen : (Builtin.lenOf x).run P W = .ok n W := hn
  rcases hu with hu | ⟨e', hu⟩ <;> cases base <;>
    simp [Builtin.append_, h0, h1, run_underlying ht, run_underlying hu, sizeOf, run_typeInfo hi, hlen, hcap, hnew]

include hz
theorem run_append_out (hcap : sCap < sLen + n) {new old : List Value} (hb0 : i.bytes ≠ 0) (hbound : (sLen + n) * i.bytes ≤ 2 ^ 47) (hnew : (Builtin.firstCells i.size n x).run P W.drew = .ok new.toArray W.drew)
    (hold : (Builtin.firstCells i.size sLen (.slice base sLen sCap)).run P W.drew = .ok old.toArray W.drew) :
    ∃ cap, sLen + n ≤ cap ∧ (Builtin.append_ ts ty #[.slice base sLen sCap, x]).run P W = .ok (.slice (some ⟨W.heap.size, 0, none⟩) (sLen + n) cap)
      (W.drew.alloc (.cells (old ++ new ++ (Builtin.zeroCells z.cells (cap - (sLen + n))).toList).toArray e)) := by
  have hlen : (Builtin.lenOf x).run P W = .ok n W := hn
  have hn' : ¬ (sLen + n ≤ sCap) := by omega
  have hb1 : sLen + n ≤ (sLen + n) * i.bytes := Nat.le_mul_of_pos_right _ (by omega)
  have h48 : ¬ (281474976710656 < Builtin.nextslicecap (sLen + n) sCap * i.bytes) := by
    have h1 := Nat.mul_le_mul_right i.bytes (nextslicecap_le hcap)
    have h2 : 2 * (sLen + n) * i.bytes = 2 * ((sLen + n) * i.bytes) := by rw [Nat.mul_assoc]
    omega
  refine ⟨Question.cut (.appendCap (sLen + n) sCap e) (W.tape W.drawn (.appendCap (sLen + n) sCap e)), ?_, ?_⟩
  · simp only [Question.cut]; omega
  · rcases hu with hu | ⟨e', hu⟩
    · simp [Builtin.append_, h0, h1, run_underlying ht, run_underlying hu, sizeOf, run_typeInfo hi, hlen, hn', hb0, h48, Question.forced, zeroValue, hz, newRow, hold, hnew]
      congr 2
      apply Array.ext'; simp
    · simp [Builtin.append_, h0, h1, run_underlying ht, run_underlying hu, sizeOf, run_typeInfo hi, hlen, hn', hb0, h48, Question.forced, zeroValue, hz, newRow, hold, hnew]
      congr 2
      apply Array.ext'; simp
end

theorem lenOf_slice {a : Option Addr} {n cap : Nat} : (Builtin.lenOf (.slice a n cap)).run P W = .ok n W := rfl
theorem lenOf_str {s : ByteArray} : (Builtin.lenOf (.string s)).run P W = .ok s.size W := rfl

theorem drew_below (W : World) : Below W.heap.size W W.drew := ⟨rfl, rfl, rfl, Nat.le_refl _, fun _ _ => rfl⟩
theorem drew_cell (a : Addr) : W.drew.cell? a = W.cell? a := rfl

/-- What is appended, as cells. -/
structure Src (P : Program) (S : Nat → Prop) (W : World) (m : Nat) (ys : List T) (x : Value) : Prop where
  len : (Builtin.lenOf x).run P W = .ok ys.length W
  sized : Sized m ys
  cells : ∃ new : List Value, All2 (RT S W) (flat ys) new ∧ (Builtin.firstCells m ys.length x).run P W = .ok new.toArray W ∧ (Builtin.firstCells m ys.length x).run P W.drew = .ok new.toArray W.drew

theorem src_elems (r : Rel H μ S W) {m : Nat} {x : V} {u : Value} (hx : RV μ S H W x u) {ys : List T} (hk : elems H m x = some ys) : Src P S W m ys u := by
  obtain ⟨a, cap, us, rfl, hnone, hsz, hall, hcell⟩ := elems_cells r hx hk
  have hfl := flat_length hsz
  have hl : us.length = ys.length * m := by rw [← hall.1]; exact hfl
  have hn : a = none → us = [] := fun e => by
    have := hnone e
    subst this
    exact List.length_eq_zero_iff.1 (by simpa using hl)
  exact ⟨lenOf_slice, hsz, us, hall, run_firstCells hl hn hcell, run_firstCells (W := W.drew) hl hn hcell⟩

theorem strElems_sized (s : List UInt8) : Sized 1 (s.map fun b => T.int .u8 b.toNat) := by
  intro x hx
  obtain ⟨b, _, rfl⟩ := List.mem_map.1 hx
  exact ⟨rfl, rfl⟩

theorem flat_ones : ∀ {xs : List T}, (∀ x ∈ xs, x.cells = [x]) → flat xs = xs
  | [], _ => rfl
  | x :: xs, h => by rw [flat_cons, h x (List.mem_cons_self ..), flat_ones fun y hy => h y (List.mem_cons_of_mem _ hy)]; rfl

theorem src_str (s : ByteArray) : Src P S W 1 (strElems s) (.string s) := by
  have hl : (strElems s).length = s.size := by simp [strElems]
  have hx : (s.extract 0 s.size).data = s.data := by simp
  have hnew : ((s.extract 0 (strElems s).length).data.map fun b => Value.int .u8 b.toNat) = (s.data.toList.map fun b => Value.int .u8 (b.toNat : Int)).toArray := by
    rw [hl, hx]; apply Array.ext'; simp
  refine ⟨by rw [hl]; exact lenOf_str, strElems_sized _, s.data.toList.map fun b => Value.int .u8 (b.toNat : Int), ?_, ?_, ?_⟩
  · rw [flat_ones (xs := strElems s) (fun x hx => by obtain ⟨b, _, rfl⟩ := List.mem_map.1 hx; rfl)]
    refine ⟨by simp [strElems], fun i c u hc hu => ?_⟩
    simp only [strElems, List.getElem?_map] at hc hu
    cases e : s.data.toList[i]? with
    | none => rw [e] at hc; cases hc
    | some b => rw [e] at hc hu; cases hc; cases hu; exact .int _ _
  · simp only [Builtin.firstCells, Sem.run_pure, hnew]
  · simp only [Builtin.firstCells, Sem.run_pure, hnew]

theorem sound_append (r : Rel H μ S W) {ts : Array TypeId} {t u ty e : TypeId} {m b : Nat} (h0 : ts[0]? = some t) (h1 : ts[1]? = some u) (ht : P.underlying t = some (.slice e))
    (hu : P.underlying u = some .string ∨ ∃ e', P.underlying u = some (.slice e')) (hm : sizeT P e = some m) (hb : bytesT P e = some b) (hb0 : b ≠ 0) (hzero : ∃ zt, zeroElem P e = some zt ∧ zt.cells.length = m) {s : V} {sv : Value} (hs : RV μ S H W s sv)
    {x : Value} {ys : List T} (src : Src P S W m ys x) {c : Prop} {v : V} {H' : Heap} (hk : kappend H m b s ys = some (c, v, H')) (hc : c) :
    Eff P H μ S W (Builtin.append_ ts ty #[sv, x]) v H' := by
  obtain ⟨i, hi, rfl, rfl⟩ : ∃ i, P.info? e = some i ∧ i.size = m ∧ i.bytes = b := by
    unfold sizeT at hm; unfold bytesT at hb
    cases hi : P.info? e with
    | none => rw [hi] at hm; cases hm
    | some i => rw [hi] at hm hb; cases hm; cases hb; exact ⟨i, rfl, rfl, rfl⟩
  obtain ⟨z, hz, hzs⟩ : ∃ z, i.zero = some z ∧ z.cells.size = i.size := by
    obtain ⟨zt, hzt, hzl⟩ := hzero
    obtain ⟨zv, h1, h2⟩ := zeroElem_run (P := P) (W := W) (S := S) hzt
    cases hz : i.zero with
    | none => simp [zeroValue, run_typeInfo hi, hz] at h1
    | some z =>
      simp only [zeroValue, Sem.run_bind, run_typeInfo hi, Result.andThen_ok, hz, Sem.run_pure, Result.ok.injEq, and_true] at h1
      subst h1
      refine ⟨z, rfl, ?_⟩
      have := h2.1
      rw [hzl] at this
      simpa using this.symm
  have hzc : ∀ n, (Builtin.zeroCells z.cells n).toList.length = n * i.size := fun n => by
    have := zeroCells_eq z.cells.toList n
    simp only [Array.toArray_toList, Array.length_toList, hzs] at this ⊢
    exact this
  obtain ⟨hlen, hsy, new, hall, hnew, hnewd⟩ := src
  have hfy := flat_length hsy
  have hnl : new.length = ys.length * i.size := by rw [← hall.1]; exact hfy
  cases s with
  | t q =>
    cases q with
    | lst sz tight xs =>
      cases tight with
      | false => simp only [kappend, reduceCtorEq] at hk
      | true =>
        simp only [kappend] at hk
        cases hk
        obtain ⟨hc1, hc2, hbd⟩ := hc
        have hs' := hs.t_inv
        cases hs' with
        | lst a cap us hsz hcap htt hnone hl hS hcell hr =>
          have hcapx := htt rfl
          subst hcapx
          have hszx : Sized i.size xs := by
            rcases hc2 with h | h
            · subst h; exact .nil _
            · exact h ▸ hsz
          have hfx := flat_length hszx
          by_cases hy : ys = []
          · have hx : xs = [] := by rcases hc1 with h | h; exact h; exact absurd hy h
            subst hx; subst hy
            have hn0 : new = [] := List.length_eq_zero_iff.1 (by simpa using hnl)
            subst hn0
            have hrun := run_append_in (P := P) (W := W) (ty := ty) (base := a) (sLen := 0) (sCap := 0) h0 h1 ht hu hi hlen (by simp) hnew
            -- a row without capacity
            obtain ⟨μ', he, r', l'⟩ := grow1 r (Below.refl _ W) (.row i.size 0 []) ⟨0, 0, 0⟩ (fun h => by simp [Obj.live] at h) (fun μ' e L => ⟨fun h => by simp at h, .nil _, by simp, fun h => by simp at h⟩)
            refine ⟨.slice a 0 0, W, μ', S, ?_, r', ?_, l'⟩
            · rw [show (Value.slice a [].length ([] : List T).length) = Value.slice a 0 0 from rfl, hrun]
              cases a <;> simp [storeCells]
            · exact .sl a 0 i.size 0 [] (by simp [rowOf]) (Nat.le_refl _) (Nat.le_refl _) (fun _ => rfl) fun _ => ⟨rfl, by simp, fun h => by simp at h⟩
          · have hy0 : 0 < ys.length := List.length_pos_iff.2 hy
            have hn : a = none → us = [] := fun e => List.length_eq_zero_iff.1 (by rw [hl, (hnone e).1]; rfl)
            have hul : us.length = xs.length * i.size := by rw [hl, hfx]
            obtain ⟨cap, hcap1, hrun⟩ := run_append_out (P := P) (W := W) (ty := ty) (base := a) (sLen := xs.length) (sCap := xs.length) h0 h1 ht hu hi hz hlen (by omega) hb0 hbd hnewd (run_firstCells (W := W.drew) hul hn hcell)
            obtain ⟨μ', r', v', l'⟩ := new_row (H := H) (μ := μ) (xs := xs ++ ys) (cap := cap) (us := us ++ new ++ (Builtin.zeroCells z.cells (cap - (xs.length + ys.length))).toList) r (hszx.append hsy) (by simpa using hcap1) (by
                rw [List.length_append, List.length_append, hzc, hnl, hul, ← Nat.add_mul, ← Nat.add_mul]
                exact Nat.mul_le_mul_right _ (by omega)) (fun j c w hj hw => by
                rw [flat_append] at hj
                have := (All2.append (R := RT S W) ⟨hl.symm, hr⟩ hall).2 j c w hj
                refine this ?_
                rw [List.getElem?_append_left] at hw
                · exact hw
                · have := (All2.append (R := RT S W) ⟨hl.symm, hr⟩ hall).1
                  obtain ⟨hlt, _⟩ := List.getElem?_eq_some_iff.1 hj
                  omega) e (W' := W.drew.alloc _) ((drew_below W).trans (alloc_below W.drew _)) (alloc_new W.drew _)
            rw [List.length_append] at v'
            exact ⟨_, _, μ', S, hrun, r', v', l'⟩
    | _ => simp only [kappend, reduceCtorEq] at hk
  | sl id off len gen sz' =>
    simp only [kappend] at hk
    split at hk
    · rename_i s2 g xs hrow
      split at hk
      · rename_i hcond
        obtain ⟨hg, hoff, hs2, hsz'⟩ := hcond
        subst hs2; subst hoff; subst hsz'; subst hg
        cases hk
        obtain ⟨hlx, hbd⟩ := hc
        subst hlx
        obtain ⟨hS, hsized, hcapr, hblk⟩ := r.objs id _ hrow
        have hfx := flat_length hsized
        cases hs with
        | sl a cap sz2 g2 xs2 hr2 hg2 hcap2 hn2 hh =>
          rw [hrow] at hr2
          simp only [rowOf, Option.some.injEq, Prod.mk.injEq] at hr2
          obtain ⟨rfl, rfl, rfl⟩ := hr2
          obtain ⟨_, _, ha⟩ := hh rfl
          by_cases hfit : xs.length + ys.length ≤ cap
          · have hrun := run_append_in (P := P) (W := W) (ty := ty) (base := a) h0 h1 ht hu hi hlen hfit hnew
            by_cases hc0 : cap = 0
            · have hy : ys = [] := List.length_eq_zero_iff.1 (by omega)
              have hx : xs = [] := List.length_eq_zero_iff.1 (by omega)
              subst hy; subst hx
              have hn0 : new = [] := List.length_eq_zero_iff.1 (by simpa using hnl)
              subst hn0
              subst hc0
              obtain ⟨μ', he, hne, r', l'⟩ := change (W' := W) (S' := S) (o' := .row i.size (gen + 1) []) r hrow (μ id) rfl rfl rfl (Nat.le_refl _) (fun _ _ _ => rfl) (fun _ h => h) (fun _ h => .inl h) r.size
                ⟨rfl, .inl (by omega)⟩ (fun h => .inr ⟨h, rfl⟩) (fun μ' e1 e2 L => ⟨hS, (r.row (by rw [hrow]; rfl)).later L r fun _ => rfl⟩)
              refine ⟨.slice a 0 0, W, μ', S, ?_, r', ?_, l'⟩
              · rw [show (Value.slice a ([] : List T).length 0) = Value.slice a 0 0 from rfl] at hrun ⊢
                rw [hrun]; cases a <;> simp [storeCells]
              · have hidl : id < H.length := by obtain ⟨h, _⟩ := List.getElem?_eq_some_iff.1 hrow; exact h
                exact .sl a 0 i.size (gen + 1) [] (by rw [List.getElem?_set]; simp [hidl, rowOf]) (Nat.le_refl _) (Nat.le_refl _) (fun _ => rfl) fun _ => ⟨rfl, by simp, fun h => by simp at h⟩
            · obtain ⟨rfl, hcc⟩ := ha hc0
              have hcr : (μ id).cap ≠ 0 := by omega
              obtain ⟨us, tyy, fz, hw, hfz, hul, hrt⟩ := hblk hcr
              have hm1 : xs.length * i.size + ys.length * i.size ≤ (μ id).cap * i.size := by rw [← Nat.add_mul]; exact Nat.mul_le_mul_right _ (by omega)
              obtain ⟨W', f1, f2, f3, f4, f5, f6, f7⟩ := run_storeCells_put (P := P) (μ id).blk tyy fz new ((μ id).off + xs.length * i.size) 0 us W hw (by omega) hfz.2 (all2_one hall hsy.one)
              have hlv : (Obj.row i.size gen xs).live (μ id) = true := by simpa [Obj.live] using hcr
              obtain ⟨μ', he, hne, r', l'⟩ := change (W' := W') (S' := S) (o' := .row i.size (gen + 1) (xs ++ ys)) r hrow (μ id) f3 f4 f5 (by omega) (fun b _ hb => f7 b fun h => hb ⟨hlv, h⟩) (fun _ h => h) (fun _ h => .inl h)
                (fun b h => by rw [f6]; exact r.size b h) ⟨rfl, .inl (by omega)⟩ (fun _ => .inr ⟨hlv, rfl⟩)
                (fun μ' e1 e2 L => by
                  refine ⟨hS, hsized.append hsy, by simp; omega, fun _ => ⟨_, tyy, fz, f2, ?_, ?_, ?_⟩⟩
                  · rw [putAt_length _ _ _ (by omega)]; exact hfz
                  · rw [putAt_length _ _ _ (by omega)]; exact hul
                  · intro j c w hj hw'
                    rw [flat_append, List.getElem?_append] at hj
                    rw [putAt_get _ _ _ _ (by omega)] at hw'
                    split at hj
                    · rw [if_neg (by omega)] at hw'
                      exact (hrt j c w hj hw').later L r
                    · have hjl : j - (flat xs).length < (flat ys).length := by obtain ⟨h, _⟩ := List.getElem?_eq_some_iff.1 hj; exact h
                      rw [if_pos (by omega)] at hw'
                      rw [show (μ id).off + j - ((μ id).off + xs.length * i.size + 0) = j - (flat xs).length by omega] at hw'
                      exact (hall.2 _ c w hj hw').later L r)
              have hidl : id < H.length := by obtain ⟨h, _⟩ := List.getElem?_eq_some_iff.1 hrow; exact h
              refine ⟨.slice (some ⟨(μ id).blk, (μ id).off + 0 * i.size, none⟩) (xs.length + ys.length) cap, W', μ', S, ?_, r', .sl _ cap i.size (gen + 1) (xs ++ ys) (by rw [List.getElem?_set]; simp [hidl, rowOf]) (Nat.le_refl _) hfit (fun e => by cases e) fun _ => ⟨rfl, by simp, fun _ => ?_⟩, l'⟩
              · rw [hrun]
                simp only [add_eq]
                simp only [Nat.zero_mul, Nat.add_zero]
                rw [f1]; rfl
              · rw [he]; exact ⟨by simp, by omega⟩
          · have hold : ∃ old : List Value, All2 (RT S W) (flat xs) old ∧ (Builtin.firstCells i.size xs.length (.slice a xs.length cap)).run P W.drew = .ok old.toArray W.drew := by
              by_cases hc0 : cap = 0
              · have hx : xs = [] := List.length_eq_zero_iff.1 (by omega)
                subst hx
                refine ⟨[], ⟨rfl, by simp⟩, run_firstCells (W := W.drew) (by simp) (fun _ => rfl) (by simp)⟩
              · obtain ⟨rfl, hcc⟩ := ha hc0
                have hcr : (μ id).cap ≠ 0 := by omega
                obtain ⟨us, tyy, fz, hw, hfz, hul, hrt⟩ := hblk hcr
                have hm1 : xs.length * i.size ≤ (μ id).cap * i.size := Nat.mul_le_mul_right _ (by omega)
                refine ⟨(us.drop (μ id).off).take (xs.length * i.size), ⟨by simp only [List.length_take, List.length_drop]; omega, fun j c w hj hw' => ?_⟩, run_firstCells (W := W.drew) (by simp only [List.length_take, List.length_drop]; omega) (fun e => by simp at e) fun a' e j w hj => ?_⟩
                · rw [List.getElem?_take] at hw'
                  split at hw'
                  · rw [List.getElem?_drop] at hw'
                    exact hrt j c w hj hw'
                  · cases hw'
                · cases e
                  rw [List.getElem?_take] at hj
                  split at hj
                  · rw [List.getElem?_drop] at hj
                    rw [add_eq rfl, drew_cell, cell_at hw]; simpa using hj
                  · cases hj
            obtain ⟨old, hallo, holdr⟩ := hold
            have hol : old.length = xs.length * i.size := by rw [← hallo.1]; exact hfx
            obtain ⟨cap', hcap1, hrun⟩ := run_append_out (P := P) (W := W) (ty := ty) (base := a) (sLen := xs.length) (sCap := cap) h0 h1 ht hu hi hz hlen (by omega) hb0 hbd hnewd holdr
            have hbelow : Below W.heap.size W (W.drew.alloc (.cells (old ++ new ++ (Builtin.zeroCells z.cells (cap' - (xs.length + ys.length))).toList).toArray e)) := (drew_below W).trans (alloc_below W.drew _)
            have hnewb := alloc_new W.drew (.cells (old ++ new ++ (Builtin.zeroCells z.cells (cap' - (xs.length + ys.length))).toList).toArray e)
            have hidl : id < H.length := by obtain ⟨h, _⟩ := List.getElem?_eq_some_iff.1 hrow; exact h
            obtain ⟨μ', he, hne, r', l'⟩ := change (W' := W.drew.alloc (.cells (old ++ new ++ (Builtin.zeroCells z.cells (cap' - (xs.length + ys.length))).toList).toArray e)) (S' := S) (o' := .row i.size (gen + 1) (xs ++ ys)) r hrow
              ⟨W.heap.size, 0, cap'⟩ hbelow.os hbelow.tape hbelow.output hbelow.size (fun b hb _ => hbelow.block b hb) (fun _ h => h) (fun _ h => .inl h) (fun b h => Nat.lt_of_lt_of_le (r.size b h) hbelow.size)
              ⟨rfl, .inl (by omega)⟩ (fun _ => .inl (Nat.le_refl _))
              (fun μ' e1 e2 L => by
                refine ⟨fun _ hs => ?_, hsized.append hsy, by simpa using hcap1, fun _ => ⟨_, e, (0, 0), hnewb, ⟨by simp, by simp⟩, ?_, ?_⟩⟩
                · have := r.size _ hs; simp at this
                · rw [List.length_append, List.length_append, hzc, hnl, hol, ← Nat.add_mul, ← Nat.add_mul, Nat.zero_add]
                  exact Nat.mul_le_mul_right _ (by show cap' ≤ _; omega)
                · intro j c w hj hw'
                  rw [flat_append] at hj
                  refine ((hallo.append hall).2 j c w hj ?_).later L r
                  simp only [Nat.zero_add] at hw'
                  rw [List.getElem?_append_left] at hw'
                  · exact hw'
                  · have := (hallo.append hall).1
                    obtain ⟨hlt, _⟩ := List.getElem?_eq_some_iff.1 hj
                    omega)
            refine ⟨_, _, μ', S, hrun, r', .sl _ cap' i.size (gen + 1) (xs ++ ys) (by rw [List.getElem?_set]; simp [hidl, rowOf]) (Nat.le_refl _) hcap1 (by simp) fun _ => ⟨rfl, by simp, fun _ => ?_⟩, l'⟩
            rw [he]; exact ⟨by simp, by simp⟩
      · cases hk
    · cases hk
  | _ => simp only [kappend, reduceCtorEq] at hk
end
end Go.Abs

/- Maps: made and written. By the session itself. -/
namespace Go.Abs
open Go
set_option linter.unusedSimpArgs false
set_option linter.unusedVariables false

variable {P : Program} {H : Heap} {μ : Nat → Loc} {S : Nat → Prop} {W : World}

theorem sameL_eq : ∀ {ss : List CQ} {as bs : List T}, fitsQ ss as = true → fitsQ ss bs = true → sameL as bs = true → as = bs
  | [], [], [], _, _, _ => rfl
  | [], _ :: _, _, h, _, _ => by simp [fitsQ] at h
  | [], _, _ :: _, _, h, _ => by simp [fitsQ] at h
  | q :: ss, [], _, h, _, _ => by cases q <;> simp [fitsQ] at h
  | q :: ss, _, [], _, h, _ => by cases q <;> simp [fitsQ] at h
  | q :: ss, x :: as, y :: bs, h, k, e => by
    cases q <;> cases x <;> simp only [fitsQ, Bool.and_eq_true, Bool.false_eq_true] at h <;> cases y <;> simp only [fitsQ, Bool.and_eq_true, Bool.false_eq_true] at k <;>
      simp only [sameL, Bool.and_eq_true, beq_iff_eq, decide_eq_true_eq] at e
    · rw [e.1, sameL_eq h k e.2]
    · have e1 := of_decide_eq_true h.1
      have e2 := of_decide_eq_true k.1
      rw [e.1, e1, e2, sameL_eq h.2.2 k.2.2 e.2]
    · rw [e.1, sameL_eq h.2 k.2 e.2]

theorem findE_get : ∀ (es : List Ent) (ks : List T) (i j : Nat) (y : T), findE es ks i = some (j, y) → ∃ n e, j = i + n ∧ es[n]? = some e ∧ sameL ks (keyL e.key) = true
  | [], ks, i, j, y, h => by simp [findE] at h
  | e :: es, ks, i, j, y, h => by
    unfold findE at h
    split at h
    · rename_i hs
      cases h
      exact ⟨0, e, rfl, rfl, hs⟩
    · obtain ⟨n, e', h1, h2, h3⟩ := findE_get es ks (i + 1) j y h
      exact ⟨n + 1, e', by omega, by simpa using h2, h3⟩

theorem sameBits_valT (n : Nat) {q : CQ} {x : T} (h : fitsQ [q] [x] = true) : Instr.sameBits n (valT x) (valT x) = true := by
  cases q <;> cases x <;> simp [fitsQ] at h <;> cases n <;> simp [valT, Instr.sameBits, MapKept.bytes_beq]

theorem fitsQ_each : ∀ {ss : List CQ} {ts : List T}, fitsQ ss ts = true → ∀ x ∈ ts, ∃ q, fitsQ [q] [x] = true
  | [], [], _ => by simp
  | [], _ :: _, h => by simp [fitsQ] at h
  | q :: ss, [], h => by simp
  | q :: ss, x :: ts, h => by
    intro y hy
    cases q <;> cases x <;> simp only [fitsQ, Bool.and_eq_true, Bool.false_eq_true] at h
    · rcases List.mem_cons.1 hy with rfl | hy
      · exact ⟨.bool, by simp [fitsQ]⟩
      · exact fitsQ_each h y hy
    · rcases List.mem_cons.1 hy with rfl | hy
      · exact ⟨.int _, by simp only [fitsQ, Bool.and_eq_true, and_true]; exact ⟨h.1, h.2.1⟩⟩
      · exact fitsQ_each h.2.2 y hy
    · rcases List.mem_cons.1 hy with rfl | hy
      · exact ⟨.str, by simp only [fitsQ, Bool.and_eq_true, and_true]; exact h.1⟩
      · exact fitsQ_each h.2 y hy

theorem sameBits_keyV {kt : TypeId} {sc : Bool} {ss : List CQ} (hm : mapKey P kt = some (sc, ss)) {ks : List T} (hf : fitsQ ss ks = true) : Instr.sameBits 10000 (keyV sc ks) (keyV sc ks) = true := by
  rcases mapKey_inv hm with ⟨rfl, kd, q, rfl, hu, hk⟩ | ⟨rfl, hq, hkt, hu⟩
  · match ks, fitsQ_length hf, hf with
    | [x], _, hf => exact sameBits_valT 10000 hf
  · show Instr.sameBits (9999 + 1) (.agg _) (.agg _) = true
    simp only [Instr.sameBits, beq_self_eq_true, Bool.true_and, List.all_eq_true]
    intro p hp
    obtain ⟨i, hi, e⟩ := List.getElem_of_mem hp
    rw [List.getElem_zip] at e
    rw [← e]
    simp only [List.getElem_map]
    obtain ⟨q, hq'⟩ := fitsQ_each hf _ (List.getElem_mem (by simpa using hi))
    exact sameBits_valT 9999 hq'

theorem old_key {kt : TypeId} {sc : Bool} {ss : List CQ} (hm : mapKey P kt = some (sc, ss)) {ks : List T} (hf : fitsQ ss ks = true) {e : Ent} {m : MapEntry} (hk : keyOk sc ss e.key = true) (hs : sameL ks (keyL e.key) = true) (hr : RT S W e.key m.key) : m.key = keyV sc ks := by
  rcases mapKey_inv hm with ⟨rfl, kd, q, rfl, hu, hkd⟩ | ⟨rfl, hq, hkt, hu⟩
  · obtain ⟨k1, k2⟩ := keyOk_one hk
    rw [k2] at hs
    match ks, fitsQ_length hf, hf, hs with
    | [x], _, hf, hs =>
      have := sameL_eq hf k1 hs
      simp only [List.cons.injEq, and_true] at this
      rw [rt_valT k1 hr, ← this]; rfl
  · obtain ⟨cs, k1, k2⟩ := keyOk_agg hk
    rw [k1] at hs hr
    have := sameL_eq hf k2 hs
    rw [rt_agg k2 hr, ← this]; rfl

theorem mkKey_rt {kt : TypeId} {sc : Bool} {ss : List CQ} (hm : mapKey P kt = some (sc, ss)) {ks : List T} (hf : fitsQ ss ks = true) {k : V} {kv : Value} (hk : RV μ S H W k kv) (hc : keyCells sc k = some ks) : RT S W (mkKey sc ks) kv := by
  unfold keyCells at hc
  cases sc with
  | true =>
    rw [if_pos rfl] at hc
    split at hc
    · cases hc
      exact hk.t_inv
    · cases hc
  | false =>
    rw [if_neg Bool.false_ne_true] at hc
    split at hc
    · rename_i xs hxs
      obtain ⟨us, rfl, hl, hr⟩ := aggCells_inv hk hxs
      obtain rfl := onlyT_inv hc
      exact .agg us (by simpa using hl.symm) fun i c w h1 h2 => (hr i (.t c) w (by simp [h1]) h2).t_inv
    · cases hc

theorem sound_mapNew (r : Rel H μ S W) (t : TypeId) : Eff P H μ S W (Instr.makeMap t none) (.mp H.length) (H ++ [.map []]) := by
  obtain ⟨μ', e, r', l'⟩ := grow1 r (alloc_below W (.map #[] 0)) (.map []) ⟨W.heap.size, 0, 0⟩ (fun _ => Nat.le_refl _) (fun μ' e L => by
    refine ⟨fun hs => ?_, [], 0, alloc_new W _, rfl, fun i e m he => by simp at he⟩
    have := r.size _ hs
    simp at this)
  refine ⟨.map (some W.heap.size), W.alloc (.map #[] 0), μ', S, ?_, r', ?_, l'⟩
  · simp only [Instr.makeMap, Sem.run_bind, run_newObj, Result.andThen_ok, Sem.run_pure]
    rfl
  · have := RV.mp (μ := μ') (S := S) (H := H ++ [.map []]) (W := W.alloc (.map #[] 0)) (id := H.length) [] (by simp)
    rw [e] at this; exact this

theorem change_map (r : Rel H μ S W) {id : Nat} {es es' : List Ent} (hb : H[id]? = some (.map es)) {ms' : List MapEntry} {clock : Nat} (hE : EntsAt S W es' ms') :
    ∃ μ', Rel (H.set id (.map es')) μ' S { W with heap := W.heap.setIfInBounds (μ id).blk (.map ms'.toArray clock) } ∧ Later H μ S W (H.set id (.map es')) μ' S { W with heap := W.heap.setIfInBounds (μ id).blk (.map ms'.toArray clock) } := by
  have hlt : (μ id).blk < W.heap.size := r.lt ⟨_, hb, rfl⟩
  obtain ⟨μ', e, e', r', l'⟩ := change (W' := { W with heap := W.heap.setIfInBounds (μ id).blk (.map ms'.toArray clock) }) (S' := S) r hb (o' := .map es') (μ id) rfl rfl rfl (by simp)
    (fun b hb' hn => by
      have : (μ id).blk ≠ b := fun h => hn ⟨rfl, h.symm⟩
      simp [Array.getElem?_setIfInBounds, this])
    (fun _ h => h) (fun _ h => .inl h) (fun b hb' => by simpa using r.size b hb') rfl (fun _ => .inr ⟨rfl, rfl⟩)
    (fun μ' e e' L => by
      refine ⟨r.notS ⟨_, hb, rfl⟩, ms', clock, by simp [Array.getElem?_setIfInBounds, hlt], hE.1, fun i a m ha hm => ?_⟩
      obtain ⟨h1, h2⟩ := hE.2 i a m ha hm
      exact ⟨h1.later L r, h2.later L r⟩)
  exact ⟨μ', r', l'⟩

theorem sound_mapSet (r : Rel H μ S W) {t kt e : TypeId} {sc : Bool} {ss : List CQ} (ht : P.underlying t = some (.map kt e)) (hm : mapKey P kt = some (sc, ss))
    {m k v : V} {u kv vv : Value} (hx : RV μ S H W m u) (hk : RV μ S H W k kv) (hv : RV μ S H W v vv) {c : Prop} {z : V} {H' : Heap} (hc : keff H (.mapSet sc ss) [m, k, v] = some (c, z, H')) (hcond : c) :
    z = .undef ∧ EffU P H μ S W (Instr.mapUpdate t u kv vv) H' := by
  simp only [keff, kmapSet] at hc
  split at hc <;> try (cases hc; done)
  rename_i id ks x hks
  split at hc <;> try (cases hc; done)
  rename_i es hes
  simp only [Option.some.injEq, Prod.mk.injEq] at hc
  obtain ⟨rfl, rfl, rfl⟩ := hc
  refine ⟨rfl, ?_⟩
  cases hx
  obtain ⟨_, ms, cl, hb, hE⟩ := map_at r hes
  have hkv := key_inv hm hk hks hcond.1
  have hkR := mkKey_rt hm hcond.1 hk hks
  have hvR := hv.t_inv
  obtain ⟨g1, rr, g2, g3⟩ := key_run hm hcond.1 hE hcond.2 false
  rw [← hkv] at g1 g2
  unfold putE
  cases hfe : findE es ks 0 with
  | some p =>
    obtain ⟨j, y⟩ := p
    rw [hfe] at g3
    obtain ⟨uu, rfl, _, _, hj⟩ := g3
    obtain ⟨n, e1, hn1, hn2, hn3⟩ := findE_get es ks 0 j y hfe
    obtain rfl : j = n := by omega
    have hjm : j < ms.length := by rw [hE.1]; omega
    have hm1 : ms[j]? = some ms[j] := List.getElem?_eq_getElem hjm
    have hold := old_key hm hcond.1 (List.all_eq_true.1 hcond.2 e1 (List.mem_of_getElem? hn2)) hn3 (hE.2 j e1 _ hn2 hm1).1
    have hE' : EntsAt S W (es.set j ⟨mkKey sc ks, x⟩) (ms.toArray.modify j fun e => { e with key := kv, val := vv }).toList := by
      refine ⟨by simp [hE.1], fun i a b ha hb' => ?_⟩
      have hb2 : (ms.toArray.modify j fun e => { e with key := kv, val := vv })[i]? = some b := by simpa using hb'
      rw [Array.getElem?_modify] at hb2
      rw [List.getElem?_set] at ha
      by_cases hij : j = i
      · subst hij
        simp only [if_pos, show j < es.length by omega, Option.some.injEq] at ha
        subst ha
        simp [hm1] at hb2
        subst hb2
        exact ⟨hkR, hvR⟩
      · rw [if_neg hij] at ha
        simp [hij] at hb2
        exact hE.2 i a b ha hb2
    obtain ⟨μ', r', l'⟩ := change_map (clock := cl) r hes hE'
    refine ⟨_, μ', S, ?_, r', l'⟩
    unfold Instr.mapUpdate
    have hst : (Instr.keyThatStays (((ms.toArray[j]?).map (·.key)).getD kv) kv).run P W = .ok kv W := by
      have : ((ms.toArray[j]?).map (·.key)).getD kv = kv := by simp [hm1, hold, hkv]
      rw [this]
      have hs := sameBits_keyV hm hcond.1
      rw [← hkv] at hs
      simp [Instr.keyThatStays, hs]
    simp only [Sem.run_bind, run_underlying ht, Result.andThen_ok, MapKept.run_getObj_map hb, g1, g2, hst, MapKept.run_setObj_map _ hb, Array.toArray_toList]
  | none =>
    rw [hfe] at g3
    obtain rfl : rr = none := g3
    have hE' : EntsAt S W (es ++ [⟨mkKey sc ks, x⟩]) (ms ++ [{ key := kv, val := vv, born := cl }]) := by
      refine ⟨by simp [hE.1], fun i a b ha hb' => ?_⟩
      rw [List.getElem?_append] at ha hb'
      rw [hE.1] at hb'
      split at ha
      · rename_i hi
        rw [if_pos hi] at hb'
        exact hE.2 i a b ha hb'
      · rename_i hi
        rw [if_neg hi] at hb'
        cases hd : i - es.length with
        | zero =>
          rw [hd] at ha hb'
          simp at ha hb'
          subst ha hb'
          exact ⟨hkR, hvR⟩
        | succ d => rw [hd] at ha; simp at ha
    obtain ⟨μ', r', l'⟩ := change_map (clock := cl + 1) r hes hE'
    refine ⟨_, μ', S, ?_, r', l'⟩
    unfold Instr.mapUpdate
    simp only [Sem.run_bind, run_underlying ht, Result.andThen_ok, MapKept.run_getObj_map hb, g1, g2, MapKept.run_setObj_map _ hb, List.push_toArray]
end Go.Abs

/- The instructions that write or make memory are right: make, literals, copy, and all of them together. By the session itself. -/
namespace Go.Abs
open Go Go.RowKit
set_option linter.unusedSimpArgs false
set_option linter.unusedVariables false

section
variable {P : Program} {H H' : Heap} {μ μ' : Nat → Loc} {S S' : Nat → Prop} {W W' : World}

theorem range0 : Array.range 0 = #[] := rfl

theorem run_newRow {t : TypeId} {cs : Array Value} : (newRow t cs).run P W = .ok ⟨W.heap.size, 0, none⟩ (W.alloc (.cells cs t)) := by
  simp only [newRow, Sem.run_bind, run_newObj, Result.andThen_ok, Sem.run_pure]; rfl

theorem sized_replicate {sz n : Nat} {z : T} (hz : z.cells.length = sz ∧ z.cells.all T.one = true) : Sized sz (List.replicate n z) := by
  intro x hx; rw [List.eq_of_mem_replicate hx]; exact hz

theorem constTs_one : ∀ {zs : List Value} {xs : List T}, constTs zs = some xs → xs.all T.one = true
  | [], xs, h => by simp only [constTs, Option.some.injEq] at h; subst h; rfl
  | z :: zs, xs, h => by
    simp only [constTs] at h
    split at h
    · rename_i x hx
      split at h
      · rename_i ys hy
        cases h
        simp only [List.all_cons, constTs_one hy, Bool.and_true]
        unfold constT at hx
        split at hx <;> first | (cases hx; rfl) | (cases hx; done)
      · cases h
    · cases h

theorem zeroElem_one {t : TypeId} {z : T} (h : zeroElem P t = some z) : z.cells.all T.one = true := by
  have hz : ∀ {cs : List T}, zeroCells P t = some cs → cs.all T.one = true := by
    intro cs hc
    unfold zeroCells at hc
    split at hc
    · split at hc
      · exact constTs_one hc
      · cases hc
    · cases hc
  unfold zeroElem at h
  split at h
  · rename_i cs _ hc; cases h; exact hz hc
  · rename_i x _ hc
    cases h
    have := hz hc
    cases z <;> first | rfl | simp [T.one] at this
  · cases h

theorem sound_makeSlice (r : Rel H μ S W) {t e : TypeId} {n b : Nat} {z : T} (ht : P.underlying t = some (.slice e)) (hn : sizeT P e = some n) (hb : bytesT P e = some b) (hz : zeroElem P e = some z) (hzl : z.cells.length = n)
    (hn0 : n ≠ 0) {k k' : IntKind} {l c : Int} (h0 : 0 ≤ l) (h1 : l ≤ c) (h2 : c < 9223372036854775808) (h3 : (b : Int) * c ≤ 2 ^ 46) :
    Eff P H μ S W (Instr.makeSlice t (.int k l) (.int k' c)) (.sl H.length 0 l.toNat 0 n) (H ++ [.row n 0 (List.replicate l.toNat z)]) := by
  obtain ⟨zv, hzr, hza⟩ := zeroElem_run (P := P) (W := W) (S := S) hz
  obtain ⟨i, hi, rfl, rfl⟩ : ∃ i, P.info? e = some i ∧ i.size = n ∧ i.bytes = b := by
    unfold sizeT at hn; unfold bytesT at hb
    cases hi : P.info? e with
    | none => rw [hi] at hn; cases hn
    | some i => rw [hi] at hn hb; cases hn; cases hb; exact ⟨i, rfl, rfl, rfl⟩
  have wl : IntKind.i64.wrap l = l := by simp [IntKind.wrap, IntKind.bits, IntKind.signed]; omega
  have wc : IntKind.i64.wrap c = c := by simp [IntKind.wrap, IntKind.bits, IntKind.signed]; omega
  have hbl : (i.bytes : Int) * l ≤ (i.bytes : Int) * c := Int.mul_le_mul_of_nonneg_left h1 (by omega)
  obtain ⟨us, hus, hrun⟩ : ∃ us : List Value, All2 (RT S W) (flat (List.replicate c.toNat z)) us ∧
      (Instr.makeSlice t (.int k l) (.int k' c)).run P W = .ok (.slice (some ⟨W.heap.size, 0, none⟩) l.toNat c.toNat) (W.alloc (.cells us.toArray e)) := by
    have hrep := rep_cells (S := S) (W := W) hzl hza c.toNat
    refine ⟨_, hrep, ?_⟩
    have hcond : ¬ ((((decide (c < 0) || decide ((i.bytes : Int) * c > 2 ^ 48)) || decide (l < 0)) || decide (l > c)) = true) := by
      simp only [Bool.or_eq_true, decide_eq_true_eq]; omega
    simp only [Instr.makeSlice, Sem.run_bind, run_underlying ht, Result.andThen_ok, run_asInt, run_typeInfo hi, wl, wc]
    rw [if_neg hcond]
    simp only [Sem.run_bind, Sem.run_pure, Result.andThen_ok, run_askRoom, run_sizeOf hn]
    by_cases hc0 : c.toNat * i.size = 0
    · rw [if_pos hc0]
      have : c.toNat = 0 := by
        rcases Nat.mul_eq_zero.1 hc0 with h | h
        · exact h
        · exact absurd h hn0
      simp only [Sem.run_pure, Result.andThen_ok, hc0, range0, Array.map_empty, Sem.run_bind, run_newRow]
    · rw [if_neg hc0]
      simp only [Sem.run_bind, hzr, Sem.run_pure, Result.andThen_ok, run_newRow, Array.toArray_toList]
  have hsz : Sized i.size (List.replicate l.toNat z) := sized_replicate ⟨hzl, zeroElem_one hz⟩
  have hlc : l.toNat ≤ c.toNat := by omega
  have hflc : (flat (List.replicate c.toNat z)).length = c.toNat * i.size := by
    have := flat_length (sized_replicate (n := c.toNat) ⟨hzl, zeroElem_one hz⟩); simpa using this
  obtain ⟨μ', h4, h5, h6⟩ := new_row (H := H) (μ := μ) (xs := List.replicate l.toNat z) (cap := c.toNat) (us := us) r hsz (by simpa using hlc) (by rw [← hus.1, hflc]; exact Nat.le_refl _) (fun j cc w hj hw => by
    refine hus.2 j cc w ?_ hw
    have e1 : List.replicate l.toNat z = (List.replicate c.toNat z).take l.toNat := by rw [List.take_replicate]; congr 1; omega
    rw [e1, flat_take _ (sized_replicate ⟨hzl, zeroElem_one hz⟩), List.getElem?_take] at hj
    split at hj
    · exact hj
    · cases hj) e (alloc_below W _) (alloc_new W _)
  rw [List.length_replicate] at h5
  exact ⟨_, _, μ', S, hrun, h4, h5, h6⟩

/-- The elements of a literal. -/
theorem fill_rows {sz : Nat} : ∀ (is : List Nat) (zs es : List T) (us ws : List Value), Sized sz zs → Sized sz es → es.length = is.length → (∀ i ∈ is, i < zs.length) → All2 (RT S W) (flat zs) us → All2 (RT S W) es ws →
    ∃ us' : List Value, Instr.fill (fun i => some (i * sz, sz)) us.toArray (is.zip ws) = some us'.toArray ∧ All2 (RT S W) (flat (setElems zs is es)) us' ∧ Sized sz (setElems zs is es) ∧ (setElems zs is es).length = zs.length := by
  intro is
  induction is with
  | nil =>
    intro zs es us ws hz _ hl _ ha _
    obtain rfl : es = [] := List.length_eq_zero_iff.1 (by simpa using hl)
    exact ⟨us, by simp [Instr.fill], ha, hz, rfl⟩
  | cons i is ih =>
    intro zs es us ws hz he hl hlt ha hw
    match es, hl with
    | x :: es, hl =>
      match ws, hw with
      | w :: ws, hw =>
        have hx := he x (List.mem_cons_self ..)
        have hx0 : RT S W x w := hw.2 0 x w rfl rfl
        have hcells := hx0.cells
        have hi : i < zs.length := hlt i (List.mem_cons_self ..)
        have hzi := at_get hi
        have hzl := (hz _ (List.mem_of_getElem? hzi)).1
        have hcl : (T.at zs i).cells.length = sz := hzl
        have hput : x.cells = putAt (T.at zs i).cells 0 x.cells := by
          unfold putAt
          rw [List.take_zero, List.nil_append, Nat.zero_add, List.drop_of_length_le (by omega), List.append_nil]
        have hm : i * sz + sz ≤ zs.length * sz := by
          have := Nat.mul_le_mul_right sz (show i + 1 ≤ zs.length by omega)
          rw [Nat.succ_mul] at this; exact this
        have hfl := flat_length hz
        have hflat : flat (zs.set i x) = putAt (flat zs) (i * sz) x.cells := by
          have := flat_set (off := 0) hz hzi hput (by omega); simpa using this
        obtain ⟨us', e1, e2, e3, e4⟩ := ih (zs.set i x) es (putAt us (i * sz) w.cells.toList) ws (sized_set hz i hx) (fun y hy => he y (List.mem_cons_of_mem _ hy)) (by simpa using hl)
          (fun j hj => by simpa using hlt j (List.mem_cons_of_mem _ hj)) (by rw [hflat]; exact ha.putAt hcells _)
          ⟨by simpa using hw.1, fun j a b h1 h2 => hw.2 (j + 1) a b (by simpa using h1) (by simpa using h2)⟩
        refine ⟨us', ?_, e2, e3, e4.trans (by simp)⟩
        simp only [List.zip_cons_cons, Instr.fill]
        have h3 : w.cells.size = sz := by have := hcells.1; simp at this; omega
        have h4 : us.length = (flat zs).length := ha.1.symm
        have h5 : ¬ ((decide (w.cells.size ≠ sz) || decide (i * sz + w.cells.size > us.toArray.size)) = true) := by
          simp only [List.size_toArray, Bool.or_eq_true, decide_eq_true_eq]; omega
        rw [if_neg h5]
        have := foldl_put us (i * sz) w.cells.toList (by simp; omega)
        simp only [Array.toArray_toList] at this
        rw [this]; exact e1

theorem run_buildSlice {t e : TypeId} {n len : Nat} {z : T} (ht : P.underlying t = some (.slice e)) (hn : sizeT P e = some n) (hz : zeroElem P e = some z) (hzl : z.cells.length = n) (hsmall : len * n ≤ 2 ^ 24) {is : List Nat} {es : List T}
    {ws : List Value} (hes : Sized n es) (hl : es.length = is.length) (hlt : ∀ i ∈ is, i < len) (ha : All2 (RT S W) es ws) :
    ∃ us : List Value, (Instr.buildSlice t len (is.zip ws).toArray).run P W = .ok (.slice (some ⟨W.heap.size, 0, none⟩) len len) (W.alloc (.cells us.toArray e)) ∧
      All2 (RT S W) (flat (setElems (List.replicate len z) is es)) us ∧ Sized n (setElems (List.replicate len z) is es) ∧ (setElems (List.replicate len z) is es).length = len := by
  obtain ⟨zv, hzr, hza⟩ := zeroElem_run (P := P) (W := W) (S := S) hz
  have hrep := rep_cells (S := S) (W := W) hzl hza len
  obtain ⟨us', e1, e2, e3, e4⟩ := fill_rows is (List.replicate len z) es _ ws (sized_replicate ⟨hzl, zeroElem_one hz⟩) hes hl (by simpa using hlt) hrep ha
  refine ⟨us', ?_, e2, e3, by simpa using e4⟩
  simp only [Instr.buildSlice, Sem.run_bind, run_underlying ht, Result.andThen_ok, run_sizeOf hn]
  rw [if_neg (by omega)]
  simp only [Array.toArray_toList] at e1
  by_cases hc0 : len * n = 0
  · rw [if_pos hc0]
    simp only [hc0, range0, Array.map_empty] at e1
    simp only [Sem.run_pure, Result.andThen_ok, hc0, range0, Array.map_empty, e1, Sem.run_bind, run_newRow]
  · rw [if_neg hc0]
    simp only [Sem.run_bind, hzr, Sem.run_pure, Result.andThen_ok, e1, run_newRow]

theorem Eff.next {s : Sem Value} {v : V} (h : Eff P H μ S W s v H') : ∃ n q W' μ' S', (do pure (Next.value (← s)) : Sem Next).run P W = .ok n W' ∧ (n = .value q ∨ (n = .skip ∧ q = undef)) ∧ Rel H' μ' S' W' ∧ RV μ' S' H' W' v q ∧ Later H μ S W H' μ' S' W' := by
  obtain ⟨q, W', μ', S', h1, h2, h3, h4⟩ := h
  exact ⟨.value q, q, W', μ', S', by simp only [Sem.run_bind, h1, Result.andThen_ok, Sem.run_pure], .inl rfl, h2, h3, h4⟩

theorem EffU.next {s : Sem Unit} (h : EffU P H μ S W s H') : ∃ n q W' μ' S', (do s; pure Next.skip : Sem Next).run P W = .ok n W' ∧ (n = .value q ∨ (n = .skip ∧ q = undef)) ∧ Rel H' μ' S' W' ∧ RV μ' S' H' W' .undef q ∧ Later H μ S W H' μ' S' W' := by
  obtain ⟨W', μ', S', h1, h2, h4⟩ := h
  exact ⟨.skip, undef, W', μ', S', by simp only [Sem.run_bind, h1, Result.andThen_ok, Sem.run_pure], .inr ⟨rfl, rfl⟩, h2, .undef _, h4⟩

theorem sized_of_all {sz : Nat} {es : List T} (h : (es.all fun e => e.cells.length == sz && e.cells.all T.one) = true) : Sized sz es := by
  intro x hx
  have := List.all_eq_true.1 h x hx
  simp only [Bool.and_eq_true, beq_iff_eq] at this
  exact this

theorem sound_buildSlice (r : Rel H μ S W) {t e : TypeId} {n len : Nat} {z : T} (ht : P.underlying t = some (.slice e)) (hn : sizeT P e = some n) (hz : zeroElem P e = some z) (hzl : z.cells.length = n) (hsmall : len * n ≤ 2 ^ 24) {is : List Nat}
    {args : List V} {ws : List Value} (ha : All2 (RV μ S H W) args ws) {c : Prop} {v : V} {H' : Heap} (hk : keff H (.buildSlice n z len is) args = some (c, v, H')) (hc : c) :
    Eff P H μ S W (Instr.buildSlice t len (is.zip ws).toArray) v H' := by
  simp only [keff] at hk
  split at hk
  · rename_i es H1 hes
    cases hk
    obtain ⟨c1, c2, c3⟩ := hc
    obtain ⟨S1, r1, l1, ha1⟩ := toElems_sound r ha hes
    obtain ⟨us, e1, e2, e3, e4⟩ := run_buildSlice (P := P) ht hn hz hzl hsmall (sized_of_all c3) c1 (fun i hi => by simpa using List.all_eq_true.1 c2 i hi) ha1
    obtain ⟨S2, r2, v2, l2⟩ := new_lst r1 e3 e2.1.symm e2.2 e (alloc_below W _) (alloc_new W _)
    refine ⟨_, _, μ, S2, e1, r2, .t ?_, l1.trans l2⟩
    rw [e4] at v2; exact v2
  · cases hk

theorem sound_buildRow (r : Rel H μ S W) {t e : TypeId} {n len : Nat} {z : T} (ht : P.underlying t = some (.slice e)) (hn : sizeT P e = some n) (hz : zeroElem P e = some z) (hzl : z.cells.length = n) (hsmall : len * n ≤ 2 ^ 24) {is : List Nat}
    {args : List V} {ws : List Value} (ha : All2 (RV μ S H W) args ws) {c : Prop} {v : V} {H' : Heap} (hk : keff H (.buildRow n z len is) args = some (c, v, H')) (hc : c) :
    Eff P H μ S W (Instr.buildSlice t len (is.zip ws).toArray) v H' := by
  simp only [keff] at hk
  split at hk
  · rename_i es H1 hes
    cases hk
    obtain ⟨c1, c2, c3⟩ := hc
    obtain ⟨S1, r1, l1, ha1⟩ := toElems_sound r ha hes
    obtain ⟨us, e1, e2, e3, e4⟩ := run_buildSlice (P := P) ht hn hz hzl hsmall (sized_of_all c3) c1 (fun i hi => by simpa using List.all_eq_true.1 c2 i hi) ha1
    obtain ⟨μ2, r2, v2, l2⟩ := new_row r1 e3 (Nat.le_refl _) (by rw [← e2.1, flat_length e3]; exact Nat.le_refl _) e2.2 e (alloc_below W _) (alloc_new W _)
    refine ⟨_, _, μ2, S1, e1, r2, ?_, l1.trans l2⟩
    rw [e4] at v2; exact v2
  · cases hk

theorem sound_mark (r : Rel H μ S W) {s e : TypeId} (hs : P.underlying s = some (.slice e)) (he : P.underlying e = some (.int .u8)) {x : V} {u : Value} (hx : RV μ S H W x u) {c : Prop} {v : V} {H' : Heap} (hk : keff H .mark [x] = some (c, v, H')) (hc : c) :
    Eff P H μ S W (convert s s u) v H' := by
  obtain ⟨id, off, len, gen, sz, rfl⟩ : ∃ id off len gen sz, x = .sl id off len gen sz := by
    cases x with
    | sl id off len gen sz => exact ⟨id, off, len, gen, sz, rfl⟩
    | _ => simp [keff] at hk
  simp only [keff] at hk
  split at hk
  · rename_i s2 g xs hrow
    split at hk
    · rename_i hcond
      obtain ⟨rfl, rfl⟩ := hcond
      cases hk
      obtain ⟨hS, hsized, hcapr, hblk⟩ := r.objs id _ hrow
      cases hx with
      | sl a cap sz2 g2 xs2 hr2 hg2 hcap2 hn2 hh =>
        rw [hrow] at hr2
        simp only [rowOf, Option.some.injEq, Prod.mk.injEq] at hr2
        obtain ⟨rfl, rfl, rfl⟩ := hr2
        obtain ⟨_, hl, ha⟩ := hh rfl
        have hc0 : cap ≠ 0 := by omega
        obtain ⟨rfl, hcc⟩ := ha hc0
        have hcr : (μ id).cap ≠ 0 := by omega
        obtain ⟨us, ty, fz, hw, hfz, hul, hrt⟩ := hblk hcr
        have hshape : W.shape? (μ id).blk = some (ty, us.length) := by simp [World.shape?, hw]
        have hlv : (Obj.row s2 gen xs).live (μ id) = true := by simpa [Obj.live] using hcr
        let fz' : Nat × Nat := if fz.1 == fz.2 then (us.length, us.length + 1) else (min fz.1 us.length, max fz.2 (us.length + 1))
        let W' := W.freeze ⟨(μ id).blk, us.length, none⟩ 1
        have hidl : (μ id).blk < W.heap.size := (Array.getElem?_eq_some_iff.1 hw).1
        have hheap : W'.heap[(μ id).blk]? = some (.cells us.toArray ty fz') := by
          simp only [W', World.freeze]
          rw [if_neg (by omega)]
          simp only [Array.getElem?_modify, if_pos, hw, Option.map_some]
          obtain ⟨lo, hi⟩ := fz
          rfl
        have hother : ∀ b, b ≠ (μ id).blk → W'.heap[b]? = W.heap[b]? := by
          intro b hb
          simp only [W', World.freeze]
          rw [if_neg (by omega)]
          simp only [Array.getElem?_modify]
          rw [if_neg (fun h => hb h.symm)]
        have hws : W'.heap.size = W.heap.size := by
          simp only [W', World.freeze]; rw [if_neg (by omega)]; simp
        have hok : FzOk fz' us.length := by
          obtain ⟨h1, h2⟩ := hfz
          simp only [fz']
          split
          · exact ⟨by simp, fun i hi h => by simp at h; omega⟩
          · rename_i hne
            have hne' : fz.1 ≠ fz.2 := by simpa using hne
            have hlo : us.length ≤ fz.1 := by
              rcases Nat.lt_or_ge fz.1 us.length with h | h
              · exact absurd ⟨Nat.le_refl _, by omega⟩ (h2 fz.1 h)
              · exact h
            exact ⟨by simp; omega, fun i hi h => by simp at h; omega⟩
        have hoth : W'.os = W.os ∧ W'.tape = W.tape ∧ W'.output = W.output := by
          simp only [W', World.freeze]; rw [if_neg (by omega)]; exact ⟨rfl, rfl, rfl⟩
        have hset : H.set id (.row s2 gen xs) = H := by
          apply List.ext_getElem?
          intro j
          rw [List.getElem?_set]
          by_cases h : id = j
          · subst h; rw [if_pos rfl, hrow]; obtain ⟨h, _⟩ := List.getElem?_eq_some_iff.1 hrow; simp [h]
          · rw [if_neg h]
        obtain ⟨μ', he1, hne1, r', l'⟩ := change (W' := W') (S' := S) (o' := .row s2 gen xs) r hrow (μ id) hoth.1 hoth.2.1 hoth.2.2 (by omega) (fun b _ hb => hother b fun h => hb ⟨hlv, h⟩) (fun _ h => h) (fun _ h => .inl h)
          (fun b h => by rw [hws]; exact r.size b h) ⟨rfl, .inr ⟨rfl, rfl, rfl⟩⟩ (fun _ => .inr ⟨hlv, rfl⟩)
          (fun μ' e1 e2 L => ⟨hS, hsized, hcapr, fun _ => ⟨us, ty, fz', hheap, hok, hul, fun i c w hi hw' => (hrt i c w hi hw').later L r⟩⟩)
        rw [hset] at r' l'
        refine ⟨.slice (some ⟨(μ id).blk, (μ id).off + off * s2, none⟩) len cap, W', μ', S, ?_, r', .sl _ cap s2 gen xs (by rw [hrow]; rfl) (Nat.le_refl _) hcap2 (fun e => by cases e) fun _ => ⟨rfl, hl, fun _ => ⟨by rw [he1], by rw [he1]; exact hcc⟩⟩, l'⟩
        simp only [convert, Sem.run_bind, run_underlying hs, run_underlying he, Result.andThen_ok, beq_self_eq_true, markStringish, run_shape, hshape, run_freeze, Sem.run_pure]
        rfl
    · cases hk
  · cases hk

/-- An operation that is no call, and writes or makes memory. -/
theorem op_eff (r : Rel H μ S W) {wr : Bool} {o : Oper} {k : K} {xs : List Operand} (hc : cOp P wr o.op = some (k, xs)) {ρ : Operand → Value} {args : List V} (ha : All2 (RV μ S H W) args (xs.map ρ))
    {c : Prop} {v : V} {H' : Heap} (hk : keff H k args = some (c, v, H')) (hcond : c) :
    ∃ n q W' μ' S', (execOp ρ o).run P W = .ok n W' ∧ (n = .value q ∨ (n = .skip ∧ q = undef)) ∧ Rel H' μ' S' W' ∧ RV μ' S' H' W' v q ∧ Later H μ S W H' μ' S' W' := by
  unfold execOp
  cases hop : o.op with
  | alloc e =>
    rw [hop] at hc; simp only [cOp] at hc
    split at hc <;> cases hc
    rename_i z hz
    obtain rfl := All2.nil_inv ha
    simp only [keff, Option.some.injEq, Prod.mk.injEq] at hk
    obtain ⟨rfl, rfl, rfl⟩ := hk
    exact Eff.next (sound_alloc r hz)
  | box e x =>
    rw [hop] at hc; simp only [cOp, Option.some.injEq, Prod.mk.injEq] at hc; obtain ⟨rfl, rfl⟩ := hc
    obtain ⟨w, rfl, hw⟩ := one_arg ha
    simp only [keff, Option.some.injEq, Prod.mk.injEq] at hk
    obtain ⟨rfl, rfl, rfl⟩ := hk
    exact Eff.next (sound_box r hw hcond.1)
  | store t a x =>
    rw [hop] at hc; simp only [cOp] at hc
    split at hc <;> try (cases hc; done)
    rename_i n hn
    split at hc <;> try (cases hc; done)
    rename_i hn0
    cases hc
    obtain ⟨a', b', rfl, h1, h2⟩ := two_args ha
    obtain ⟨rfl, h⟩ := sound_store r hn hn0 h1 h2 hk hcond
    exact EffU.next h
  | buildSlice t len ps =>
    rw [hop] at hc; simp only [cOp] at hc
    have hps : ps.map (fun (p : Nat × Operand) => (p.1, ρ p.2)) = ((ps.toList.map (·.1)).zip ((ps.toList.map (·.2)).map ρ)).toArray := by
      rw [← run_mapM_places]; apply Array.ext'; simp
    split at hc <;> try (cases hc; done)
    rename_i e ht
    split at hc <;> try (cases hc; done)
    rename_i n z hn hz
    split at hc <;> try (cases hc; done)
    rename_i hcc
    cases hc
    dsimp only
    rw [hps]
    cases wr with
    | false => exact Eff.next (sound_buildSlice r ht hn hz hcc.2.2 hcc.2.1 ha hk hcond)
    | true => exact Eff.next (sound_buildRow r ht hn hz hcc.2.2 hcc.2.1 ha hk hcond)
  | makeSlice t l cp =>
    rw [hop] at hc; simp only [cOp] at hc
    split at hc <;> try (cases hc; done)
    rename_i e ht
    split at hc <;> try (cases hc; done)
    rename_i n b z hn hb hz
    split at hc <;> try (cases hc; done)
    rename_i hcc
    cases hc
    obtain ⟨x, y, rfl, h1, h2⟩ := two_args ha
    obtain ⟨k1, n1, k2, n2, rfl, rfl⟩ : ∃ k1 n1 k2 n2, x = .t (.int k1 n1) ∧ y = .t (.int k2 n2) := by
      cases x with
      | t x => cases x with
        | int k1 n1 => cases y with
          | t y => cases y with
            | int k2 n2 => exact ⟨k1, n1, k2, n2, rfl, rfl⟩
            | _ => simp [keff] at hk
          | _ => simp [keff] at hk
        | _ => simp [keff] at hk
      | _ => simp [keff] at hk
    simp only [keff, Option.some.injEq, Prod.mk.injEq] at hk
    obtain ⟨rfl, rfl, rfl⟩ := hk
    obtain ⟨c1, c2, c3, c4⟩ := hcond
    have e1 := h1.int_inv
    have e2 := h2.int_inv
    dsimp only
    rw [e1, e2]
    exact Eff.next (sound_makeSlice r ht hn hb hz hcc.2 hcc.1 c1 c2 c3 c4)
  | convert s d x =>
    rw [hop] at hc; simp only [cOp] at hc
    split at hc <;> try (cases hc; done)
    · cases hc; simp [keff] at hk
    · cases hc; simp [keff] at hk
    · split at hc <;> try (cases hc; done)
      cases hc; simp [keff] at hk
    · rename_i e0 e h1 h2
      split at hc <;> try (cases hc; done)
      rename_i he
      split at hc <;> try (cases hc; done)
      rename_i hsd
      cases hc
      subst hsd
      obtain ⟨w, rfl, hw⟩ := one_arg ha
      exact Eff.next (sound_mark r h2 he hw hk hcond)
  | move x => rw [hop] at hc; cases hc; obtain ⟨w, rfl, hw⟩ := one_arg ha; simp [keff] at hk
  | assign x => rw [hop] at hc; cases hc; obtain ⟨w, rfl, hw⟩ := one_arg ha; simp [keff] at hk
  | pick x y z => rw [hop] at hc; cases hc; simp [keff] at hk
  | unOp op t x => rw [hop] at hc; cases hc; simp [keff] at hk
  | nilCheck x => rw [hop] at hc; cases hc; simp [keff] at hk
  | extract x i => rw [hop] at hc; cases hc; simp [keff] at hk
  | load t a =>
    rw [hop] at hc; simp only [cOp] at hc
    split at hc <;> try (cases hc; done)
    all_goals (cases hc; simp [keff] at hk)
  | binOp op t x y yt =>
    rw [hop] at hc; simp only [cOp] at hc
    split at hc <;> try (cases hc; done)
    · cases hc; simp [keff] at hk
    · cases hc; simp [keff] at hk
    · cases hc; simp [keff] at hk
    all_goals
      split at hc <;> try (cases hc; done)
      rename_i k' hk'
      obtain ⟨neg, ss, rfl⟩ := cAggEq_form hk'
      cases hc
      simp [keff] at hk
  | build t ps =>
    rw [hop] at hc; simp only [cOp] at hc
    split at hc <;> try (cases hc; done)
    · split at hc <;> try (cases hc; done)
      split at hc <;> try (cases hc; done)
      cases hc; simp [keff] at hk
    · split at hc <;> try (cases hc; done)
      cases hc; simp [keff] at hk
  | fieldAddr t x i =>
    rw [hop] at hc; simp only [cOp] at hc
    split at hc <;> try (cases hc; done)
    split at hc <;> try (cases hc; done)
    split at hc <;> try (cases hc; done)
    cases hc; simp [keff] at hk
  | field t x i =>
    rw [hop] at hc; simp only [cOp] at hc
    split at hc <;> try (cases hc; done)
    split at hc <;> try (cases hc; done)
    split at hc <;> try (cases hc; done)
    all_goals (cases hc; simp [keff] at hk)
  | indexAddr t x i =>
    rw [hop] at hc; simp only [cOp] at hc
    split at hc <;> try (cases hc; done)
    · split at hc <;> try (cases hc; done)
      split at hc <;> try (cases hc; done)
      cases hc; simp [keff] at hk
    · split at hc <;> try (cases hc; done)
      cases hc; simp [keff] at hk
  | index t x i =>
    rw [hop] at hc; simp only [cOp] at hc
    split at hc <;> try (cases hc; done)
    cases hc; simp [keff] at hk
  | makeFunc fn first cap =>
    rw [hop] at hc
    cases fn with
    | func f =>
      simp only [cOp] at hc
      split at hc <;> try (cases hc; done)
      cases hc; simp [keff] at hk
    | _ => simp only [cOp, reduceCtorEq] at hc
  | slice t x lo hi mx =>
    rw [hop] at hc
    cases mx with
    | some m => simp only [cOp, reduceCtorEq] at hc
    | none =>
      simp only [cOp] at hc
      split at hc <;> try (cases hc; done)
      · split at hc <;> try (cases hc; done)
        cases hc; simp [keff] at hk
      · cases hc; simp [keff] at hk
      · split at hc <;> try (cases hc; done)
        cases hc; simp [keff] at hk
  | makeMap t rv =>
    rw [hop] at hc
    cases rv with
    | none =>
      simp only [cOp, Option.some.injEq, Prod.mk.injEq] at hc; obtain ⟨rfl, rfl⟩ := hc
      obtain rfl := All2.nil_inv ha
      simp only [keff, Option.some.injEq, Prod.mk.injEq] at hk
      obtain ⟨rfl, rfl, rfl⟩ := hk
      exact Eff.next (sound_mapNew r t)
    | some x => simp only [cOp, reduceCtorEq] at hc
  | lookup t x i ok =>
    rw [hop] at hc; simp only [cOp] at hc
    split at hc <;> try (cases hc; done)
    split at hc <;> try (cases hc; done)
    cases hc
    simp only [keff, reduceCtorEq] at hk
  | mapUpdate t m k v =>
    rw [hop] at hc; simp only [cOp] at hc
    split at hc <;> try (cases hc; done)
    rename_i kt e ht
    split at hc <;> try (cases hc; done)
    rename_i sc ss hm
    cases hc
    obtain ⟨a, b, d, rfl, h1, h2, h3⟩ := three_args ha
    obtain ⟨rfl, h⟩ := sound_mapSet r ht hm h1 h2 h3 hk hcond
    exact EffU.next h
  | _ => rw [hop] at hc; simp only [cOp, reduceCtorEq] at hc
end
end Go.Abs

/- The built-in functions are right. By the session itself. -/
namespace Go.Abs
open Go Go.RowKit
set_option linter.unusedSimpArgs false
set_option linter.unusedVariables false

section
variable {P : Program} {H H' : Heap} {μ μ' : Nat → Loc} {S S' : Nat → Prop} {W W' : World}

theorem sound_copy (r : Rel H μ S W) {ts : Array TypeId} {t ty e : TypeId} {m : Nat} (h0 : ts[0]? = some t) (ht : P.underlying t = some (.slice e)) (hm : sizeT P e = some m)
    {d x : V} {dv xv : Value} (hd : RV μ S H W d dv) (hx : RV μ S H W x xv) {ys : List T} (hel : elems H m x = some ys) {c : Prop} {v : V} {H' : Heap} (hk : kcopy H m d ys = some (c, v, H')) (hc : c) :
    Eff P H μ S W (Builtin.copy_ ts ty #[dv, xv]) v H' := by
  obtain ⟨a, cap, us, rfl, hnone, hsy, hall, hcell⟩ := elems_cells r hx hel
  have hfy := flat_length hsy
  have hul0 : us.length = ys.length * m := by rw [← hall.1]; exact hfy
  have hfirst : ∀ n, n ≤ ys.length → (Builtin.firstCells m n (.slice a ys.length cap)).run P W = .ok (us.take (n * m)).toArray W := by
    intro n hn
    have hmm : n * m ≤ ys.length * m := Nat.mul_le_mul_right _ hn
    refine run_firstCells (by simp; omega) (fun e => ?_) fun a' e i w hi => ?_
    · have := hnone e; subst this
      have : us = [] := List.length_eq_zero_iff.1 (by simpa using hul0)
      simp [this]
    · rw [List.getElem?_take] at hi
      split at hi
      · exact hcell a' e i w hi
      · cases hi
  have htake : ∀ n, n ≤ ys.length → All2 (RT S W) (flat (ys.take n)) (us.take (n * m)) := by
    intro n hn; rw [flat_take n hsy]; exact hall.take _
  have run : ∀ (base : Option Addr) (dLen dCap : Nat), (Builtin.copy_ ts ty #[.slice base dLen dCap, .slice a ys.length cap]).run P W =
      ((match base with | some a => storeCells a (us.take (min ys.length dLen * m)) | none => pure ()).run P W).andThen fun _ W' => .ok (.int .i64 ((min ys.length dLen : Nat) : Int)) W' := by
    intro base dLen dCap
    have hf := hfirst (min ys.length dLen) (Nat.min_le_left _ _)
    have hmin : Nat.min ys.length dLen = min ys.length dLen := rfl
    cases base <;> simp [Builtin.copy_, h0, run_underlying ht, run_sizeOf hm, Builtin.lenOf, hmin, hf, goInt] <;> omega
  cases d with
  | sl id off len gen sz' =>
    simp only [kcopy] at hk
    split at hk
    · rename_i s2 g xs hrow
      split at hk
      · rename_i hcond
        obtain ⟨rfl, rfl, rfl⟩ := hcond
        cases hk
        obtain ⟨hS, hsized, hcapr, hblk⟩ := r.objs id _ hrow
        have hfx := flat_length hsized
        cases hd with
        | sl ad dcap sz2 g2 xs2 hr2 hg2 hcap2 hn2 hh =>
          rw [hrow] at hr2
          simp only [rowOf, Option.some.injEq, Prod.mk.injEq] at hr2
          obtain ⟨rfl, rfl, rfl⟩ := hr2
          obtain ⟨_, hlx, ha⟩ := hh rfl
          have hmin : min ys.length len ≤ ys.length := Nat.min_le_left _ _
          have hmin2 : min ys.length len ≤ len := Nat.min_le_right _ _
          have htk : ys.take len = ys.take (min ys.length len) := by
            rcases Nat.le_total ys.length len with h | h
            · rw [Nat.min_eq_left h, List.take_of_length_le h, List.take_of_length_le (Nat.le_refl _)]
            · rw [Nat.min_eq_right h]
          have hnew := htake _ hmin
          have hnewl : (us.take (min ys.length len * sz')).length = min ys.length len * sz' := by
            have := Nat.mul_le_mul_right sz' hmin
            simp; omega
          have hput : flat (putAt xs off (ys.take len)) = putAt (flat xs) (off * sz') (flat (ys.take len)) := by
            unfold putAt
            rw [flat_append, flat_append, flat_take off hsized, flat_drop _ hsized]
            congr 2
            have := flat_length (hsy.take len)
            rw [this, Nat.add_mul]
          have hszp : Sized sz' (putAt xs off (ys.take len)) := by
            unfold putAt
            exact (hsized.take _).append ((hsy.take _).append (hsized.drop _))
          have hpl : (putAt xs off (ys.take len)).length = xs.length := putAt_length _ _ _ (by simp; omega)
          by_cases hc0 : dcap = 0
          · have hl0 : len = 0 := by omega
            subst hl0
            have hrun := run ad 0 dcap
            have hx : putAt xs off (ys.take 0) = xs := by simp [putAt]
            rw [hx]
            have hset : H.set id (.row sz' gen xs) = H := by
              apply List.ext_getElem?
              intro j
              rw [List.getElem?_set]
              by_cases h : id = j
              · subst h; rw [if_pos rfl, hrow]; obtain ⟨h, _⟩ := List.getElem?_eq_some_iff.1 hrow; simp [h]
              · rw [if_neg h]
            rw [hset]
            refine ⟨_, W, μ, S, ?_, r, .mkInt _ _, .refl _ _ _ _⟩
            rw [hrun]
            cases ad <;> simp [storeCells]
          · obtain ⟨rfl, hcc⟩ := ha hc0
            have hcr : (μ id).cap ≠ 0 := by omega
            obtain ⟨vs, tyy, fz, hw, hfz, hul, hrt⟩ := hblk hcr
            have hm1 : off * sz' + min ys.length len * sz' ≤ xs.length * sz' := by rw [← Nat.add_mul]; exact Nat.mul_le_mul_right _ (by omega)
            have hm2 : xs.length * sz' ≤ (μ id).cap * sz' := Nat.mul_le_mul_right _ hcapr
            obtain ⟨W', f1, f2, f3, f4, f5, f6, f7⟩ := run_storeCells_put (P := P) (μ id).blk tyy fz (us.take (min ys.length len * sz')) ((μ id).off + off * sz') 0 vs W hw (by omega) hfz.2 (by
              have := hnew; rw [← htk] at this; exact all2_one this (hsy.take len).one)
            have hlv : (Obj.row sz' gen xs).live (μ id) = true := by simpa [Obj.live] using hcr
            obtain ⟨μ', he, hne, r', l'⟩ := change (W' := W') (S' := S) (o' := .row sz' gen (putAt xs off (ys.take len))) r hrow (μ id) f3 f4 f5 (by omega) (fun b _ hb => f7 b fun h => hb ⟨hlv, h⟩) (fun _ h => h) (fun _ h => .inl h)
              (fun b h => by rw [f6]; exact r.size b h) ⟨rfl, .inr ⟨rfl, hpl, rfl⟩⟩ (fun _ => .inr ⟨hlv, rfl⟩)
              (fun μ' e1 e2 L => by
                refine ⟨hS, hszp, by rw [hpl]; exact hcapr, fun _ => ⟨_, tyy, fz, f2, ?_, ?_, ?_⟩⟩
                · rw [putAt_length _ _ _ (by omega)]; exact hfz
                · rw [putAt_length _ _ _ (by omega)]; exact hul
                · intro j c w hj hw'
                  have hfl2 : (flat (ys.take len)).length = min ys.length len * sz' := by rw [htk, hnew.1]; exact hnewl
                  rw [hput, putAt_get _ _ _ _ (by omega)] at hj
                  rw [putAt_get _ _ _ _ (by omega)] at hw'
                  split at hj
                  · rw [if_pos (by omega)] at hw'
                    rw [show (μ id).off + j - ((μ id).off + off * sz' + 0) = j - off * sz' by omega] at hw'
                    rw [htk] at hj
                    exact (hnew.2 _ c w hj hw').later L r
                  · rw [if_neg (by omega)] at hw'
                    exact (hrt j c w hj hw').later L r)
            refine ⟨_, W', μ', S, ?_, r', .mkInt _ _, l'⟩
            rw [run]
            simp only
            rw [f1]; rfl
      · cases hk
    · cases hk
  | bsl id off len =>
    simp only [kcopy] at hk
    split at hk
    · rename_i cs hb
      split at hk
      · rename_i hcond
        obtain ⟨rfl, hone⟩ := hcond
        cases hk
        obtain ⟨hnS, vs, tyy, hw, hvl, hr⟩ := r.objs id _ hb
        cases hd with
        | bsl ad dcap cs' hb' hcap2 hl ha =>
          rw [hb] at hb'; cases hb'
          have hmin : min ys.length len ≤ ys.length := Nat.min_le_left _ _
          have hmin2 : min ys.length len ≤ len := Nat.min_le_right _ _
          have htk : ys.take len = ys.take (min ys.length len) := by
            rcases Nat.le_total ys.length len with h | h
            · rw [Nat.min_eq_left h, List.take_of_length_le h, List.take_of_length_le (Nat.le_refl _)]
            · rw [Nat.min_eq_right h]
          have hnew := htake _ hmin
          have hflat : flat (ys.take (min ys.length len)) = ys.take (min ys.length len) := flat_ones fun z hz => by
            have := List.all_eq_true.1 hone z (List.mem_of_mem_take hz)
            cases z <;> first | rfl | cases this
          rw [hflat] at hnew
          have hnewl : (us.take (min ys.length len * 1)).length = min ys.length len := by
            rw [← hnew.1]; simp
          by_cases hc0 : len = 0
          · subst hc0
            have hx : putAt cs off ((ys.take 0).map V.t) = cs := by simp [putAt]
            rw [hx]
            have hset : H.set id (.box cs) = H := by
              apply List.ext_getElem?
              intro j
              rw [List.getElem?_set]
              by_cases h : id = j
              · subst h; rw [if_pos rfl, hb]; obtain ⟨h, _⟩ := List.getElem?_eq_some_iff.1 hb; simp [h]
              · rw [if_neg h]
            rw [hset]
            refine ⟨_, W, μ, S, ?_, r, .mkInt _ _, .refl _ _ _ _⟩
            rw [run]
            simp [storeCells]
          · have hbase := ha (by omega)
            subst hbase
            obtain ⟨W', f1, f2, f3, f4, f5, f6, f7⟩ := run_storeCells_put (P := P) (μ id).blk tyy (0, 0) (us.take (min ys.length len * 1)) off 0 vs W hw (by omega) (by simp) (all2_one hnew (by
              rw [List.all_eq_true] at hone ⊢
              exact fun z hz => hone z (List.mem_of_mem_take hz)))
            obtain ⟨μ', h1, h2, h3, h4⟩ := change (W' := W') (S' := S) (o' := .box (putAt cs off ((ys.take len).map .t))) r hb (μ id) f3 f4 f5 (by omega) (fun b _ hb => f7 b fun h => hb ⟨rfl, h⟩) (fun _ h => h) (fun _ h => .inl h)
              (fun b h => by rw [f6]; exact r.size b h) ⟨by rw [putAt_length _ _ _ (by simp; omega)], rfl⟩ (fun _ => .inr ⟨rfl, rfl⟩)
              (fun μ' e1 e2' L => by
                refine ⟨hnS, _, tyy, f2, by rw [putAt_length _ _ _ (by omega), putAt_length _ _ _ (by simp; omega)]; exact hvl, ?_⟩
                have hnew' : All2 (RT S W) (ys.take len) (us.take (min ys.length len * 1)) := by rw [htk]; exact hnew
                have hall2 := (All2.putAt (R := RV μ S H W) ⟨hvl.symm, hr⟩ (all2_t hnew') off).imp fun a b h => h.later L r
                simpa only [Nat.add_zero] using hall2.2)
            refine ⟨_, W', μ', S, ?_, h3, .mkInt _ _, h4⟩
            rw [run]
            simp only
            rw [f1]; rfl
      · cases hk
    · cases hk
  | _ => simp only [kcopy, reduceCtorEq] at hk

theorem run_call_builtin {ρ : Operand → Value} {o : Oper} {b : Builtin} {args : Array Operand} {ts : Array TypeId} (ho : o.op = .call ⟨.builtin b, args, ts⟩) :
    ∃ consts, (execOp ρ o).run P W = (builtin b ts o.type consts (args.map ρ)).run P W := by
  refine ⟨args.map fun | .const _ => true | _ => false, ?_⟩
  unfold execOp
  rw [ho]
  simp only [resolve, Sem.run_bind, Sem.run_pure, Result.andThen_ok, invoke]
  rfl

theorem toArray_of {α : Type} {a : Array α} {l : List α} (h : a.toList = l) : a = l.toArray := by rw [← h]

theorem builtin_val (r : Rel H μ S W) {o : Oper} {b : Builtin} {oargs : Array Operand} {ts : Array TypeId} (ho : o.op = .call ⟨.builtin b, oargs, ts⟩) {k : K} {xs : List Operand} (hc : cBuiltin P b ts.toList oargs.toList = some (k, xs))
    {ρ : Operand → Value} {args : List V} (ha : All2 (RV μ S H W) args (xs.map ρ)) {c : Prop} {v : V} (hk : kval H k args = some (c, v)) (hcond : c) : ∃ q, (execOp ρ o).run P W = .ok (.value q) W ∧ RV μ S H W v q := by
  obtain ⟨consts, hrun⟩ := run_call_builtin (P := P) (W := W) (ρ := ρ) ho
  rw [hrun]
  unfold cBuiltin at hc
  split at hc <;> try (cases hc; done)
  · rename_i t tl x htl hal
    have h0 : ts[0]? = some t := by rw [← Array.getElem?_toList, htl]; rfl
    have he : oargs.map ρ = #[ρ x] := by rw [toArray_of hal]; simp
    rw [he]
    split at hc <;> try (cases hc; done)
    · rename_i hu; cases hc
      obtain ⟨w, rfl, hw⟩ := one_arg ha
      exact Holds.next (sound_lenS h0 hu hw hk)
    · rename_i e hu; cases hc
      obtain ⟨w, rfl, hw⟩ := one_arg ha
      exact Holds.next (sound_len h0 hu hw hk)
    · rename_i n e hu; cases hc
      obtain ⟨w, rfl, hw⟩ := one_arg ha
      simp only [kval, Option.some.injEq, Prod.mk.injEq] at hk
      obtain ⟨rfl, rfl⟩ := hk
      exact Holds.next ⟨_, sound_lenC h0 hu _, .mkInt _ _⟩
  · rename_i x y hal
    cases hc
    have he : oargs.map ρ = #[ρ x, ρ y] := by rw [toArray_of hal]; simp
    rw [he]
    obtain ⟨v1, v2, rfl, h1, h2⟩ := two_args ha
    obtain ⟨q, e1, e2⟩ := sound_min2 (P := P) h1 h2 hk
    refine Holds.next (s := Builtin.min_ ts o.type #[ρ x, ρ y]) ⟨q, ?_, e2⟩
    simp only [Builtin.min_, List.foldlM_cons, List.foldlM_nil, Sem.run_bind, e1, Result.andThen_ok, Sem.run_pure]
  · rename_i x y hal
    cases hc
    have he : oargs.map ρ = #[ρ x, ρ y] := by rw [toArray_of hal]; simp
    rw [he]
    obtain ⟨v1, v2, rfl, h1, h2⟩ := two_args ha
    obtain ⟨q, e1, e2⟩ := sound_max2 (P := P) h1 h2 hk
    refine Holds.next (s := Builtin.max_ ts o.type #[ρ x, ρ y]) ⟨q, ?_, e2⟩
    simp only [Builtin.max_, List.foldlM_cons, List.foldlM_nil, Sem.run_bind, e1, Result.andThen_ok, Sem.run_pure]
  · split at hc <;> try (cases hc; done)
    split at hc <;> try (cases hc; done)
    split at hc <;> try (cases hc; done)
    split at hc <;> try (cases hc; done)
    · cases hc; simp [kval] at hk
    · split at hc <;> try (cases hc; done)
      cases hc; simp [kval] at hk
  · split at hc <;> try (cases hc; done)
    split at hc <;> try (cases hc; done)
    split at hc <;> try (cases hc; done)
    cases hc; simp [kval] at hk

theorem builtin_eff (r : Rel H μ S W) {o : Oper} {b : Builtin} {oargs : Array Operand} {ts : Array TypeId} (ho : o.op = .call ⟨.builtin b, oargs, ts⟩) {k : K} {xs : List Operand} (hc : cBuiltin P b ts.toList oargs.toList = some (k, xs))
    {ρ : Operand → Value} {args : List V} (ha : All2 (RV μ S H W) args (xs.map ρ)) {c : Prop} {v : V} {H' : Heap} (hk : keff H k args = some (c, v, H')) (hcond : c) :
    ∃ n q W' μ' S', (execOp ρ o).run P W = .ok n W' ∧ (n = .value q ∨ (n = .skip ∧ q = undef)) ∧ Rel H' μ' S' W' ∧ RV μ' S' H' W' v q ∧ Later H μ S W H' μ' S' W' := by
  obtain ⟨consts, hrun⟩ := run_call_builtin (P := P) (W := W) (ρ := ρ) ho
  rw [hrun]
  unfold cBuiltin at hc
  split at hc <;> try (cases hc; done)
  · split at hc <;> try (cases hc; done)
    all_goals (cases hc; simp [keff] at hk)
  · cases hc; simp [keff] at hk
  · cases hc; simp [keff] at hk
  · rename_i t u tl x y htl hal
    have h0 : ts[0]? = some t := by rw [← Array.getElem?_toList, htl]; rfl
    have h1 : ts[1]? = some u := by rw [← Array.getElem?_toList, htl]; rfl
    have he : oargs.map ρ = #[ρ x, ρ y] := by rw [toArray_of hal]; simp
    rw [he]
    split at hc <;> try (cases hc; done)
    rename_i e ht
    split at hc <;> try (cases hc; done)
    rename_i n bb z hn hb hz
    split at hc <;> try (cases hc; done)
    rename_i hcc
    split at hc <;> try (cases hc; done)
    · rename_i e' hu
      cases hc
      obtain ⟨v1, v2, rfl, e1, e2⟩ := two_args ha
      simp only [keff] at hk
      split at hk
      · rename_i ys hel
        exact Eff.next (s := Builtin.append_ ts o.type #[ρ x, ρ y]) (sound_append r h0 h1 ht (.inr ⟨e', hu⟩) hn hb hcc.2.1 ⟨z, hz, hcc.2.2⟩ e1 (src_elems r e2 hel) hk hcond)
      · cases hk
    · rename_i hu
      split at hc <;> try (cases hc; done)
      rename_i hn1
      cases hc
      obtain ⟨v1, v2, rfl, e1, e2⟩ := two_args ha
      obtain ⟨s, rfl⟩ : ∃ s, v2 = .t (.str s) := by
        cases v2 with
        | t q => cases q with
          | str s => exact ⟨s, rfl⟩
          | _ => simp [keff] at hk
        | _ => simp [keff] at hk
      simp only [keff] at hk
      have hs := e2.str_inv
      rw [hs]
      subst hn1
      exact Eff.next (s := Builtin.append_ ts o.type #[ρ x, .string s]) (sound_append r h0 h1 ht (.inl hu) hn hb hcc.2.1 ⟨z, hz, hcc.2.2⟩ e1 (src_str s) hk hcond)
  · rename_i t u tl x y htl hal
    have h0 : ts[0]? = some t := by rw [← Array.getElem?_toList, htl]; rfl
    have he : oargs.map ρ = #[ρ x, ρ y] := by rw [toArray_of hal]; simp
    rw [he]
    split at hc <;> try (cases hc; done)
    rename_i e ht
    split at hc <;> try (cases hc; done)
    rename_i n e' hn hu
    split at hc <;> try (cases hc; done)
    cases hc
    obtain ⟨v1, v2, rfl, e1, e2⟩ := two_args ha
    simp only [keff] at hk
    split at hk
    · rename_i ys hel
      exact Eff.next (s := Builtin.copy_ ts o.type #[ρ x, ρ y]) (sound_copy r h0 ht hn e1 e2 hel hk hcond)
    · cases hk
end
end Go.Abs

/- The program logic of the abstract machine, and why it is right. By the session itself. -/
namespace Go.Abs
open Go Go.RowKit
set_option linter.unusedSimpArgs false
set_option linter.unusedVariables false

structure St where
  vs : List (Nat × V)
  h : Heap

def get : List (Nat × V) → Nat → V
  | [], _ => .undef
  | (k, v) :: r, t => if k = t then v else get r t

def put (vs : List (Nat × V)) (t : Nat) (v : V) : List (Nat × V) := (t, v) :: vs

def putO (vs : List (Nat × V)) : Option Nat → V → List (Nat × V)
  | some t, v => put vs t v
  | none, _ => vs

def ev (vs : List (Nat × V)) : Opnd → V
  | .tmp t => get vs t
  | .val v => v

inductive Ex where
  | norm
  | exit (id : Nat)
  | ret

/-- What is known of calls. -/
abbrev Known := FuncId → List V → Heap → (V → Heap → Prop) → Prop

def kk (o : Option (Prop × V)) (H : Heap) (k : V → Heap → Prop) : Prop :=
  match o with
  | some (c, v) => c ∧ k v H
  | none => False

def ke (o : Option (Prop × V × Heap)) (k : V → Heap → Prop) : Prop :=
  match o with
  | some (c, v, H) => c ∧ k v H
  | none => False

def stepK (H : Heap) (op : K) (args : List V) (k : V → Heap → Prop) : Prop := if op.isEff then ke (keff H op args) k else kk (kval H op args) H k

def callV (Cl : Known) (f : V) (args : List V) (H : Heap) (k : V → Heap → Prop) : Prop :=
  match f with
  | .fn f caps => Cl f (args ++ caps) H k
  | _ => False

def wpB (Cl : Known) (b : Body) (s : St) (k : V → Heap → Prop) : Prop :=
  match b with
  | .op op xs => stepK s.h op (xs.map (ev s.vs)) k
  | .call f xs => Cl f (xs.map (ev s.vs)) s.h k
  | .callv x xs => callV Cl (ev s.vs x) (xs.map (ev s.vs)) s.h k

def guardV (v : V) (want : Bool) (yes no : Prop) : Prop :=
  match v with
  | .t (.bool q) => (q = want → yes) ∧ (q ≠ want → no)
  | _ => False

def wpR (Cl : Known) : List Ins → (St → Prop) → St → Prop
  | [], k, s => k s
  | ⟨d, none, b⟩ :: r, k, s => wpB Cl b s fun v H => wpR Cl r k ⟨putO s.vs d v, H⟩
  | ⟨d, some (t, want), b⟩ :: r, k, s => guardV (get s.vs t) want (wpB Cl b s fun v H => wpR Cl r k ⟨putO s.vs d v, H⟩) (wpR Cl r k ⟨putO s.vs d .undef, s.h⟩)

/-- The state s2 says no more than s1; the first n objects stay what they are. -/
def Weak (n : Nat) (s1 s2 : St) : Prop :=
  ∀ (H0 : Heap) μ0 S0 W0 μ S W (val : Nat → Value), H0.length ≤ n → Rel s1.h μ S W → Later H0 μ0 S0 W0 s1.h μ S W → (∀ t, RV μ S s1.h W (get s1.vs t) (val t)) →
    ∃ μ' S', Rel s2.h μ' S' W ∧ Later H0 μ0 S0 W0 s2.h μ' S' W ∧ ∀ t, RV μ' S' s2.h W (get s2.vs t) (val t)

theorem Weak.refl (n : Nat) (s : St) : Weak n s s := fun _ _ _ _ μ S _ _ _ r l h => ⟨μ, S, r, l, h⟩
theorem Weak.trans {n : Nat} {a b c : St} (h : Weak n a b) (k : Weak n b c) : Weak n a c := fun H0 μ0 S0 W0 μ S W val hn r l hv =>
  let ⟨μ', S', r', l', hv'⟩ := h H0 μ0 S0 W0 μ S W val hn r l hv
  k H0 μ0 S0 W0 μ' S' W val hn r' l' hv'

def thenK (k : St → Prop) (Q : Ex → St → Prop) : Ex → St → Prop
  | .norm, s => k s
  | .exit id, s => Q (.exit id) s
  | .ret, s => Q .ret s

def blockK (id : Nat) (Q : Ex → St → Prop) : Ex → St → Prop
  | .norm, s => Q .norm s
  | .exit i, s => if i = id then Q .norm s else Q (.exit i) s
  | .ret, s => Q .ret s

def condV (v : V) (yes no : Prop) : Prop :=
  match v with
  | .t (.bool q) => (q = true → yes) ∧ (q = false → no)
  | _ => False

def Callable (P : Program) (f : FuncId) : Prop := ∃ fn, P.funcs[f]? = some fn ∧ fn.body.isNone = false ∧ (fn.name == "runtime.NumGoroutine") = false

/-- A call, seen from the abstract machine. -/
def SCall (P : Program) (f : FuncId) (args : List V) (H : Heap) (Q : V → Heap → Prop) : Prop :=
  Callable P f ∧ ∀ μ S W (vals : List Value), Rel H μ S W → All2 (RV μ S H W) args vals →
    Calls P f vals.toArray W fun e W' => ∃ r u H' μ' S', e = .returned u ∧ Q r H' ∧ Rel H' μ' S' W' ∧ RV μ' S' H' W' r u ∧ Later H μ S W H' μ' S' W'

theorem SCall.mono {P : Program} {f : FuncId} {args : List V} {H : Heap} {Q Q' : V → Heap → Prop} (h : SCall P f args H Q) (hq : ∀ r H', Q r H' → Q' r H') : SCall P f args H Q' :=
  ⟨h.1, fun μ S W vals r ha => (h.2 μ S W vals r ha).mono fun _ _ ⟨v, u, H', μ', S', e, q, rest⟩ => ⟨v, u, H', μ', S', e, hq _ _ q, rest⟩⟩

section
variable {P : Program}

/-- A state of the machine, seen from the abstract one; it began at H0. -/
def Good (nt : Nat) (H0 : Heap) (μ0 : Nat → Loc) (S0 : Nat → Prop) (W0 : World) (s : St) (a : Act) (W : World) : Prop :=
  ∃ μ S, Rel s.h μ S W ∧ a.defers = [] ∧ a.tmps.size = nt ∧ (∀ t, RV μ S s.h W (get s.vs t) (a.tmps.getD t undef)) ∧ Later H0 μ0 S0 W0 s.h μ S W

theorem get_put (vs : List (Nat × V)) (t u : Nat) (v : V) : get (put vs t v) u = if t = u then v else get vs u := by
  rfl

theorem cOpnd_sound {μ : Nat → Loc} {S : Nat → Prop} {H : Heap} {W : World} {vs : List (Nat × V)} {a : Act} (h : ∀ t, RV μ S H W (get vs t) (a.tmps.getD t undef)) {x : Operand} {y : Opnd} (hc : cOpnd x = some y) : RV μ S H W (ev vs y) (a.eval x) := by
  have one : ∀ {v : Value} {x : T}, constT v = some x → RT S W x v := by
    intro v x hx
    have : constTs [v] = some [x] := by simp [constTs, hx]
    exact (constTs_sound (S := S) (W := W) this).2 0 x v rfl rfl
  unfold cOpnd at hc
  split at hc
  · cases hc; exact h _
  · rename_i cs
    split at hc
    · rename_i xs hx
      cases hc
      have := constTs_sound (S := S) (W := W) hx
      have h2 : RV μ S H W (.agg (xs.map .t)) (.agg cs.toList.toArray) := .mkAgg (all2_t this)
      simpa [ev, Act.eval] using h2
    · cases hc
  · split at hc
    · rename_i v _ x hx; cases hc; exact .t (one hx)
    · cases hc
  · cases hc; exact .fn [] rfl (by simp)
  · cases hc

theorem cOpnds_sound {μ : Nat → Loc} {S : Nat → Prop} {H : Heap} {W : World} {vs : List (Nat × V)} {a : Act} (h : ∀ t, RV μ S H W (get vs t) (a.tmps.getD t undef)) : ∀ {xs : List Operand} {ys : List Opnd}, cOpnds xs = some ys → All2 (RV μ S H W) (ys.map (ev vs)) (xs.map a.eval)
  | [], ys, hc => by simp only [cOpnds, Option.some.injEq] at hc; subst hc; exact .nil _
  | x :: xs, ys, hc => by
    simp only [cOpnds] at hc
    split at hc
    · rename_i y hy
      split at hc
      · rename_i ys' hys
        cases hc
        exact .cons (cOpnd_sound h hy) (cOpnds_sound h hys)
      · cases hc
    · cases hc

/-- What becomes of the state when an operation has an answer. -/
theorem good_put {nt : Nat} {H0 : Heap} {μ0 : Nat → Loc} {S0 : Nat → Prop} {W0 : World} {s : St} {a : Act} {W W' : World} {μ μ' : Nat → Loc} {S S' : Nat → Prop} {H' : Heap} {d : Option Nat} {v : V} {q : Value}
    (r : Rel s.h μ S W) (hd : a.defers = []) (hn : a.tmps.size = nt) (hv : ∀ t, RV μ S s.h W (get s.vs t) (a.tmps.getD t undef)) (l : Later H0 μ0 S0 W0 s.h μ S W)
    (r' : Rel H' μ' S' W') (hq : RV μ' S' H' W' v q) (l' : Later s.h μ S W H' μ' S' W') (hdst : dstOk d nt = true) : Good nt H0 μ0 S0 W0 ⟨putO s.vs d v, H'⟩ (a.put d q) W' := by
  refine ⟨μ', S', r', ?_, ?_, fun t => ?_, l.trans l'⟩
  · cases d <;> exact hd
  · cases d with
    | none => exact hn
    | some t => simp [Act.put, hn]
  · cases d with
    | none => exact (hv t).later l' r
    | some u =>
      simp only [putO, get_put]
      have hu : u < nt := by simpa [dstOk] using hdst
      by_cases h : u = t
      · subst h
        rw [if_pos rfl]
        have : (a.put (some u) q).tmps.getD u undef = q := by
          simp only [Act.put, Array.getD_eq_getD_getElem?, Array.getElem?_setIfInBounds]
          simp [hn, hu]
        rw [this]; exact hq
      · rw [if_neg h]
        have : (a.put (some u) q).tmps.getD t undef = a.tmps.getD t undef := by
          simp only [Act.put, Array.getD_eq_getD_getElem?, Array.getElem?_setIfInBounds]
          rw [if_neg h]
        rw [this]; exact (hv t).later l' r

theorem run_call_value {ρ : Operand → Value} {o : Oper} {x : Operand} {args : Array Operand} {ts : Array TypeId} (ho : o.op = .call ⟨.value x, args, ts⟩) {f : FuncId} {caps : Array Value} (hx : ρ x = .func (.func f) #[] caps) (hc : Callable P f) {W : World} :
    (execOp ρ o).run P W = .ok (.enter f (args.map ρ ++ caps)) W := by
  obtain ⟨fn, h1, h2, h3⟩ := hc
  unfold execOp
  rw [ho]
  simp only [resolve, hx, Deferred.ofValue, Sem.run_bind, Sem.run_pure, Result.andThen_ok, invoke, callFunc, run_program, h1, h3, h2]
  simp


/-- One operation. -/
theorem wpB_sound {Cl : Known} (hCl : ∀ f args H k, Cl f args H k → SCall P f args H k) {wr : Bool} {o : Oper} {b : Body} (hb : cBody P wr o.op = some b) {nt : Nat} {H0 : Heap} {μ0 : Nat → Loc} {S0 : Nat → Prop} {W0 : World}
    (hdst : dstOk o.dst nt = true) {s : St} {a : Act} {W : World} (hg : Good nt H0 μ0 S0 W0 s a W) {k : V → Heap → Prop} (h : wpB Cl b s k)
    {next : Act → World → Prop} {Q : Exit → Act → World → Prop} (hnext : ∀ v H' a' W', k v H' → Good nt H0 μ0 S0 W0 ⟨putO s.vs o.dst v, H'⟩ a' W' → next a' W') : o.wp P a W next Q := by
  obtain ⟨μ, S, r, hd, hn, hv, l⟩ := hg
  have effs : ∀ {op : K} {args : List V} {c : Prop} {v : V} {H' : Heap}, keff s.h op args = some (c, v, H') → c → k v H' →
      (∃ n q W' μ' S', (execOp a.eval o).run P W = .ok n W' ∧ (n = .value q ∨ (n = .skip ∧ q = undef)) ∧ Rel H' μ' S' W' ∧ RV μ' S' H' W' v q ∧ Later s.h μ S W H' μ' S' W') → o.wp P a W next Q := by
    intro op args c v H' _ hc hk ⟨n, q, W', μ', S', e1, e2, e3, e4, e5⟩
    have hgood := good_put (d := o.dst) r hd hn hv l e3 e4 e5 hdst
    unfold Oper.wp
    rw [e1]
    rcases e2 with rfl | ⟨rfl, rfl⟩
    · rw [Oper.upon_value]; exact hnext v H' _ _ hk hgood
    · rw [Oper.upon_skip]; exact hnext v H' _ _ hk hgood
  have vals : ∀ {c : Prop} {v : V}, c → k v s.h → (∃ q, (execOp a.eval o).run P W = .ok (.value q) W ∧ RV μ S s.h W v q) → o.wp P a W next Q := by
    intro c v hc hk ⟨q, e1, e2⟩
    have hgood := good_put (d := o.dst) r hd hn hv l r e2 (.refl _ _ _ _) hdst
    unfold Oper.wp
    rw [e1, Oper.upon_value]
    exact hnext v s.h _ _ hk hgood
  have call : ∀ {x : Operand} {args : Array Operand} {ts : Array TypeId} {f : FuncId} {caps : List Value} {capsV : List V} {xs : List Opnd}, o.op = .call ⟨.value x, args, ts⟩ → a.eval x = .func (.func f) #[] caps.toArray →
      All2 (RV μ S s.h W) capsV caps → cOpnds args.toList = some xs → Cl f (xs.map (ev s.vs) ++ capsV) s.h k → o.wp P a W next Q := by
    intro x args ts f caps capsV xs ho hx hcaps hxs hcl
    obtain ⟨hcallable, hcall⟩ := hCl _ _ _ _ hcl
    unfold Oper.wp
    rw [run_call_value ho hx hcallable, Oper.upon_enter]
    have hargs := (cOpnds_sound hv hxs).append hcaps
    have he : args.map a.eval ++ caps.toArray = (args.toList.map a.eval ++ caps).toArray := by apply Array.ext'; simp
    rw [he]
    refine (hcall μ S W _ r hargs).mono ?_
    rintro e W' ⟨v, u, H', μ', S', rfl, hk, r', hu, l'⟩
    exact hnext v H' _ _ hk (good_put (d := o.dst) r hd hn hv l r' hu l' hdst)
  have plain : ∀ {kk0 : K} {ys : List Operand} {xs : List Opnd}, (∀ {args : List V} {c : Prop} {v : V}, All2 (RV μ S s.h W) args (ys.map a.eval) → kval s.h kk0 args = some (c, v) → c → ∃ q, (execOp a.eval o).run P W = .ok (.value q) W ∧ RV μ S s.h W v q) →
      (∀ {args : List V} {c : Prop} {v : V} {H' : Heap}, All2 (RV μ S s.h W) args (ys.map a.eval) → keff s.h kk0 args = some (c, v, H') → c → ∃ n q W' μ' S', (execOp a.eval o).run P W = .ok n W' ∧ (n = .value q ∨ (n = .skip ∧ q = undef)) ∧ Rel H' μ' S' W' ∧ RV μ' S' H' W' v q ∧ Later s.h μ S W H' μ' S' W') →
      cOpnds ys = some xs → stepK s.h kk0 (xs.map (ev s.vs)) k → o.wp P a W next Q := by
    intro kk0 ys xs hval heff hxs hst
    have hargs := cOpnds_sound hv hxs
    unfold stepK at hst
    split at hst
    · unfold ke at hst
      split at hst
      · rename_i c v H' hk
        exact effs hk hst.1 hst.2 (heff hargs hk hst.1)
      · exact hst.elim
    · unfold kk at hst
      split at hst
      · rename_i c v hk
        exact vals hst.1 hst.2 (hval hargs hk hst.1)
      · exact hst.elim
  cases hop : o.op with
  | call cc =>
    rw [hop] at hb
    simp only [cBody] at hb
    obtain ⟨callee, cargs, cts⟩ := cc
    unfold cCall at hb
    dsimp only at hb
    split at hb
    · rename_i f
      split at hb
      · rename_i xs hxs
        cases hb
        refine call (f := f) (caps := []) (capsV := []) hop (by simp [Act.eval]) (.nil _) hxs ?_
        rw [List.append_nil]; exact h
      · cases hb
    · rename_i x _
      split at hb
      · rename_i y hy
        split at hb
        · rename_i xs hxs
          cases hb
          have hx := cOpnd_sound hv hy
          simp only [wpB] at h
          unfold callV at h
          split at h
          · rename_i f caps hf
            rw [hf] at hx
            generalize hval : a.eval x = val at hx
            cases hx with
            | fn us hl hh => exact call (caps := us) (capsV := caps) hop hval ⟨hl.symm, hh⟩ hxs h
          · exact h.elim
        · cases hb
      · cases hb
    · rename_i bb
      split at hb
      · rename_i kk0 ys hcb
        split at hb
        · rename_i xs hxs
          cases hb
          exact plain (fun ha hk hc => builtin_val r hop hcb ha hk hc) (fun ha hk hc => builtin_eff r hop hcb ha hk hc) hxs h
        · cases hb
      · cases hb
    · cases hb
  | _ =>
    have hb' : cOpBody P wr o.op = some b := by rw [hop] at hb ⊢; exact hb
    unfold cOpBody at hb'
    split at hb'
    · rename_i kk0 ys hco
      split at hb'
      · rename_i xs hxs
        cases hb'
        exact plain (fun ha hk hc => op_val r hco ha hk hc) (fun ha hk hc => op_eff r hco ha hk hc) hxs h
      · cases hb'
    · cases hb'

theorem yielded_bool {ops : Array Oper} {a : Act} {j t : Nat} (hj : (ops[j]?).bind (·.dst) = some t) {q : Bool} (ht : t < a.tmps.size) (hq : a.tmps.getD t undef = .bool q) : yielded ops a.tmps j = some q := by
  unfold yielded
  rw [hj]
  simp only [Option.bind_some]
  rw [Array.getD_eq_getD_getElem?, Array.getElem?_eq_getElem ht] at hq
  rw [Array.getElem?_eq_getElem ht]
  simp only [Option.getD_some] at hq
  rw [hq]

theorem wpR_sound {Cl : Known} (hCl : ∀ f args H k, Cl f args H k → SCall P f args H k) {wr : Bool} {nt : Nat} {ops : Array Oper} {H0 : Heap} {μ0 : Nat → Loc} {S0 : Nat → Prop} {W0 : World} {K : St → Prop} {Q : Exit → Act → World → Prop}
    (hK : ∀ s a W, K s → Good nt H0 μ0 S0 W0 s a W → Q .normal a W) : ∀ (os : List Oper) (n : Nat) (is : List Ins) (s : St) (a : Act) (W : World), ops.toList.drop n = os → cInss P wr nt ops os = some is → wpR Cl is K s → Good nt H0 μ0 S0 W0 s a W →
    wpOps P ops Q ((List.range ops.size).drop n) a W := by
  intro os
  induction os with
  | nil =>
    intro n is s a W hd hc h hg
    simp only [cInss, Option.some.injEq] at hc
    subst hc
    have : ops.size ≤ n := by
      have := congrArg List.length hd
      simp at this; omega
    rw [List.drop_of_length_le (by simpa using this)]
    exact hK s a W h hg
  | cons o os ih =>
    intro n is s a W hd hc h hg
    have hn : n < ops.size := by
      have := congrArg List.length hd
      simp at this; omega
    have hon : ops[n]? = some o := by
      rw [← Array.getElem?_toList]
      have : (ops.toList.drop n)[0]? = some o := by rw [hd]; rfl
      simpa using this
    have hdrop : (List.range ops.size).drop n = n :: (List.range ops.size).drop (n + 1) := by
      rw [List.drop_eq_getElem_cons (by simpa using hn)]; simp
    have hd' : ops.toList.drop (n + 1) = os := by
      have : ops.toList.drop (n + 1) = (ops.toList.drop n).drop 1 := by rw [List.drop_drop]
      rw [this, hd]; rfl
    simp only [cInss] at hc
    split at hc
    · rename_i i hi
      split at hc
      · rename_i is' his
        cases hc
        rw [hdrop]
        simp only [wpOps, hon]
        unfold cIns at hi
        split at hi
        · rename_i g b hgd hbd
          split at hi
          · rename_i hdst
            simp only [Option.some.injEq] at hi
            subst hi
            cases hgo : o.guard with
            | none =>
              rw [hgo] at hgd
              simp only [cGuard, Option.some.injEq] at hgd
              subst hgd
              simp only [wpR] at h
              rw [if_pos (by simp [Region.wanted, hgo])]
              refine .inl (wpB_sound hCl hbd hdst hg h fun v H' a' W' hk hg' => ih (n + 1) is' _ a' W' hd' his hk hg')
            | some jw =>
              obtain ⟨j, want⟩ := jw
              rw [hgo] at hgd
              simp only [cGuard] at hgd
              split at hgd
              · rename_i t ht
                simp only [Option.some.injEq] at hgd
                subst hgd
                simp only [wpR] at h
                unfold guardV at h
                split at h
                · rename_i q hq
                  obtain ⟨μ, S, r, hdd, hnn, hv, l⟩ := hg
                  have hvt := hv t
                  rw [hq] at hvt
                  have hbool := hvt.bool_inv
                  have htl : t < a.tmps.size := by
                    rcases Nat.lt_or_ge t a.tmps.size with h | h
                    · exact h
                    · rw [Array.getD_eq_getD_getElem?, Array.getElem?_eq_none h] at hbool
                      cases hbool
                  have hy := yielded_bool ht htl hbool
                  by_cases hqw : q = want
                  · rw [if_pos (by simp [Region.wanted, hgo, hy, hqw])]
                    exact .inl (wpB_sound hCl hbd hdst ⟨μ, S, r, hdd, hnn, hv, l⟩ (h.1 hqw) fun v H' a' W' hk hg' => ih (n + 1) is' _ a' W' hd' his hk hg')
                  · rw [if_neg (by simp [Region.wanted, hgo, hy, hqw])]
                    exact ih (n + 1) is' _ _ W hd' his (h.2 hqw) (good_put (d := o.dst) r hdd hnn hv l r (.undef _) (.refl _ _ _ _) hdst)
                · exact h.elim
              · cases hgd
          · cases hi
        · cases hi
      · cases hc
    · cases hc

end
end Go.Abs

/- Drawn regions: whatever order is drawn, the plan says what comes of it. By the session itself. -/
namespace Go.Abs
open Go Go.RowKit
set_option linter.unusedSimpArgs false
set_option linter.unusedVariables false

/-- A reading instruction gives again what stands in its slot. -/
def flo (i : Ins) (s : St) : Prop :=
  match i with
  | ⟨some d, none, .op k xs⟩ => stepK s.h k (xs.map (ev s.vs)) fun v _ => v = get s.vs d
  | ⟨some d, some (t, w), .op k xs⟩ => guardV (get s.vs t) w (stepK s.h k (xs.map (ev s.vs)) fun v _ => v = get s.vs d) (get s.vs d = .undef)
  | _ => False

def flos : List Ins → St → Prop → Prop
  | [], _, q => q
  | i :: is, s, q => flo i s ∧ flos is s q

def wpP (Cl : Known) : Plan → (St → Prop) → St → Prop
  | .fin, K, s => K s
  | .val i p, K, s => wpR Cl [i] (wpP Cl p K) s
  | .eff i fl p, K, s => wpR Cl [i] (fun s' => flos fl s' (wpP Cl p K s')) s
  | .alt p q, K, s => wpP Cl p K s ∧ wpP Cl q K s

theorem flos_spec {s : St} {q : Prop} : ∀ {is : List Ins}, flos is s q → q ∧ ∀ i ∈ is, flo i s
  | [], h => ⟨h, fun _ h => by cases h⟩
  | i :: is, h => ⟨(flos_spec h.2).1, fun j hj => by
      cases hj with
      | head => exact h.1
      | tail _ hj => exact (flos_spec h.2).2 j hj⟩

theorem kval_heap {H H' : Heap} {k : K} {args : List V} (h : k.reads = false) : kval H k args = kval H' k args := by
  unfold kval
  split <;> first | rfl | (exact absurd h (by simp [K.reads])) | skip

theorem ev_agree {m vs : List (Nat × V)} {x : Opnd} (h : ∀ t ∈ x.uses, get m t = get vs t) : ev m x = ev vs x := by
  cases x with
  | tmp t => exact h t (by simp [Opnd.uses])
  | val v => rfl

theorem evs_agree {m vs : List (Nat × V)} {xs : List Opnd} (h : ∀ t ∈ xs.flatMap Opnd.uses, get m t = get vs t) : xs.map (ev m) = xs.map (ev vs) :=
  List.map_congr_left fun x hx => ev_agree fun t ht => h t (List.mem_flatMap.2 ⟨x, hx, ht⟩)

theorem wpB_agree {Cl : Known} {b : Body} {m vs : List (Nat × V)} {H : Heap} {k : V → Heap → Prop} (h : ∀ t ∈ b.uses, get m t = get vs t) : wpB Cl b ⟨m, H⟩ k = wpB Cl b ⟨vs, H⟩ k := by
  cases b with
  | op op xs => simp only [wpB]; rw [evs_agree h]
  | call f xs => simp only [wpB]; rw [evs_agree h]
  | callv x xs =>
    simp only [wpB]
    rw [evs_agree fun t ht => h t (by simp only [Body.uses, List.mem_append]; exact .inr ht), ev_agree fun t ht => h t (by simp only [Body.uses, List.mem_append]; exact .inl ht)]

theorem get_putO_some (vs : List (Nat × V)) (d t : Nat) (v : V) : get (putO vs (some d) v) t = if d = t then v else get vs t := get_put vs d t v

section
variable {P : Program} {Cl : Known}

/-- One operation of a region. -/
theorem op_sound (hCl : ∀ f args H k, Cl f args H k → SCall P f args H k) {wr : Bool} {nt : Nat} {ops : Array Oper} {H0 : Heap} {μ0 : Nat → Loc} {S0 : Nat → Prop} {W0 : World} {K : St → Prop} {Q : Exit → Act → World → Prop}
    {i : Nat} {o : Oper} {ins : Ins} (hi : ops[i]? = some o) (hins : cIns P wr nt ops o = some ins) {m vs : List (Nat × V)} {H : Heap} {a : Act} {W : World} (hg : Good nt H0 μ0 S0 W0 ⟨m, H⟩ a W)
    (huse : ∀ t ∈ ins.uses, get m t = get vs t) (h : wpR Cl [ins] K ⟨vs, H⟩) {N : Act → World → Prop}
    (hnext : ∀ v H' a' W', K ⟨putO vs ins.dst v, H'⟩ → Good nt H0 μ0 S0 W0 ⟨putO m ins.dst v, H'⟩ a' W' → N a' W') : wpOp P ops Q i N a W := by
  unfold wpOp
  rw [hi]
  unfold cIns at hins
  split at hins
  · rename_i g b hgd hbd
    split at hins
    · rename_i hdst
      simp only [Option.some.injEq] at hins
      subst hins
      have hb : ∀ t ∈ b.uses, get m t = get vs t := fun t ht => huse t (by simp only [Ins.uses, List.mem_append]; exact .inr ht)
      cases hgo : o.guard with
      | none =>
        rw [hgo] at hgd
        simp only [cGuard, Option.some.injEq] at hgd
        subst hgd
        simp only [wpR] at h
        dsimp only
        rw [if_pos (by simp [Region.wanted, hgo])]
        rw [← wpB_agree hb] at h
        exact .inl (wpB_sound hCl hbd hdst hg h fun v H' a' W' hk hg' => hnext v H' a' W' hk hg')
      | some jw =>
        obtain ⟨j, want⟩ := jw
        rw [hgo] at hgd
        simp only [cGuard] at hgd
        split at hgd
        · rename_i t ht
          simp only [Option.some.injEq] at hgd
          subst hgd
          simp only [wpR] at h
          unfold guardV at h
          split at h
          · rename_i q hq
            dsimp only
            have hq' : get m t = .t (.bool q) := (huse t (by simp [Ins.uses])).trans hq
            obtain ⟨μ, S, r, hdd, hnn, hv, l⟩ := hg
            have hvt := hv t
            simp only [hq'] at hvt
            have hbool := hvt.bool_inv
            have htl : t < a.tmps.size := by
              rcases Nat.lt_or_ge t a.tmps.size with h | h
              · exact h
              · rw [Array.getD_eq_getD_getElem?, Array.getElem?_eq_none h] at hbool
                cases hbool
            have hy := yielded_bool ht htl hbool
            by_cases hqw : q = want
            · rw [if_pos (by simp [Region.wanted, hgo, hy, hqw])]
              have h1 := h.1 hqw
              rw [← wpB_agree hb] at h1
              exact .inl (wpB_sound hCl hbd hdst ⟨μ, S, r, hdd, hnn, hv, l⟩ h1 fun v H' a' W' hk hg' => hnext v H' a' W' hk hg')
            · rw [if_neg (by simp [Region.wanted, hgo, hy, hqw])]
              exact hnext .undef H _ W (h.2 hqw) (good_put (d := o.dst) r hdd hnn hv l r (.undef _) (.refl _ _ _ _) hdst)
          · exact h.elim
        · cases hgd
    · cases hins
  · cases hins

theorem stepK_quiet {H : Heap} {k : K} {args : List V} {q : V → Heap → Prop} (hk : k.isEff = false) (h : stepK H k args q) : ∃ v, q v H ∧ ∀ q', q' v H → stepK H k args q' := by
  unfold stepK at h ⊢
  simp only [hk, Bool.false_eq_true, if_false] at h ⊢
  unfold kk at h ⊢
  split at h
  · rename_i c v hv
    exact ⟨v, h.2, fun q' hq => ⟨h.1, hq⟩⟩
  · exact h.elim

/-- A reading instruction, done early. -/
theorem val_step {ins : Ins} {K : St → Prop} {vs : List (Nat × V)} {H : Heap} {d : Nat} (hq : ins.quiet = true) (hd : ins.dst = some d) (hu : d ∉ ins.uses) (h : wpR Cl [ins] K ⟨vs, H⟩) :
    ∃ v, K ⟨putO vs (some d) v, H⟩ ∧ flo ins ⟨putO vs (some d) v, H⟩ := by
  obtain ⟨dst, g, b⟩ := ins
  simp only at hd
  subst hd
  cases b with
  | op k xs =>
    have hk : k.isEff = false := by simpa [Ins.quiet] using hq
    have same : ∀ v, xs.map (ev (putO vs (some d) v)) = xs.map (ev vs) := fun v => evs_agree fun t ht => by
      rw [get_putO_some, if_neg]
      rintro rfl
      exact hu (by simp only [Ins.uses, Body.uses, List.mem_append]; exact .inr ht)
    cases g with
    | none =>
      simp only [wpR, wpB] at h
      obtain ⟨v, h1, h2⟩ := stepK_quiet hk h
      refine ⟨v, h1, ?_⟩
      simp only [flo]
      rw [same v]
      exact h2 _ (by rw [get_putO_some, if_pos rfl])
    | some tw =>
      obtain ⟨t, w⟩ := tw
      have htd : d ≠ t := by
        rintro rfl
        exact hu (by simp [Ins.uses])
      simp only [wpR, wpB] at h
      unfold guardV at h
      split at h
      · rename_i q hq
        by_cases hqw : q = w
        · obtain ⟨v, h1, h2⟩ := stepK_quiet hk (h.1 hqw)
          refine ⟨v, h1, ?_⟩
          simp only [flo]
          rw [get_putO_some, if_neg htd, hq, same v, get_putO_some, if_pos rfl]
          exact ⟨fun _ => h2 _ rfl, fun hn => absurd hqw hn⟩
        · refine ⟨.undef, h.2 hqw, ?_⟩
          simp only [flo]
          rw [get_putO_some, if_neg htd, hq, get_putO_some, if_pos rfl]
          exact ⟨fun hn => absurd hn hqw, fun _ => rfl⟩
      · exact h.elim
  | call f xs => simp [Ins.quiet] at hq
  | callv f xs => simp [Ins.quiet] at hq

theorem flo_run {ins : Ins} {vs : List (Nat × V)} {H : Heap} {d : Nat} (hq : ins.quiet = true) (hd : ins.dst = some d) (h : flo ins ⟨vs, H⟩) :
    wpR Cl [ins] (fun s => s.h = H ∧ get s.vs d = get vs d) ⟨vs, H⟩ := by
  obtain ⟨dst, g, b⟩ := ins
  simp only at hd
  subst hd
  cases b with
  | op k xs =>
    have hk : k.isEff = false := by simpa [Ins.quiet] using hq
    cases g with
    | none =>
      simp only [flo] at h
      obtain ⟨v, h1, h2⟩ := stepK_quiet hk h
      simp only [wpR, wpB]
      refine h2 _ ⟨rfl, ?_⟩
      rw [get_putO_some, if_pos rfl, h1]
    | some tw =>
      obtain ⟨t, w⟩ := tw
      simp only [flo] at h
      simp only [wpR, wpB]
      unfold guardV at h ⊢
      split
      · rename_i q hq
        rw [hq] at h
        refine ⟨fun e => ?_, fun e => ⟨trivial, ?_⟩⟩
        · obtain ⟨v, h1, h2⟩ := stepK_quiet hk (h.1 e)
          refine h2 _ ⟨rfl, ?_⟩
          rw [get_putO_some, if_pos rfl, h1]
        · rw [get_putO_some, if_pos rfl, h.2 e]
      · rename_i hx
        split at h
        · rename_i q hq; exact hx q hq
        · exact h
  | call f xs => simp [Ins.quiet] at hq
  | callv f xs => simp [Ins.quiet] at hq

theorem flo_agree {ins : Ins} {m vs : List (Nat × V)} {H H' : Heap} (hq : ins.quiet = true) (hn : ∀ t ∈ ins.names, get m t = get vs t) (hH : H' = H ∨ ins.reads = false) (h : flo ins ⟨vs, H⟩) : flo ins ⟨m, H'⟩ := by
  obtain ⟨dst, g, b⟩ := ins
  cases b with
  | op k xs =>
    have hk : k.isEff = false := by simpa [Ins.quiet] using hq
    have hxs : xs.map (ev m) = xs.map (ev vs) := evs_agree fun t ht => hn t (by simp only [Ins.names, Ins.uses, Body.uses, List.mem_append]; exact .inr (.inr ht))
    have step : ∀ q : V → Prop, stepK H k (xs.map (ev vs)) (fun v _ => q v) → stepK H' k (xs.map (ev m)) (fun v _ => q v) := by
      intro q h
      rw [hxs]
      unfold stepK at h ⊢
      simp only [hk, Bool.false_eq_true, if_false] at h ⊢
      rcases hH with rfl | hr
      · exact h
      · rw [kval_heap (H' := H) (by simpa [Ins.reads] using hr)]
        unfold kk at h ⊢
        split at h
        · exact h
        · exact h.elim
    cases dst with
    | none => cases g <;> exact h.elim
    | some d =>
      have hd : get m d = get vs d := hn d (by simp [Ins.names])
      cases g with
      | none =>
        simp only [flo] at h ⊢
        rw [hd]
        exact step _ h
      | some tw =>
        obtain ⟨t, w⟩ := tw
        have ht : get m t = get vs t := hn t (by simp [Ins.names, Ins.uses])
        simp only [flo] at h ⊢
        rw [hd, ht]
        unfold guardV at h ⊢
        split
        · rename_i q hq
          rw [hq] at h
          exact ⟨fun e => step _ (h.1 e), h.2⟩
        · rename_i hx
          split at h
          · rename_i q hq; exact hx q hq
          · exact h
  | call f xs => simp [Ins.quiet] at hq
  | callv f xs => simp [Ins.quiet] at hq

end
end Go.Abs

/- Drawn regions: the plan is right. By the session itself. -/
namespace Go.Abs
open Go Go.RowKit
set_option linter.unusedSimpArgs false
set_option linter.unusedVariables false

section
variable {P : Program} {Cl : Known}

theorem altsOf_spec {g : Nat → Option Plan} {K : St → Prop} {s : St} : ∀ {es : List Nat} {p : Plan}, altsOf g es = some p → wpP Cl p K s → ∀ e ∈ es, ∃ pe, g e = some pe ∧ wpP Cl pe K s
  | [], _, h, _, e, he => by cases he
  | [x], p, h, hp, e, he => by
    simp only [List.mem_singleton] at he
    subst he
    exact ⟨p, h, hp⟩
  | x :: y :: es, p, h, hp, e, he => by
    simp only [altsOf] at h
    split at h
    · rename_i p1 q1 h1 h2
      cases h
      cases he with
      | head => exact ⟨p1, h1, hp.1⟩
      | tail _ he => exact altsOf_spec h2 hp.2 e he
    · cases h

structure DS (P : Program) (wr : Bool) (nt : Nat) (ops : Array Oper) (ds : List DI) : Prop where
  len : ds.length = ops.size
  ins : ∀ (i : Nat) (o : Oper) (d : DI), ops[i]? = some o → ds[i]? = some d → cIns P wr nt ops o = some d.ins ∧ d.dir = dirOf o
  ok : disOk ds = true

theorem isVal_spec {ds : List DI} {j : Nat} (h : isVal ds j = true) : ∃ d t, ds[j]? = some d ∧ d.ins.quiet = true ∧ d.ins.dst = some t ∧ t ∉ d.ins.uses ∧
    ∀ i e, i ≠ j → ds[i]? = some e → t ∈ e.ins.names → j ∈ e.pre := by
  unfold isVal at h
  split at h
  · rename_i d hd
    simp only [Bool.and_eq_true] at h
    obtain ⟨h1, h2⟩ := h
    split at h2
    · rename_i t ht
      simp only [Bool.and_eq_true, List.all_eq_true, List.mem_range, Bool.not_eq_true', List.contains_eq_mem, decide_eq_false_iff_not, Bool.or_eq_true, beq_iff_eq] at h2
      refine ⟨d, t, hd, h1, ht, h2.1, ?_⟩
      intro i e hij he hm
      have hi : i < ds.length := (List.getElem?_eq_some_iff.1 he).1
      have := h2.2 i hi
      rw [he] at this
      simp only [Bool.or_eq_true, Bool.not_eq_true', decide_eq_false_iff_not, decide_eq_true_eq] at this
      rcases this with h | h | h
      · exact absurd h hij
      · exact absurd hm h
      · exact h
    · cases h2
  · cases h

theorem effOk_spec {ds : List DI} {j : Nat} {d : DI} {t : Nat} (h : effOk ds j = true) (hd : ds[j]? = some d) (ht : d.ins.dst = some t) :
    ∀ i e, i ≠ j → ds[i]? = some e → t ∈ e.ins.names → j ∈ e.pre ∨ i ∈ d.pre := by
  unfold effOk at h
  rw [hd] at h
  simp only [ht, List.all_eq_true, List.mem_range, Bool.or_eq_true, beq_iff_eq] at h
  intro i e hij he hm
  have hi : i < ds.length := (List.getElem?_eq_some_iff.1 he).1
  have := h i hi
  rw [he] at this
  simp only [Bool.or_eq_true, Bool.not_eq_true', List.contains_eq_mem, decide_eq_false_iff_not, decide_eq_true_eq] at this
  rcases this with h | (h | h) | h
  · exact absurd h hij
  · exact absurd hm h
  · exact .inl h
  · exact .inr h

variable {wr : Bool} {nt : Nat} {ops : Array Oper} {ds : List DI}

theorem DS.pre (D : DS P wr nt ops ds) {j : Nat} {d : DI} (hd : ds[j]? = some d) : (∀ k ∈ d.dir, k < j) ∧ ∀ i ∈ d.pre, i ∈ d.dir ∨ ∃ k ∈ d.dir, ∃ e, ds[k]? = some e ∧ i ∈ e.pre := by
  have h := D.ok
  simp only [disOk, List.all_eq_true, List.mem_range, Bool.and_eq_true] at h
  have := (h j (List.getElem?_eq_some_iff.1 hd).1).2
  unfold preOk at this
  rw [hd] at this
  simp only [Bool.and_eq_true, List.all_eq_true, decide_eq_true_eq, Bool.or_eq_true, List.contains_eq_mem, List.any_eq_true] at this
  refine ⟨this.1, fun i hi => ?_⟩
  rcases this.2 i hi with h | ⟨k, hk, h⟩
  · exact .inl h
  · split at h
    · rename_i e he
      exact .inr ⟨k, hk, e, he, by simpa using h⟩
    · cases h

theorem DS.eff (D : DS P wr nt ops ds) {j : Nat} (hj : j < ds.length) : isVal ds j = true ∨ effOk ds j = true := by
  have h := D.ok
  simp only [disOk, List.all_eq_true, List.mem_range, Bool.and_eq_true, Bool.or_eq_true] at h
  exact (h j hj).1

variable {H0 : Heap} {μ0 : Nat → Loc} {S0 : Nat → Prop} {W0 : World}

/-- The machine has still to do what todo says; the plan has gone on to done. -/
structure Inv (ds : List DI) (nt : Nat) (H0 : Heap) (μ0 : Nat → Loc) (S0 : Nat → Prop) (W0 : World) (done todo : List Nat) (s : St) (a : Act) (W : World) : Prop where
  closed : ∀ i d, i ∈ done → ds[i]? = some d → ∀ j ∈ d.pre, j ∈ done
  mclosed : ∀ i d, i ∉ todo → ds[i]? = some d → ∀ j ∈ d.pre, j ∉ todo
  lt : ∀ i ∈ todo, i < ds.length
  sub : ∀ i, i < ds.length → i ∉ done → i ∈ todo
  pend : ∀ i, i ∈ todo → i ∈ done → isVal ds i = true ∧ ∃ d, ds[i]? = some d ∧ flo d.ins s
  good : ∃ m, Good nt H0 μ0 S0 W0 ⟨m, s.h⟩ a W ∧ ∀ t, (∀ i d, i ∈ todo → i ∈ done → ds[i]? = some d → d.ins.dst ≠ some t) → get m t = get s.vs t

theorem isReady_spec {done : List Nat} {i : Nat} (h : isReady ds done i = true) : i ∉ done ∧ ∃ d, ds[i]? = some d ∧ ∀ j ∈ d.pre, j ∈ done := by
  unfold isReady at h
  simp only [Bool.and_eq_true, Bool.not_eq_true', List.contains_eq_mem, decide_eq_false_iff_not] at h
  refine ⟨h.1, ?_⟩
  have h2 := h.2
  split at h2
  · rename_i d hd
    exact ⟨d, hd, fun j hj => by simpa using (List.all_eq_true.1 h2) j hj⟩
  · cases h2

theorem isReady_of {done : List Nat} {i : Nat} {d : DI} (h : i ∉ done) (hd : ds[i]? = some d) (hp : ∀ j ∈ d.pre, j ∈ done) : isReady ds done i = true := by
  unfold isReady
  rw [hd]
  simp only [Bool.and_eq_true, Bool.not_eq_true', List.contains_eq_mem, decide_eq_false_iff_not]
  exact ⟨h, List.all_eq_true.2 fun j hj => by simpa using hp j hj⟩

/-- All that can be read is read. -/
theorem settle (D : DS P wr nt ops ds) {K : St → Prop} {todo : List Nat} {a : Act} {W : World} : ∀ f done p s, mkPlan ds f done = some p → wpP Cl p K s → Inv ds nt H0 μ0 S0 W0 done todo s a W →
    ∃ f' done' p' s', mkPlan ds (f' + 1) done' = some p' ∧ (List.range ds.length).find? (fun i => isReady ds done' i && isVal ds i) = none ∧ wpP Cl p' K s' ∧ Inv ds nt H0 μ0 S0 W0 done' todo s' a W := by
  intro f
  induction f with
  | zero => intro done p s h; cases h
  | succ f ih =>
    intro done p s h hp hI
    cases hf : (List.range ds.length).find? (fun i => isReady ds done i && isVal ds i) with
    | none => exact ⟨f, done, p, s, h, hf, hp, hI⟩
    | some j =>
      have hj := List.find?_some hf
      simp only [Bool.and_eq_true] at hj
      simp only [mkPlan, hf] at h
      split at h
      · rename_i d p1 hd hp1
        cases h
        obtain ⟨hnd, d', hd', hpre⟩ := isReady_spec hj.1
        rw [hd] at hd'; cases hd'
        obtain ⟨d', t, hd', hq, ht, hu, hval⟩ := isVal_spec hj.2
        rw [hd] at hd'; cases hd'
        obtain ⟨v, hK, hflo⟩ := val_step hq ht hu hp
        refine ih _ p1 _ hp1 hK ?_
        have hnames : ∀ i e, i ∈ done → ds[i]? = some e → ∀ u ∈ e.ins.names, get (putO s.vs (some t) v) u = get s.vs u := by
          intro i e hi he u hu'
          rw [get_putO_some, if_neg]
          rintro rfl
          exact hnd (hI.closed i e hi he j (hval i e (by rintro rfl; exact hnd hi) he hu'))
        refine ⟨?_, hI.mclosed, hI.lt, fun i hi hn => hI.sub i hi fun h => hn (List.mem_cons_of_mem _ h), ?_, ?_⟩
        · intro i e hi he k hk
          cases hi with
          | head =>
            rw [hd] at he; cases he
            exact List.mem_cons_of_mem _ (hpre k hk)
          | tail _ hi => exact List.mem_cons_of_mem _ (hI.closed i e hi he k hk)
        · intro i hi hin
          cases hin with
          | head => exact ⟨hj.2, d, hd, hflo⟩
          | tail _ hin =>
            obtain ⟨h1, e, he, h2⟩ := hI.pend i hi hin
            obtain ⟨e', t', he', hq', _⟩ := isVal_spec h1
            rw [he] at he'; cases he'
            exact ⟨h1, e, he, flo_agree hq' (hnames i e hin he) (.inl rfl) h2⟩
        · obtain ⟨m, hg, hm⟩ := hI.good
          refine ⟨m, hg, fun u hu' => ?_⟩
          have htu : t ≠ u := by
            rintro rfl
            exact hu' j d (hI.sub j (List.getElem?_eq_some_iff.1 hd).1 hnd) (List.mem_cons_self ..) hd ht
          rw [get_putO_some, if_neg htu]
          exact hm u fun i e hi hin he => hu' i e hi (List.mem_cons_of_mem _ hin) he
      · cases h

theorem names_uses {i : Ins} {t : Nat} (h : t ∈ i.uses) : t ∈ i.names := by simp [Ins.names, h]

/-- Whatever the machine does next keeps the relation. -/
theorem plan_sound (hCl : ∀ f args H k, Cl f args H k → SCall P f args H k) (D : DS P wr nt ops ds) {K : St → Prop} {Q : Exit → Act → World → Prop} (hK : ∀ s a W, K s → Good nt H0 μ0 S0 W0 s a W → Q .normal a W) :
    ∀ (fuel f : Nat) (done todo : List Nat) (p : Plan) (L : Array Bool) (s : St) (a : Act) (W : World), mkPlan ds f done = some p → wpP Cl p K s → Inv ds nt H0 μ0 S0 W0 done todo s a W →
      todo.length = fuel → todo.Nodup → L.size = ops.size → (∀ i, i < L.size → L.getD i true = decide (i ∉ todo)) → wpAny P .any ops Q fuel L a W := by
  intro fuel
  induction fuel with
  | zero =>
    intro f done todo p L s a W h hp hI hlen hnd hsz hL
    have ht : todo = [] := List.length_eq_zero_iff.1 hlen
    subst ht
    have hall : ∀ i, i < ds.length → i ∈ done := fun i hi => by
      by_cases hin : i ∈ done
      · exact hin
      · exact absurd (hI.sub i hi hin) (by simp)
    obtain ⟨f', done', p', s', h', hf', hp', hI'⟩ := settle D f done p s h hp hI
    have hall' : ∀ i, i < ds.length → i ∈ done' := fun i hi => by
      by_cases hin : i ∈ done'
      · exact hin
      · exact absurd (hI'.sub i hi hin) (by simp)
    unfold wpAny
    refine ⟨?_, ?_⟩
    · unfold Region.ready
      rw [List.filter_eq_nil_iff]
      intro i hi
      have hi' : i < L.size := by rw [hsz]; simpa using hi
      rw [hL i hi']
      simp
    · have : p' = .fin := by
        simp only [mkPlan, hf'] at h'
        rw [if_pos (List.all_eq_true.2 fun i hi => by simpa using hall' i (by simpa using hi))] at h'
        exact (Option.some.inj h').symm
      subst this
      obtain ⟨m, hg, hm⟩ := hI'.good
      refine hK s' a W hp' ?_
      obtain ⟨μ, S, r, h1, h2, h3, h4⟩ := hg
      exact ⟨μ, S, r, h1, h2, fun t => (hm t (by simp)) ▸ h3 t, h4⟩
  | succ fuel ih =>
    intro f done todo p L s a W h hp hI hlen hnd hsz hL
    obtain ⟨f, done, p, s, h, hf, hp, hI⟩ : ∃ f' done' p' s', mkPlan ds (f' + 1) done' = some p' ∧ (List.range ds.length).find? (fun i => isReady ds done' i && isVal ds i) = none ∧ wpP Cl p' K s' ∧ Inv ds nt H0 μ0 S0 W0 done' todo s' a W := settle D f done p s h hp hI
    have hLf : ∀ k, k < L.size → L.getD k false = L.getD k true := fun k hk => by simp [Array.getD, hk]
    unfold wpAny
    refine ⟨?_, ?_⟩
    · intro hnil
      exfalso
      have hne : todo ≠ [] := by rintro rfl; simp at hlen
      -- the least of todo is ready
      have least : ∃ i ∈ todo, ∀ j ∈ todo, i ≤ j := by
        have : ∀ (l : List Nat), l ≠ [] → ∃ i ∈ l, ∀ j ∈ l, i ≤ j := by
          intro l
          induction l with
          | nil => intro h; exact absurd rfl h
          | cons x l ihl =>
            intro _
            by_cases hl : l = []
            · subst hl; exact ⟨x, by simp, by simp⟩
            · obtain ⟨i, hi, hmin⟩ := ihl hl
              by_cases hxi : x ≤ i
              · refine ⟨x, by simp, fun j hj => ?_⟩
                cases hj with
                | head => exact Nat.le_refl _
                | tail _ hj => exact Nat.le_trans hxi (hmin j hj)
              · refine ⟨i, by simp [hi], fun j hj => ?_⟩
                cases hj with
                | head => omega
                | tail _ hj => exact hmin j hj
        exact this todo hne
      obtain ⟨i, hi, hmin⟩ := least
      have hil : i < ops.size := D.len ▸ hI.lt i hi
      have : i ∈ Region.ready .any ops L := by
        unfold Region.ready
        rw [List.mem_filter]
        refine ⟨by simpa using hil, ?_⟩
        have ho : ops[i]? = some ops[i] := Array.getElem?_eq_getElem hil
        have hdl : i < ds.length := hI.lt i hi
        have hd : ds[i]? = some ds[i] := List.getElem?_eq_getElem hdl
        have hdir := (D.ins i _ _ ho hd).2
        rw [hL i (hsz ▸ hil), ho]
        simp only [Option.map_some, Option.getD_some, Bool.and_eq_true, Bool.not_eq_true', decide_eq_false_iff_not, Classical.not_not]
        refine ⟨hi, ?_⟩
        rw [Array.all_eq_true']
        intro e he
        by_cases hb : Region.binds .any e = true
        · have hm : e.on ∈ ds[i].dir := by
            rw [hdir]
            exact List.mem_map.2 ⟨e, List.mem_filter.2 ⟨Array.mem_toList_iff.2 he, hb⟩, rfl⟩
          have hlt := (D.pre hd).1 _ hm
          have hkl : e.on < L.size := by rw [hsz]; omega
          rw [hLf _ hkl, hL _ hkl]
          have : e.on ∉ todo := fun h => by have := hmin _ h; omega
          simp [this]
        · simp [hb]
      rw [hnil] at this
      cases this
    · intro i hi
      unfold Region.ready at hi
      rw [List.mem_filter] at hi
      obtain ⟨hil, hi⟩ := hi
      have hil : i < ops.size := by simpa using hil
      have ho : ops[i]? = some ops[i] := Array.getElem?_eq_getElem hil
      have hdl : i < ds.length := by rw [D.len]; exact hil
      obtain ⟨d, hd⟩ : ∃ d, ds[i]? = some d := ⟨_, List.getElem?_eq_getElem hdl⟩
      obtain ⟨hins, hdir⟩ := D.ins i _ _ ho hd
      rw [hL i (hsz ▸ hil), ho] at hi
      simp only [Option.map_some, Option.getD_some, Bool.and_eq_true, Bool.not_eq_true', decide_eq_false_iff_not, Classical.not_not] at hi
      obtain ⟨hit, hedges⟩ := hi
      rw [Array.all_eq_true'] at hedges
      have hdirs : ∀ k ∈ d.dir, k ∉ todo := by
        intro k hk
        rw [hdir] at hk
        obtain ⟨e, he, rfl⟩ := List.mem_map.1 hk
        obtain ⟨he, hb⟩ := List.mem_filter.1 he
        have h2 := hedges e (Array.mem_toList_iff.1 he)
        have hlt : e.on < i := (D.pre hd).1 _ (by rw [hdir]; exact hk)
        have hkl : e.on < L.size := by rw [hsz]; omega
        rw [hb, hLf _ hkl, hL _ hkl] at h2
        simpa using h2
      have hpres : ∀ k ∈ d.pre, k ∉ todo := by
        intro k hk
        rcases (D.pre hd).2 k hk with h | ⟨j, hj, e, he, hke⟩
        · exact hdirs k h
        · exact hI.mclosed j e (hdirs j hj) he k hke
      obtain ⟨m, hg, hm⟩ := hI.good
      have herase : ∀ j, j ∈ todo.erase i ↔ j ≠ i ∧ j ∈ todo := fun j => hnd.mem_erase_iff
      have hlen' : (todo.erase i).length = fuel := by rw [List.length_erase_of_mem hit]; omega
      have hL' : ∀ j, j < (L.setIfInBounds i true).size → (L.setIfInBounds i true).getD j true = decide (j ∉ todo.erase i) := by
        intro j hj
        have hj' : j < L.size := by simpa using hj
        have e1 : (L.setIfInBounds i true).getD j true = if i = j then true else L.getD j true := by
          rw [Array.getD_eq_getD_getElem?, Array.getElem?_setIfInBounds]
          by_cases hij : i = j
          · subst hij
            rw [if_pos rfl, if_pos hj', if_pos rfl]
            rfl
          · rw [if_neg hij, if_neg hij, Array.getD_eq_getD_getElem?]
        rw [e1]
        by_cases hij : i = j
        · subst hij; rw [if_pos rfl]; simp [herase]
        · rw [if_neg hij, hL j hj']
          have : (j ∈ todo.erase i) ↔ j ∈ todo := by rw [herase]; exact ⟨fun h => h.2, fun h => ⟨fun e => hij e.symm, h⟩⟩
          simp [this]
      have hsz' : (L.setIfInBounds i true).size = ops.size := by simpa using hsz
      -- slots that the operation looks at are as the plan says
      have huses : ∀ t ∈ d.ins.uses, (i ∈ done → d.ins.dst ≠ some t) → get m t = get s.vs t := by
        intro t ht hself
        refine hm t fun j e hj hjd he hte => ?_
        by_cases hji : j = i
        · subst hji
          rw [hd] at he; cases he
          exact hself hjd hte
        · obtain ⟨hv, _⟩ := hI.pend j hj hjd
          obtain ⟨e', t', he', _, ht', _, hval⟩ := isVal_spec hv
          rw [he] at he'; cases he'
          rw [hte] at ht'; cases ht'
          exact hpres j (hval i d (fun h => hji h.symm) hd (names_uses ht)) hj
      have mcl : ∀ j e, j ∉ todo.erase i → ds[j]? = some e → ∀ k ∈ e.pre, k ∉ todo.erase i := by
        intro j e hj he k hk hke
        rw [herase] at hke
        by_cases hji : j = i
        · subst hji
          rw [hd] at he; cases he
          exact hpres k hk hke.2
        · exact hI.mclosed j e (fun h => hj ((herase j).2 ⟨hji, h⟩)) he k hk hke.2
      by_cases hdone : i ∈ done
      · -- it was read early
        obtain ⟨hv, d', hd', hflo⟩ := hI.pend i hit hdone
        rw [hd] at hd'; cases hd'
        obtain ⟨d', t, hd', hq, ht, hu, hval⟩ := isVal_spec hv
        rw [hd] at hd'; cases hd'
        refine op_sound hCl ho hins hg (fun u hu' => huses u hu' fun _ h => hu (by rw [ht] at h; cases h; exact hu')) (flo_run (vs := s.vs) hq ht hflo) ?_
        rintro v H' a' W' ⟨hH, hv'⟩ hg'
        rw [ht] at hg' hv'
        dsimp only at hH hv'
        subst hH
        rw [get_putO_some, if_pos rfl] at hv'
        refine ih (f + 1) done (todo.erase i) p _ s a' W' h hp ⟨hI.closed, mcl, fun j hj => hI.lt j ((herase j).1 hj).2, ?_, fun j hj => hI.pend j ((herase j).1 hj).2, ?_⟩ hlen' (hnd.erase i) hsz' hL'
        · intro j hj hjn
          exact (herase j).2 ⟨by rintro rfl; exact hjn hdone, hI.sub j hj hjn⟩
        · refine ⟨_, hg', fun u hu' => ?_⟩
          rw [get_putO_some]
          by_cases htu : t = u
          · subst htu; rw [if_pos rfl, hv']
          · rw [if_neg htu]
            refine hm u fun j e hj hjd he hje => ?_
            by_cases hji : j = i
            · subst hji
              rw [hd] at he; cases he
              rw [ht] at hje; cases hje
              exact htu rfl
            · exact hu' j e ((herase j).2 ⟨hji, hj⟩) hjd he hje
      · -- an effect
        have hpd : ∀ k ∈ d.pre, k ∈ done := by
          intro k hk
          by_cases hkd : k ∈ done
          · exact hkd
          · by_cases hkl : k < ds.length
            · exact absurd (hI.sub k hkl hkd) (hpres k hk)
            · exfalso
              -- predecessors are operations
              have : ∀ (n j : Nat) (e : DI), j ≤ n → ds[j]? = some e → ∀ k ∈ e.pre, k < ds.length := by
                intro n
                induction n with
                | zero =>
                  intro j e hj he k hk
                  rcases (D.pre he).2 k hk with h | ⟨x, hx, _⟩
                  · have := (D.pre he).1 k h; omega
                  · have := (D.pre he).1 x hx; omega
                | succ n ihn =>
                  intro j e hj he k hk
                  have hjl := (List.getElem?_eq_some_iff.1 he).1
                  rcases (D.pre he).2 k hk with h | ⟨x, hx, e', he', hk'⟩
                  · have := (D.pre he).1 k h; omega
                  · have := (D.pre he).1 x hx
                    exact ihn x e' (by omega) he' k hk'
              exact hkl (this i i d (Nat.le_refl _) hd k hk)
        have hready := isReady_of hdone hd hpd
        have hnv : isVal ds i ≠ true := by
          intro hv
          have := List.find?_eq_none.1 hf i (by simpa using hdl)
          simp [hready, hv] at this
        have heff : effOk ds i = true := (D.eff hdl).resolve_left hnv
        have halt := h
        simp only [mkPlan, hf] at halt
        rw [if_neg (by
          intro hall
          exact hdone (by simpa using List.all_eq_true.1 hall i (by simpa using hdl)))] at halt
        obtain ⟨pe, hpe, hwp⟩ := altsOf_spec halt hp i (List.mem_filter.2 ⟨by simpa using hdl, hready⟩)
        rw [hd] at hpe
        split at hpe
        · rename_i d' p1 hd' hp1
          cases hd'
          cases hpe
          refine op_sound hCl ho hins hg (fun u hu' => huses u hu' fun h => absurd h hdone) hwp ?_
          rintro v H' a' W' hfl hg'
          obtain ⟨hwp1, hfls⟩ := flos_spec hfl
          -- slots of what is pending are not written
          have hnames : ∀ j e, j ∈ todo → j ∈ done → ds[j]? = some e → ∀ u ∈ e.ins.names, get (putO s.vs d.ins.dst v) u = get s.vs u := by
            intro j e hj hjd he u hu'
            cases hdst : d.ins.dst with
            | none => rfl
            | some t =>
              rw [get_putO_some, if_neg]
              rintro rfl
              rcases effOk_spec heff hd hdst j e (by rintro rfl; exact hdone hjd) he hu' with h | h
              · exact hdone (hI.closed j e hjd he i h)
              · exact hpres j h hj
          refine ih f (i :: done) (todo.erase i) p1 _ _ a' W' hp1 hwp1 ⟨?_, mcl, fun j hj => hI.lt j ((herase j).1 hj).2, ?_, ?_, ?_⟩ hlen' (hnd.erase i) hsz' hL'
          · intro j e hj he k hk
            cases hj with
            | head =>
              rw [hd] at he; cases he
              exact List.mem_cons_of_mem _ (hpd k hk)
            | tail _ hj => exact List.mem_cons_of_mem _ (hI.closed j e hj he k hk)
          · intro j hj hjn
            refine (herase j).2 ⟨by rintro rfl; exact hjn (List.mem_cons_self ..), hI.sub j hj fun h => hjn (List.mem_cons_of_mem _ h)⟩
          · intro j hj hjd
            obtain ⟨hji, hj⟩ := (herase j).1 hj
            have hjd : j ∈ done := by
              cases hjd with
              | head => exact absurd rfl hji
              | tail _ h => exact h
            obtain ⟨hv, e, he, hflo⟩ := hI.pend j hj hjd
            refine ⟨hv, e, he, ?_⟩
            obtain ⟨e', t', he', hq', _⟩ := isVal_spec hv
            rw [he] at he'; cases he'
            by_cases hr : e.ins.reads = true
            · refine hfls _ ?_
              unfold floatsOf
              refine List.mem_map.2 ⟨(e, j), List.mem_filter.2 ⟨?_, ?_⟩, rfl⟩
              · rw [List.mem_zipIdx_iff_getElem?]; exact he
              · simp only [Bool.and_eq_true, List.contains_eq_mem, decide_eq_true_eq, Bool.not_eq_true', decide_eq_false_iff_not]
                exact ⟨⟨⟨hjd, hv⟩, hr⟩, fun hm => hpres j hm hj⟩
            · exact flo_agree hq' (hnames j e hj hjd he) (.inr (by simpa using hr)) hflo
          · refine ⟨_, hg', fun u hu' => ?_⟩
            have pendold : ∀ j e, j ∈ todo → j ∈ done → ds[j]? = some e → e.ins.dst ≠ some u := fun j e hj hjd he =>
              hu' j e ((herase j).2 ⟨by rintro rfl; exact hdone hjd, hj⟩) (List.mem_cons_of_mem _ hjd) he
            cases hdst : d.ins.dst with
            | none => exact hm u pendold
            | some t =>
              rw [get_putO_some, get_putO_some]
              split
              · rfl
              · exact hm u pendold
        · cases hpe

theorem mkDIs_get : ∀ {is : List Ins} {ds ps : List (List Nat)} {i : Nat} {d : DI}, (mkDIs is ds ps)[i]? = some d → is[i]? = some d.ins ∧ ds[i]? = some d.dir
  | i :: is, d :: ds, p :: ps, 0, e, h => by
    simp only [mkDIs, List.getElem?_cons_zero, Option.some.injEq] at h
    subst h
    exact ⟨rfl, rfl⟩
  | i :: is, d :: ds, p :: ps, n + 1, e, h => by
    simp only [mkDIs, List.getElem?_cons_succ] at h ⊢
    exact mkDIs_get h
  | [], _, _, _, _, h => by simp [mkDIs] at h
  | _ :: _, [], _, _, _, h => by simp [mkDIs] at h
  | _ :: _, _ :: _, [], _, _, h => by simp [mkDIs] at h

theorem cInss_get {os : List Oper} : ∀ {os' : List Oper} {is : List Ins} {i : Nat} {o : Oper} {x : Ins}, cInss P wr nt ops os' = some is → os'[i]? = some o → is[i]? = some x → cIns P wr nt ops o = some x := by
  intro os'
  induction os' with
  | nil => intro is i o x h ho; simp at ho
  | cons y ys ih =>
    intro is i o x h ho hx
    simp only [cInss] at h
    split at h
    · rename_i z hz
      split at h
      · rename_i zs hzs
        cases h
        cases i with
        | zero =>
          simp only [List.getElem?_cons_zero, Option.some.injEq] at ho hx
          subst ho hx
          exact hz
        | succ i =>
          simp only [List.getElem?_cons_succ] at ho hx
          exact ih hzs ho hx
      · cases h
    · cases h

/-- A drawn region. -/
theorem wpP_sound (hCl : ∀ f args H k, Cl f args H k → SCall P f args H k) {is : List Ins} {p : Plan} (his : cInss P wr nt ops ops.toList = some is) (hp : cDraw is ops = some p) {K : St → Prop} {Q : Exit → Act → World → Prop}
    (hK : ∀ s a W, K s → Good nt H0 μ0 S0 W0 s a W → Q .normal a W) {s : St} {a : Act} {W : World} (h : wpP Cl p K s) (hg : Good nt H0 μ0 S0 W0 s a W) :
    wpAny P .any ops Q ops.size (Array.replicate ops.size false) a W := by
  unfold cDraw at hp
  dsimp only at hp
  split at hp
  · rename_i hc
    obtain ⟨hlen, hok⟩ := hc
    have D : DS P wr nt ops (mkDIs is (ops.toList.map dirOf) (presOf [] (ops.toList.map dirOf))) := by
      refine ⟨hlen, ?_, hok⟩
      intro i o d ho hd
      obtain ⟨h1, h2⟩ := mkDIs_get hd
      refine ⟨cInss_get (os := []) his (by rw [Array.getElem?_toList]; exact ho) h1, ?_⟩
      rw [List.getElem?_map, Array.getElem?_toList, ho] at h2
      exact (Option.some.inj h2).symm
    refine plan_sound hCl D hK ops.size _ [] (List.range ops.size) p _ s a W hp h ?_ (by simp) List.nodup_range (by simp) ?_
    · refine ⟨by simp, ?_, ?_, ?_, by simp, ⟨s.vs, hg, fun t _ => rfl⟩⟩
      · intro i d hi hd
        exfalso
        apply hi
        rw [List.mem_range, ← hlen]
        exact (List.getElem?_eq_some_iff.1 hd).1
      · intro i hi; rw [hlen]; simpa using hi
      · intro i hi _; rw [hlen] at hi; simpa using hi
    · intro i hi
      have : i < ops.size := by simpa using hi
      simp [Array.getD, this]
  · cases hp

end
end Go.Abs

/- Whole bodies: the logic for control, and why it is right. By the session itself. -/
namespace Go.Abs
open Go Go.RowKit
set_option linter.unusedSimpArgs false
set_option linter.unusedVariables false

def wpC (Cl : Known) (n : Nat) : Cd → (Ex → St → Prop) → St → Prop
  | .skip, Q, s => Q .norm s
  | .rgn is, Q, s => wpR Cl is (Q .norm) s
  | .rgnD p, Q, s => wpP Cl p (Q .norm) s
  | .seq a b, Q, s => wpC Cl n a (thenK (wpC Cl n b Q) Q) s
  | .cond c a b, Q, s => condV (ev s.vs c) (wpC Cl n a Q s) (wpC Cl n b Q s)
  | .block id c, Q, s => wpC Cl n c (blockK id Q) s
  | .loop c, Q, s => ∃ (I : Nat → St → Prop) (m : Nat) (s0 : St), Weak n s s0 ∧ I m s0 ∧ ∀ m s, I m s → wpC Cl n c (thenK (fun s' => ∃ m' s'', m' < m ∧ Weak n s' s'' ∧ I m' s'') Q) s
  | .exit id, Q, s => Q (.exit id) s
  | .ret, Q, s => Q .ret s

section
variable {P : Program}

def exRel : Ex → Exit → Prop
  | .norm, .normal => True
  | .exit i, .exit j => i = j
  | .ret, .ret => True
  | _, _ => False

/-- The abstract exits, as the machine's. -/
def lift (nt : Nat) (H0 : Heap) (μ0 : Nat → Loc) (S0 : Nat → Prop) (W0 : World) (Q : Ex → St → Prop) (e : Exit) (a : Act) (W : World) : Prop := ∃ x s, exRel x e ∧ Q x s ∧ Good nt H0 μ0 S0 W0 s a W

theorem good_weak {nt : Nat} {H0 : Heap} {μ0 : Nat → Loc} {S0 : Nat → Prop} {W0 : World} {s s' : St} {a : Act} {W : World} {n : Nat} (hn : H0.length ≤ n) (h : Weak n s s') (hg : Good nt H0 μ0 S0 W0 s a W) : Good nt H0 μ0 S0 W0 s' a W := by
  obtain ⟨μ, S, r, hd, hs, hv, l⟩ := hg
  obtain ⟨μ', S', r', l', hv'⟩ := h H0 μ0 S0 W0 μ S W _ hn r l hv
  exact ⟨μ', S', r', hd, hs, hv', l'⟩

theorem Later.bump {H : Heap} {μ : Nat → Loc} {S : Nat → Prop} {W W' : World} (hh : W'.heap = W.heap) (ho : W'.os = W.os) (ht : W'.tape = W.tape) (hp : W'.output = W.output) : Later H μ S W H μ S W' :=
  ⟨ho, ht, hp, by rw [hh]; exact Nat.le_refl _, fun _ o h => ⟨o, h, o.to_refl _⟩, fun _ _ _ => by rw [hh], fun _ h => h, fun _ _ h => .inl h, fun _ h => .inr ⟨h, rfl⟩⟩

theorem Rel.bump {H : Heap} {μ : Nat → Loc} {S : Nat → Prop} {W W' : World} (hh : W'.heap = W.heap) (l : Later H μ S W H μ S W') (r : Rel H μ S W) : Rel H μ S W' := by
  refine ⟨fun id o ho => ?_, r.inj, fun b hb => by rw [hh]; exact r.size b hb⟩
  have row : ∀ {l sz xs}, RowAt S W l sz xs → RowAt S W' l sz xs := by
    intro l sz xs h
    refine ⟨h.1, h.2.1, fun hc => ?_⟩
    obtain ⟨us, ty, fz, h1, h2, h3, h4⟩ := h.2.2 hc
    exact ⟨us, ty, fz, by rw [hh]; exact h1, h2, h3, fun i c u hc hu => (h4 i c u hc hu).mono (fun _ h => h) fun b _ => by rw [hh]⟩
  have := r.objs id o ho
  cases o with
  | box cs =>
    obtain ⟨h0, us, ty, h1, h2, h3⟩ := this
    exact ⟨h0, us, ty, by rw [hh]; exact h1, h2, fun i c u hc hu => (h3 i c u hc hu).later l r⟩
  | row sz g xs => exact ⟨this.1, row this.2⟩
  | frz sz g xs => exact ⟨this.1, row this.2⟩
  | map es =>
    obtain ⟨h0, ms, cl, h1, h2, h3⟩ := this
    exact ⟨h0, ms, cl, by rw [hh]; exact h1, h2, fun i e m he hm => ⟨(h3 i e m he hm).1.mono (fun _ h => h) fun b _ => by rw [hh], (h3 i e m he hm).2.mono (fun _ h => h) fun b _ => by rw [hh]⟩⟩

theorem Good.drawn {nt : Nat} {H0 : Heap} {μ0 : Nat → Loc} {S0 : Nat → Prop} {W0 : World} {s : St} {a : Act} {W : World} (hg : Good nt H0 μ0 S0 W0 s a W) : Good nt H0 μ0 S0 W0 s a { W with drawn := W.drawn + 1 } := by
  obtain ⟨μ, S, r, hd, hs, hv, l⟩ := hg
  have l' : Later s.h μ S W s.h μ S { W with drawn := W.drawn + 1 } := Later.bump rfl rfl rfl rfl
  exact ⟨μ, S, Rel.bump (W := W) rfl l' r, hd, hs, fun t => (hv t).later l' r, l.trans l'⟩

theorem wpC_sound {Cl : Known} (hCl : ∀ f args H k, Cl f args H k → SCall P f args H k) {muts : List Nat} {nt n : Nat} {H0 : Heap} {μ0 : Nat → Loc} {S0 : Nat → Prop} {W0 : World} (hn : H0.length ≤ n) :
    ∀ (c : Code) (c' : Cd), cCode P muts nt c = some c' → ∀ (Q : Ex → St → Prop) (s : St), wpC Cl n c' Q s → ∀ (a : Act) (W : World), Good nt H0 μ0 S0 W0 s a W → c.wp P (lift nt H0 μ0 S0 W0 Q) a W := by
  intro c
  induction c with
  | skip => intro c' hc Q s h a W hg; cases hc; exact wp_skip ⟨.norm, s, trivial, h, hg⟩
  | exit id => intro c' hc Q s h a W hg; cases hc; exact wp_exit ⟨.exit id, s, rfl, h, hg⟩
  | ret => intro c' hc Q s h a W hg; cases hc; exact wp_ret ⟨.ret, s, trivial, h, hg⟩
  | region id ops draw =>
    intro c' hc Q s h a W hg
    cases draw with
    | true =>
      simp only [cCode] at hc
      split at hc
      · rename_i is his
        split at hc
        · rename_i p hp
          split at hc
          · rename_i hm
            cases hc
            refine wp_region_any hm ?_
            exact wpP_sound hCl his hp (Q := lift nt H0 μ0 S0 W0 Q) (fun s a W hk hg => ⟨.norm, s, trivial, hk, hg⟩) h hg.drawn
          · cases hc
        · cases hc
      · cases hc
    | false =>
      simp only [cCode] at hc
      split at hc
      · rename_i is his
        cases hc
        refine wp_region ?_
        have := wpR_sound (P := P) hCl (K := Q .norm) (Q := lift nt H0 μ0 S0 W0 Q) (fun s a W hk hg => ⟨.norm, s, trivial, hk, hg⟩) ops.toList 0 is s a W (by simp) his h hg
        simpa using this
      · cases hc
  | seq x y ihx ihy =>
    intro c' hc Q s h a W hg
    simp only [cCode] at hc
    split at hc
    · rename_i x' y' hx hy
      cases hc
      refine wp_seq (wp_mono (ihx _ hx _ s h a W hg) ?_)
      rintro e a' W' ⟨ex, s', he, hq, hg'⟩
      cases ex <;> cases e <;> try exact he.elim
      · exact ihy _ hy Q s' hq a' W' hg'
      · exact ⟨_, s', he, hq, hg'⟩
      · exact ⟨.ret, s', trivial, hq, hg'⟩
    · cases hc
  | cond z x y ihx ihy =>
    intro c' hc Q s h a W hg
    simp only [cCode] at hc
    split at hc
    · rename_i z' x' y' hz hx hy
      cases hc
      simp only [wpC] at h
      unfold condV at h
      split at h
      · rename_i q hq
        have hv := hg
        obtain ⟨μ, S, r, hd, hnn, hv, l⟩ := hv
        have hz' := cOpnd_sound hv hz
        rw [hq] at hz'
        refine wp_cond hz'.bool_inv ?_
        cases q with
        | true => exact ihx _ hx Q s (h.1 rfl) a W hg
        | false => exact ihy _ hy Q s (h.2 rfl) a W hg
      · exact h.elim
    · cases hc
  | block id x ih =>
    intro c' hc Q s h a W hg
    simp only [cCode] at hc
    split at hc
    · rename_i x' hx
      cases hc
      refine wp_block (wp_mono (ih _ hx _ s h a W hg) ?_)
      rintro e a' W' ⟨ex, s', he, hq, hg'⟩
      cases ex <;> cases e <;> try exact he.elim
      · exact ⟨.norm, s', trivial, hq, hg'⟩
      · rename_i i j
        simp only [exRel] at he
        subst he
        simp only [Exit.inBlock]
        simp only [blockK] at hq
        split
        · rename_i hi; rw [if_pos hi] at hq; exact ⟨.norm, s', trivial, hq, hg'⟩
        · rename_i hi; rw [if_neg hi] at hq; exact ⟨.exit i, s', rfl, hq, hg'⟩
      · exact ⟨.ret, s', trivial, hq, hg'⟩
    · cases hc
  | loop x ih =>
    intro c' hc Q s h a W hg
    simp only [cCode] at hc
    split at hc
    · rename_i x' hx
      cases hc
      obtain ⟨I, m, s0, hw, hI, hstep⟩ := h
      have hg0 := good_weak hn hw hg
      clear hw hg
      intro b k cs
      have key : ∀ m s a W, I m s → Good nt H0 μ0 S0 W0 s a W →
          ∃ e a' w', lift nt H0 μ0 S0 W0 Q e a' w' ∧ Arrives P (lone (b.at a (.code x :: .inLoop x :: k)) cs W) b k cs e a' w' := by
        intro m
        induction m using Nat.strongRecOn with
        | _ m ihm =>
          intro s a W hI hg
          obtain ⟨e, a₁, w₁, hq, harr⟩ := ih _ hx _ s (hstep m s hI) a W hg b (.inLoop x :: k) cs
          obtain ⟨ex, s', he, hq, hg'⟩ := hq
          cases ex <;> cases e <;> try exact he.elim
          · obtain ⟨m', s'', hlt, hw, hI'⟩ := hq
            obtain ⟨e₂, a₂, w₂, hq₂, harr₂⟩ := ihm m' hlt s'' a₁ w₁ hI' (good_weak hn hw hg')
            exact ⟨e₂, a₂, w₂, hq₂, .of_steps (Steps.trans harr (.one step_inLoop)) harr₂⟩
          · exact ⟨.exit _, a₁, w₁, ⟨_, s', he, hq, hg'⟩, .pass (x := .inLoop x) rfl (fun _ _ => .inl (by simp)) harr⟩
          · exact ⟨.ret, a₁, w₁, ⟨.ret, s', trivial, hq, hg'⟩, .pass (x := .inLoop x) rfl (fun _ _ => .inl (by simp)) harr⟩
      obtain ⟨e, a', w', hq, harr⟩ := key m s0 a W hI hg0
      exact ⟨e, a', w', hq, .of_steps (.one step_loop) harr⟩
    · cases hc
  | _ => intro c' hc; simp [cCode] at hc

end
end Go.Abs

/- Functions: entry and return; what may be forgotten; how a call sees less of the heap. By the session itself. -/
namespace Go.Abs
open Go Go.RowKit
set_option linter.unusedSimpArgs false
set_option linter.unusedVariables false

def initVs : Nat → List V → List (Nat × V)
  | _, [] => []
  | i, v :: vs => (i, v) :: initVs (i + 1) vs

def resOne (H : Heap) (vs : List (Nat × V)) : Res → Option (Prop × V)
  | .tmp t => some (True, get vs t)
  | .cell t _ true => kload1 H (get vs t)
  | .cell t n false => kloadN n H (get vs t)

def resAll (H : Heap) (vs : List (Nat × V)) : List Res → Option (Prop × List V)
  | [] => some (True, [])
  | r :: rs => match resOne H vs r with
    | some (c, v) => match resAll H vs rs with
      | some (c', l) => some (c ∧ c', v :: l)
      | none => none
    | none => none

def resV (H : Heap) (vs : List (Nat × V)) (rs : List Res) : Option (Prop × V) :=
  match rs with
  | [r] => resOne H vs r
  | rs => match resAll H vs rs with
    | some (c, l) => some (c, .tup l)
    | none => none

/-- The end of a function: its result, and what is forgotten. -/
def finK (n : Nat) (rs : List Res) (Q : V → Heap → Prop) (s : St) : Prop :=
  match resV s.h s.vs rs with
  | some (c, v) => c ∧ ∃ v' H', Weak n ⟨[(0, v)], s.h⟩ ⟨[(0, v')], H'⟩ ∧ Q v' H'
  | none => False

def exitK (n : Nat) (rs : List Res) (Q : V → Heap → Prop) : Ex → St → Prop
  | .norm, s => finK n rs Q s
  | .ret, s => finK n rs Q s
  | .exit _, _ => False

section
variable {P : Program}

theorem get_initVs : ∀ (args : List V) (i t : Nat), get (initVs i args) t = if i ≤ t then args.getD (t - i) .undef else .undef
  | [], i, t => by simp [initVs, get]
  | v :: vs, i, t => by
    simp only [initVs, get, get_initVs vs (i + 1) t]
    by_cases h : i = t
    · subst h; simp
    · rw [if_neg h]
      by_cases h2 : i + 1 ≤ t
      · rw [if_pos h2, if_pos (by omega)]
        obtain ⟨k, rfl⟩ : ∃ k, t = i + 1 + k := ⟨t - (i + 1), by omega⟩
        rw [show i + 1 + k - (i + 1) = k by omega, show i + 1 + k - i = k + 1 by omega]; rfl
      · rw [if_neg h2, if_neg (by omega)]

def resSem (tmps : Array Value) : ResultVar → Sem Value
  | .tmp t => pure (tmps.getD t undef)
  | .cell p t => do loadVar t (← asAddr (tmps.getD p undef))

theorem resOne_sound {H : Heap} {μ : Nat → Loc} {S : Nat → Prop} {W : World} (r : Rel H μ S W) {vs : List (Nat × V)} {a : Act} (hv : ∀ t, RV μ S H W (get vs t) (a.tmps.getD t undef)) {rv : ResultVar} {rs : List ResultVar} {ls : List Res}
    (hc : cRes P (rv :: rs) = some ls) : ∃ l ls', ls = l :: ls' ∧ cRes P rs = some ls' ∧ ∀ {c : Prop} {v : V}, resOne H vs l = some (c, v) → c →
      ∃ q, (resSem a.tmps rv).run P W = .ok q W ∧ RV μ S H W v q := by
  cases rv with
  | tmp t =>
    simp only [cRes] at hc
    split at hc <;> cases hc
    rename_i l hl
    refine ⟨_, l, rfl, hl, ?_⟩
    intro c v h hcond
    simp only [resOne, Option.some.injEq, Prod.mk.injEq] at h
    obtain ⟨rfl, rfl⟩ := h
    exact ⟨_, rfl, hv t⟩
  | cell p t =>
    simp only [cRes] at hc
    split at hc <;> try (cases hc; done)
    · rename_i n l ha hn hl
      cases hc
      refine ⟨_, l, rfl, hl, ?_⟩
      intro c v h hcond
      simp only [resOne] at h
      obtain ⟨q, h1, h2⟩ := sound_loadN (P := P) r ha hn (hv p) h hcond
      obtain ⟨cs, hp, _, _⟩ := kloadN_pcells h hcond
      obtain ⟨ad, us, hu, _⟩ := ptr_cells r (hv p) hp
      refine ⟨q, ?_, h2⟩
      rw [hu] at h1
      simp only [Instr.loadAt, Instr.sureAddr, Sem.run_bind, Sem.run_pure, Result.andThen_ok] at h1
      simp only [resSem, hu, asAddr, Sem.run_bind, Sem.run_pure, Result.andThen_ok, h1]
    · rename_i l ha hn hl
      cases hc
      refine ⟨_, l, rfl, hl, ?_⟩
      intro c v h hcond
      simp only [resOne] at h
      obtain ⟨q, h1, h2⟩ := sound_load1 (P := P) r ha (hv p) h hcond
      obtain ⟨cs, hp, _⟩ := kload1_pcells h hcond
      obtain ⟨ad, us, hu, _⟩ := ptr_cells r (hv p) hp
      refine ⟨q, ?_, h2⟩
      rw [hu] at h1
      simp only [Instr.loadAt, Instr.sureAddr, Sem.run_bind, Sem.run_pure, Result.andThen_ok] at h1
      simp only [resSem, hu, asAddr, Sem.run_bind, Sem.run_pure, Result.andThen_ok, h1]

theorem resAll_sound {H : Heap} {μ : Nat → Loc} {S : Nat → Prop} {W : World} (r : Rel H μ S W) {vs : List (Nat × V)} {a : Act} (hv : ∀ t, RV μ S H W (get vs t) (a.tmps.getD t undef)) : ∀ {rs : List ResultVar} {ls : List Res},
    cRes P rs = some ls → ∀ {c : Prop} {l : List V}, resAll H vs ls = some (c, l) → c →
      ∃ qs : List Value, (rs.mapM (m := Sem) (resSem a.tmps)).run P W = .ok qs W ∧ All2 (RV μ S H W) l qs
  | [], ls, hc, c, l, h, hcond => by
    simp only [cRes, Option.some.injEq] at hc
    subst hc
    simp only [resAll, Option.some.injEq, Prod.mk.injEq] at h
    obtain ⟨rfl, rfl⟩ := h
    exact ⟨[], by simp, .nil _⟩
  | rv :: rs, ls, hc, c, l, h, hcond => by
    obtain ⟨x, ls', rfl, hc', hx⟩ := resOne_sound (P := P) r hv hc
    simp only [resAll] at h
    split at h
    · rename_i c1 v1 h1
      split at h
      · rename_i c2 l2 h2
        cases h
        obtain ⟨q, e1, e2⟩ := hx h1 hcond.1
        obtain ⟨qs, e3, e4⟩ := resAll_sound r hv hc' h2 hcond.2
        refine ⟨q :: qs, ?_, .cons e2 e4⟩
        simp only [List.mapM_cons, Sem.run_bind]
        rw [e1]
        simp only [Result.andThen_ok]
        rw [e3]
        simp only [Result.andThen_ok, Sem.run_pure]
      · cases h
    · cases h

theorem resV_sound {fn : Func} {H : Heap} {μ : Nat → Loc} {S : Nat → Prop} {W : World} (r : Rel H μ S W) {vs : List (Nat × V)} {a : Act} (hv : ∀ t, RV μ S H W (get vs t) (a.tmps.getD t undef)) {ls : List Res} (hc : cRes P fn.results.toList = some ls)
    {c : Prop} {v : V} (h : resV H vs ls = some (c, v)) (hcond : c) : ∃ q, (results fn a.tmps).run P W = .ok q W ∧ RV μ S H W v q := by
  have hres : results fn a.tmps = (do
      let vs ← fn.results.mapM (m := Sem) (resSem a.tmps)
      pure (if h : vs.size = 1 then vs[0] else .tuple vs)) := rfl
  have hlist : ∀ {qs : List Value}, (fn.results.toList.mapM (m := Sem) (resSem a.tmps)).run P W = .ok qs W → (results fn a.tmps).run P W = .ok (if h : qs.toArray.size = 1 then qs.toArray[0] else .tuple qs.toArray) W := by
    intro qs hqs
    have : (fn.results.mapM (m := Sem) (resSem a.tmps)) = (do pure (← fn.results.toList.mapM (m := Sem) (resSem a.tmps)).toArray) := by
      rw [Array.mapM_eq_mapM_toList]; rfl
    rw [hres, this]
    simp only [Sem.run_bind, hqs, Result.andThen_ok, Sem.run_pure]
  have gen : ∀ {l : List V}, c → resAll H vs ls = some (c, l) → fn.results.toList.length ≠ 1 → ∃ q, (results fn a.tmps).run P W = .ok q W ∧ RV μ S H W (.tup l) q := by
    intro l hc' hl hne
    obtain ⟨qs, e1, e2⟩ := resAll_sound (P := P) r hv hc hl hc'
    refine ⟨.tuple qs.toArray, ?_, .tup qs e2.1.symm e2.2⟩
    rw [hlist e1]
    have hlen : ∀ {rs : List ResultVar} {ls : List Res}, cRes P rs = some ls → ls.length = rs.length := by
      intro rs
      induction rs with
      | nil => intro ls h; simp only [cRes, Option.some.injEq] at h; subst h; rfl
      | cons rv rs ih =>
        intro ls h
        cases rv with
        | tmp t =>
          simp only [cRes] at h
          split at h <;> cases h
          rename_i l hl
          simp [ih hl]
        | cell p t =>
          simp only [cRes] at h
          split at h <;> cases h
          · rename_i n l _ _ hl; simp [ih hl]
          · rename_i l _ _ hl; simp [ih hl]
    have hall : ∀ {ls : List Res} {c : Prop} {l : List V}, resAll H vs ls = some (c, l) → l.length = ls.length := by
      intro ls
      induction ls with
      | nil => intro c l h; simp only [resAll, Option.some.injEq, Prod.mk.injEq] at h; obtain ⟨_, rfl⟩ := h; rfl
      | cons x xs ih =>
        intro c l h
        simp only [resAll] at h
        split at h <;> try (cases h; done)
        split at h <;> try (cases h; done)
        rename_i h2
        cases h
        simp [ih h2]
    have h1 := e2.1
    have h2 := hall hl
    have h3 := hlen hc
    rw [dif_neg (by simp only [List.size_toArray]; omega)]
  cases ls with
  | nil =>
    simp only [resV] at h
    split at h
    · rename_i c0 l hl
      cases h
      refine gen hcond hl fun e => ?_
      match hrs : fn.results.toList, e with
      | [rv], _ =>
        rw [hrs] at hc
        cases rv <;> simp only [cRes] at hc
        · cases hc
        · split at hc <;> cases hc
    · cases h
  | cons x xs =>
    cases xs with
    | nil =>
      simp only [resV] at h
      match hrs : fn.results.toList with
      | [] => rw [hrs] at hc; simp [cRes] at hc
      | rv :: rs =>
        rw [hrs] at hc
        obtain ⟨y, ls', he, hc', hx⟩ := resOne_sound (P := P) r hv hc
        cases he
        have hrs0 : rs = [] := by
          cases rs with
          | nil => rfl
          | cons rv2 rs =>
            obtain ⟨y, ls', he, _, _⟩ := resOne_sound (P := P) r hv hc'
            cases he
        subst hrs0
        obtain ⟨q, e1, e2⟩ := hx h hcond
        refine ⟨q, ?_, e2⟩
        rw [hlist (qs := [q]) (by rw [hrs]; simp only [List.mapM_cons, List.mapM_nil, Sem.run_bind, e1, Result.andThen_ok, Sem.run_pure])]
        simp
    | cons y ys =>
      simp only [resV] at h
      split at h
      · rename_i c0 l hl
        cases h
        refine gen hcond hl fun e => ?_
        match hrs : fn.results.toList, e with
        | [rv], _ =>
          rw [hrs] at hc
          cases rv <;> simp only [cRes] at hc
          · cases hc
          · split at hc <;> simp_all
      · cases h

/-- A function from its text. -/
theorem SCall.intro {f : FuncId} {fn : Func} {muts : List Nat} {af : AF} {args : List V} {H : Heap} {Q : V → Heap → Prop} (hf : P.funcs[f]? = some fn) (hname : (fn.name == "runtime.NumGoroutine") = false) (hc : cFunc P muts fn = some af)
    (hlen : args.length ≤ af.ntmps) (h : wpC (SCall P) H.length af.body (exitK H.length af.res Q) ⟨initVs 0 args, H⟩) : SCall P f args H Q := by
  unfold cFunc at hc
  split at hc <;> try (cases hc; done)
  rename_i c hb
  split at hc <;> try (cases hc; done)
  rename_i b rs hcode hres
  cases hc
  refine ⟨⟨fn, hf, by rw [hb]; rfl, hname⟩, fun μ S W vals r ha => ?_⟩
  refine calls_of_wp hf hb ?_
  have hsz : vals.length = args.length := ha.1.symm
  have htm : (vals.toArray ++ Array.replicate (fn.ntmps - vals.toArray.size) undef).size = fn.ntmps := by
    simp only [Array.size_append, List.size_toArray, Array.size_replicate]; simp only at hlen; omega
  have hg : Good fn.ntmps H μ S W ⟨initVs 0 args, H⟩ { tmps := vals.toArray ++ Array.replicate (fn.ntmps - vals.toArray.size) undef, defers := [] } W := by
    refine ⟨μ, S, r, rfl, htm, fun t => ?_, .refl _ _ _ _⟩
    rw [get_initVs]
    simp only [Nat.zero_le, if_true, Nat.sub_zero]
    by_cases ht : t < args.length
    · have h1 : args.getD t .undef = args[t] := by simp [ht]
      rw [h1]
      have h2 : (vals.toArray ++ Array.replicate (fn.ntmps - vals.toArray.size) undef).getD t undef = vals[t]'(by omega) := by
        rw [Array.getD_eq_getD_getElem?, Array.getElem?_append_left (by simp; omega)]
        simp [show t < vals.length by omega]
      rw [h2]
      exact ha.2 t _ _ (by simp [ht]) (by simp [show t < vals.length by omega])
    · have h1 : args.getD t .undef = .undef := by simp [List.getElem?_eq_none (Nat.le_of_not_lt ht)]
      rw [h1]; exact .undef _
  refine wp_mono (wpC_sound (fun _ _ _ _ h => h) (Nat.le_refl _) c b hcode _ _ h _ _ hg) ?_
  rintro e a' W' ⟨ex, s', he, hq, hg'⟩
  have fin : finK H.length rs Q s' → a'.defers = [] ∧ ∃ v, (results fn a'.tmps).run P W' = .ok v W' ∧ ∃ r u H' μ' S', Ending.returned v = .returned u ∧ Q r H' ∧ Rel H' μ' S' W' ∧ RV μ' S' H' W' r u ∧ Later H μ S W H' μ' S' W' := by
    intro hfin
    obtain ⟨μ1, S1, r1, hd1, hs1, hv1, l1⟩ := hg'
    unfold finK at hfin
    split at hfin
    · rename_i c v hrv
      obtain ⟨hc, v', H', hw, hQ⟩ := hfin
      obtain ⟨q, e1, e2⟩ := resV_sound (P := P) r1 hv1 hres hrv hc
      obtain ⟨μ2, S2, r2, l2, hv2⟩ := hw H μ S W μ1 S1 W' (fun t => if t = 0 then q else undef) (Nat.le_refl _) r1 l1 (fun t => by
        simp only [get]
        by_cases ht : 0 = t
        · subst ht; simpa using e2
        · rw [if_neg ht]; exact .undef _)
      have := hv2 0
      simp only [get, if_true] at this
      exact ⟨hd1, q, e1, v', q, H', μ2, S2, rfl, hQ, r2, this, l2⟩
    · exact hfin.elim
  cases ex <;> cases e <;> try exact he.elim
  · exact fin hq
  · exact hq.elim
  · exact fin hq
end
end Go.Abs

/- What may be forgotten and renamed; how a call sees only a part of the heap. By the session itself. -/
namespace Go.Abs
open Go Go.RowKit
set_option linter.unusedSimpArgs false
set_option linter.unusedVariables false

mutual
def V.ren (ρ : Nat → Option Nat) : V → V
  | .t x => .t x
  | .agg cs => .agg (V.renL ρ cs)
  | .sl id off len gen sz => match ρ id with
    | some j => .sl j off len gen sz
    | none => .undef
  | .bsl id off len => match ρ id with
    | some j => .bsl j off len
    | none => .undef
  | .ref id off => match ρ id with
    | some j => .ref j off
    | none => .undef
  | .elt id i off gen => match ρ id with
    | some j => .elt j i off gen
    | none => .undef
  | .ip cs => .ip cs
  | .fn f cs => .fn f (V.renL ρ cs)
  | .tup cs => .tup (V.renL ρ cs)
  | .mp id => match ρ id with
    | some j => .mp j
    | none => .undef
  | .undef => .undef
def V.renL (ρ : Nat → Option Nat) : List V → List V
  | [] => []
  | v :: vs => V.ren ρ v :: V.renL ρ vs
end

def Obj.ren (ρ : Nat → Option Nat) : Obj → Obj
  | .box cs => .box (V.renL ρ cs)
  | o => o

theorem V.renL_eq (ρ : Nat → Option Nat) : ∀ cs : List V, V.renL ρ cs = cs.map (V.ren ρ)
  | [] => rfl
  | c :: cs => by simp only [V.renL, List.map_cons, V.renL_eq ρ cs]

theorem rowOf_ren (ρ : Nat → Option Nat) (o : Option Obj) : rowOf (o.map (Obj.ren ρ)) = rowOf o := by
  cases o with
  | none => rfl
  | some o => cases o <;> rfl

theorem Obj.ren_live (ρ : Nat → Option Nat) (o : Obj) (l : Loc) : (o.ren ρ).live l = o.live l := by cases o <;> rfl

section
variable {P : Program} {H H' : Heap} {μ μ' : Nat → Loc} {S S' : Nat → Prop} {W W' : World}

/-- A renaming of the heap's objects. -/
def Renames (ρ : Nat → Option Nat) (H : Heap) (μ : Nat → Loc) (H' : Heap) (μ' : Nat → Loc) : Prop := ∀ id j, ρ id = some j → H'[j]? = (H[id]?).map (Obj.ren ρ) ∧ μ' j = μ id

theorem RV.ren {ρ : Nat → Option Nat} (h : Renames ρ H μ H' μ') {v : V} {u : Value} (hv : RV μ S H W v u) : RV μ' S H' W (v.ren ρ) u := by
  induction hv with
  | undef v => exact .undef v
  | t h => exact .t h
  | agg us hl _ ih =>
    refine .agg us (by simp [V.renL_eq, hl]) fun i c u hc hu => ?_
    rw [V.renL_eq, List.getElem?_map] at hc
    cases e : (_ : List V)[i]? with
    | none => rw [e] at hc; cases hc
    | some y => rw [e] at hc; cases hc; exact ih i y u e hu
  | tup us hl _ ih =>
    refine .tup us (by simp [V.renL_eq, hl]) fun i c u hc hu => ?_
    rw [V.renL_eq, List.getElem?_map] at hc
    cases e : (_ : List V)[i]? with
    | none => rw [e] at hc; cases hc
    | some y => rw [e] at hc; cases hc; exact ih i y u e hu
  | fn us hl _ ih =>
    refine .fn us (by simp [V.renL_eq, hl]) fun i c u hc hu => ?_
    rw [V.renL_eq, List.getElem?_map] at hc
    cases e : (_ : List V)[i]? with
    | none => rw [e] at hc; cases hc
    | some y => rw [e] at hc; cases hc; exact ih i y u e hu
  | @sl id off len gen sz a cap sz' g xs hr hg hcap hn hh =>
    simp only [V.ren]
    cases e : ρ id with
    | none => exact .undef _
    | some j =>
      obtain ⟨h1, h2⟩ := h id j e
      exact .sl a cap sz' g xs (by rw [h1, rowOf_ren]; exact hr) hg hcap hn (h2 ▸ hh)
  | @bsl id off len a cap cs hb hcap hl ha =>
    simp only [V.ren]
    cases e : ρ id with
    | none => exact .undef _
    | some j =>
      obtain ⟨h1, h2⟩ := h id j e
      exact .bsl a cap (V.renL ρ cs) (by rw [h1, hb]; rfl) hcap (by simpa [V.renL_eq] using hl) (h2 ▸ ha)
  | @ref id off cs hb =>
    simp only [V.ren]
    cases e : ρ id with
    | none => exact .undef _
    | some j =>
      obtain ⟨h1, h2⟩ := h id j e
      rw [← h2]; exact .ref (V.renL ρ cs) (by rw [h1, hb]; rfl)
  | @elt id i off gen a sz g xs hr hg hh =>
    simp only [V.ren]
    cases e : ρ id with
    | none => exact .undef _
    | some j =>
      obtain ⟨h1, h2⟩ := h id j e
      exact .elt a sz g xs (by rw [h1, rowOf_ren]; exact hr) hg (h2 ▸ hh)
  | ip a us hl hsp hS hc hr => exact .ip a us hl hsp hS hc hr
  | @mp id es hb =>
    simp only [V.ren]
    cases e : ρ id with
    | none => exact .undef _
    | some j =>
      obtain ⟨h1, h2⟩ := h id j e
      rw [← h2]; exact .mp es (by rw [h1, hb]; rfl)

theorem All2.ren {ρ : Nat → Option Nat} (h : Renames ρ H μ H' μ') {vs : List V} {us : List Value} (hv : All2 (RV μ S H W) vs us) : All2 (RV μ' S H' W) (vs.map (V.ren ρ)) us := by
  refine ⟨by simp [hv.1], fun i c u hc hu => ?_⟩
  rw [List.getElem?_map] at hc
  cases e : vs[i]? with
  | none => rw [e] at hc; cases hc
  | some y => rw [e] at hc; cases hc; exact (hv.2 i y u e hu).ren h

theorem ObjOk.ren {ρ : Nat → Option Nat} (h : Renames ρ H μ H' μ') {o : Obj} {l : Loc} (ho : ObjOk μ S H W l o) : ObjOk μ' S H' W l (o.ren ρ) := by
  cases o with
  | box cs =>
    obtain ⟨h1, us, ty, h2, h3, h4⟩ := ho
    have := All2.ren (S := S) (W := W) h ⟨h3.symm, h4⟩
    rw [← V.renL_eq] at this
    exact ⟨h1, us, ty, h2, this.1.symm, this.2⟩
  | row sz g xs => exact ho
  | frz sz g xs => exact ho
  | map es => exact ho

def idx : List Nat → Nat → Option Nat
  | [], _ => none
  | k :: ks, id => if k = id then some 0 else (idx ks id).map (· + 1)

theorem idx_get : ∀ {ks : List Nat} {id j : Nat}, idx ks id = some j → ks[j]? = some id
  | [], _, _, h => by simp [idx] at h
  | k :: ks, id, j, h => by
    simp only [idx] at h
    split at h
    · rename_i e; cases h; simp [e]
    · cases e : idx ks id with
      | none => rw [e] at h; cases h
      | some m => rw [e] at h; cases h; simpa using idx_get e

theorem get_idx : ∀ {ks : List Nat} {id j : Nat}, ks.Nodup → ks[j]? = some id → idx ks id = some j
  | [], _, _, _, h => by simp at h
  | k :: ks, id, j, hn, h => by
    rw [List.nodup_cons] at hn
    simp only [idx]
    cases j with
    | zero => simp at h; simp [h]
    | succ j =>
      have h' : ks[j]? = some id := by simpa using h
      have hne : ¬ k = id := fun e => hn.1 (by rw [e]; exact List.mem_of_getElem? h')
      rw [if_neg hne, get_idx hn.2 h']; rfl

/-- Only some slots and some objects are kept. -/
def gcSt (slots keep : List Nat) (s : St) : St := ⟨slots.map fun t => (t, (get s.vs t).ren (idx keep)), keep.map fun id => ((s.h[id]?).getD default).ren (idx keep)⟩

theorem get_map (f : Nat → V) : ∀ (slots : List Nat) (t : Nat), get (slots.map fun t => (t, f t)) t = if t ∈ slots then f t else .undef
  | [], t => by simp [get]
  | k :: ks, t => by
    simp only [List.map_cons, get, get_map f ks t]
    by_cases h : k = t
    · subst h; simp
    · rw [if_neg h]
      by_cases h2 : t ∈ ks
      · rw [if_pos h2, if_pos (List.mem_cons_of_mem _ h2)]
      · rw [if_neg h2, if_neg (fun hm => by rcases List.mem_cons.1 hm with e | e; exact h e.symm; exact h2 e)]

theorem weak_gc {n : Nat} {s : St} (slots keep : List Nat) (h1 : keep.take n = List.range n) (hn : n ≤ keep.length) (h2 : keep.Nodup) (h3 : ∀ id ∈ keep, id < s.h.length) : Weak n s (gcSt slots keep s) := by
  intro H0 μ0 S0 W0 μ S W val hH r l hv
  let μ' : Nat → Loc := fun j => μ (keep.getD j 0)
  have hob : ∀ (j : Nat) id, keep[j]? = some id → (gcSt slots keep s).h[j]? = (s.h[id]?).map (Obj.ren (idx keep)) ∧ μ' j = μ id := by
    intro j id hj
    have hid := h3 id (List.mem_of_getElem? hj)
    refine ⟨?_, by simp [μ', hj]⟩
    simp only [gcSt, List.getElem?_map, hj, Option.map_some]
    rw [List.getElem?_eq_getElem hid]; rfl
  have hren : Renames (idx keep) s.h μ (gcSt slots keep s).h μ' := fun id j h => hob j id (idx_get h)
  have hlen : (gcSt slots keep s).h.length = keep.length := by simp [gcSt]
  have hinv : ∀ {j : Nat} {o : Obj}, (gcSt slots keep s).h[j]? = some o → ∃ id o0, keep[j]? = some id ∧ s.h[id]? = some o0 ∧ o = o0.ren (idx keep) ∧ μ' j = μ id := by
    intro j o ho
    have hj : j < keep.length := by rw [← hlen]; obtain ⟨h, _⟩ := List.getElem?_eq_some_iff.1 ho; exact h
    obtain ⟨e1, e2⟩ := hob j keep[j] (by simp [hj])
    rw [e1] at ho
    cases e : s.h[keep[j]]? with
    | none => rw [e] at ho; cases ho
    | some o0 => rw [e] at ho; cases ho; exact ⟨keep[j], o0, by simp [hj], e, rfl, e2⟩
  have hkeep : ∀ i, i < n → keep[i]? = some i := by
    intro i hi
    have : (keep.take n)[i]? = some i := by rw [h1]; simp [hi]
    rw [List.getElem?_take, if_pos hi] at this
    exact this
  refine ⟨μ', S, ⟨fun j o ho => ?_, fun i j hi hj e => ?_, r.size⟩, ⟨l.os, l.tape, l.output, l.size, fun id o ho => ?_, l.keep, l.mono, l.news, fun j hl => ?_⟩, fun t => ?_⟩
  · obtain ⟨id, o0, e1, e2, rfl, e3⟩ := hinv ho
    rw [e3]
    exact (r.objs id o0 e2).ren hren
  · obtain ⟨o, ho, hlo⟩ := hi
    obtain ⟨p, hp, hlp⟩ := hj
    obtain ⟨id, o0, e1, e2, rfl, e3⟩ := hinv ho
    obtain ⟨id', o1, f1, f2, rfl, f3⟩ := hinv hp
    rw [Obj.ren_live, e3] at hlo
    rw [Obj.ren_live, f3] at hlp
    rw [e3, f3] at e
    have := r.inj id id' ⟨o0, e2, hlo⟩ ⟨o1, f2, hlp⟩ e
    subst this
    have a := get_idx h2 e1
    have b := get_idx h2 f1
    rw [a] at b; exact Option.some.inj b
  · have hid : id < H0.length := by obtain ⟨h, _⟩ := List.getElem?_eq_some_iff.1 ho; exact h
    obtain ⟨o', ho', ht⟩ := l.objs id o ho
    obtain ⟨e1, e2⟩ := hob id id (hkeep id (by omega))
    refine ⟨o'.ren (idx keep), by rw [e1, ho']; rfl, ?_⟩
    rw [e2]
    cases o <;> cases o' <;> first | exact ht | (simp only [Obj.to, Obj.ren, V.renL_eq, List.length_map] at ht ⊢; exact ht)
  · obtain ⟨o, ho, hlo⟩ := hl
    obtain ⟨id, o0, e1, e2, rfl, e3⟩ := hinv ho
    rw [Obj.ren_live, e3] at hlo
    rw [e3]
    rcases l.fresh id ⟨o0, e2, hlo⟩ with h | ⟨h, h'⟩
    · exact .inl h
    · obtain ⟨o1, ho1, _⟩ := id_lt h
      have hid : id < H0.length := by obtain ⟨h, _⟩ := List.getElem?_eq_some_iff.1 ho1; exact h
      have : j = id := by
        have a := get_idx h2 e1
        have b := get_idx h2 (hkeep id (by omega))
        rw [a] at b; exact Option.some.inj b
      subst this
      exact .inr ⟨h, h'⟩
  · simp only [gcSt, get_map (fun t => (get s.vs t).ren (idx keep))]
    split
    · exact (hv t).ren hren
    · exact .undef _
where
  id_lt {H : Heap} {μ : Nat → Loc} {id : Nat} (h : Live H μ id) : ∃ o, H[id]? = some o ∧ True := by
    obtain ⟨o, h1, _⟩ := h; exact ⟨o, h1, trivial⟩

/-- A nil slice in a slot becomes an empty row without capacity. -/
def rowSt (t sz : Nat) (s : St) : St := ⟨put s.vs t (.sl s.h.length 0 0 0 sz), s.h ++ [.row sz 0 []]⟩

end
end Go.Abs

/- A call sees only a part of the heap. By the session itself. -/
namespace Go.Abs
open Go Go.RowKit
set_option linter.unusedSimpArgs false
set_option linter.unusedVariables false

/-- Objects put in their places. -/
def setAll : Heap → List Nat → Heap → Heap
  | H, id :: ids, o :: os => setAll (H.set id o) ids os
  | H, _, _ => H

/-- Where the callee's objects are in the caller's heap. -/
def tau (fp : List Nat) (n : Nat) (j : Nat) : Option Nat := if j < fp.length then fp[j]? else some (n + (j - fp.length))

def merge (H : Heap) (fp : List Nat) (F : Heap) : Heap := setAll H fp ((F.take fp.length).map (Obj.ren (tau fp H.length))) ++ (F.drop fp.length).map (Obj.ren (tau fp H.length))

/-- What the callee sees of the heap. -/
def sub (H : Heap) (fp : List Nat) : Heap := fp.map fun id => ((H[id]?).getD default).ren (idx fp)

theorem setAll_length : ∀ (H : Heap) (ids : List Nat) (os : Heap), (setAll H ids os).length = H.length
  | H, [], os => by simp [setAll]
  | H, id :: ids, [] => by simp [setAll]
  | H, id :: ids, o :: os => by rw [setAll, setAll_length]; simp

theorem setAll_get : ∀ (H : Heap) (ids : List Nat) (os : Heap) (id : Nat), ids.Nodup → id < H.length → ids.length = os.length → (setAll H ids os)[id]? = match idx ids id with | some j => os[j]? | none => H[id]?
  | H, [], os, id, _, _, _ => by simp [setAll, idx]
  | H, k :: ks, [], id, _, _, h => by simp at h
  | H, k :: ks, o :: os, id, hn, hlt, hl => by
    rw [List.nodup_cons] at hn
    rw [setAll, setAll_get (H.set k o) ks os id hn.2 (by simpa using hlt) (by simpa using hl)]
    simp only [idx]
    by_cases h : k = id
    · subst h
      rw [if_pos rfl]
      have : idx ks k = none := by
        cases e : idx ks k with
        | none => rfl
        | some j => exact absurd (List.mem_of_getElem? (idx_get e)) hn.1
      rw [this]
      simp [hlt]
    · rw [if_neg h]
      cases e : idx ks id with
      | none => simp only [Option.map_none]; rw [List.getElem?_set, if_neg h]
      | some j => simp

theorem Obj.to_ren1 {o o' : Obj} {l l' : Loc} (ρ ρ' : Nat → Option Nat) (h : (o.ren ρ).to o' l l') : o.to (o'.ren ρ') l l' := by
  cases o <;> cases o' <;> simp_all [Obj.to, Obj.ren, V.renL_eq]

section
variable {P : Program} {H : Heap} {μ : Nat → Loc} {S : Nat → Prop} {W : World}

theorem sub_get {fp : List Nat} (hlt : ∀ id ∈ fp, id < H.length) {j id : Nat} (hj : fp[j]? = some id) : (sub H fp)[j]? = (H[id]?).map (Obj.ren (idx fp)) := by
  have hid := hlt id (List.mem_of_getElem? hj)
  simp only [sub, List.getElem?_map, hj, Option.map_some]
  rw [List.getElem?_eq_getElem hid]; rfl

theorem sub_inv {fp : List Nat} (hlt : ∀ id ∈ fp, id < H.length) {j : Nat} {o : Obj} (ho : (sub H fp)[j]? = some o) : ∃ id o0, fp[j]? = some id ∧ H[id]? = some o0 ∧ o = o0.ren (idx fp) := by
  have hj : j < fp.length := by
    have : (sub H fp).length = fp.length := by simp [sub]
    rw [← this]; obtain ⟨h, _⟩ := List.getElem?_eq_some_iff.1 ho; exact h
  have e := sub_get hlt (j := j) (id := fp[j]) (by simp [hj])
  rw [e] at ho
  cases e2 : H[fp[j]]? with
  | none => rw [e2] at ho; cases ho
  | some o0 => rw [e2] at ho; cases ho; exact ⟨fp[j], o0, by simp [hj], e2, rfl⟩

theorem rel_sub (r : Rel H μ S W) {fp : List Nat} (hnd : fp.Nodup) (hlt : ∀ id ∈ fp, id < H.length) : Rel (sub H fp) (fun j => μ (fp.getD j 0)) S W ∧ Renames (idx fp) H μ (sub H fp) (fun j => μ (fp.getD j 0)) := by
  have hren : Renames (idx fp) H μ (sub H fp) (fun j => μ (fp.getD j 0)) := fun id j h => by
    have := idx_get h
    exact ⟨sub_get hlt this, by simp [this]⟩
  have hmu : ∀ {j id : Nat}, fp[j]? = some id → μ (fp.getD j 0) = μ id := fun h => by simp [h]
  refine ⟨⟨fun j o ho => ?_, fun i j hi hj e => ?_, r.size⟩, hren⟩
  · obtain ⟨id, o0, e1, e2, rfl⟩ := sub_inv hlt ho
    simp only [hmu e1]
    exact (r.objs id o0 e2).ren hren
  · obtain ⟨o, ho, hlo⟩ := hi
    obtain ⟨p, hp, hlp⟩ := hj
    obtain ⟨id, o0, e1, e2, rfl⟩ := sub_inv hlt ho
    obtain ⟨id', o1, f1, f2, rfl⟩ := sub_inv hlt hp
    rw [Obj.ren_live] at hlo hlp
    simp only [hmu e1] at hlo e
    simp only [hmu f1] at hlp e
    have := r.inj id id' ⟨o0, e2, hlo⟩ ⟨o1, f2, hlp⟩ e
    subst this
    have a := get_idx hnd e1
    have b := get_idx hnd f1
    rw [a] at b; exact Option.some.inj b

/-- The frame rule: fp are the objects that the callee may use. -/
theorem SCall.frame {f : FuncId} {args : List V} {Q : V → Heap → Prop} (fp : List Nat) (hnd : fp.Nodup) (hlt : ∀ id ∈ fp, id < H.length) (h : SCall P f (args.map (V.ren (idx fp))) (sub H fp) Q) :
    SCall P f args H fun r H' => ∃ r0 F', Q r0 F' ∧ r = r0.ren (tau fp H.length) ∧ H' = merge H fp F' := by
  refine ⟨h.1, fun μ S W vals r ha => ?_⟩
  obtain ⟨rF, hren⟩ := rel_sub r hnd hlt
  refine (h.2 _ S W vals rF (All2.ren hren ha)).mono ?_
  rintro e W' ⟨r0, u, F', μF, S', rfl, hQ, rF', hv, lF⟩
  have hFl : (sub H fp).length = fp.length := by simp [sub]
  have hk : fp.length ≤ F'.length := by
    rcases Nat.lt_or_ge F'.length fp.length with hlt' | hge
    · exfalso
      have hj : F'.length < (sub H fp).length := by omega
      obtain ⟨o', ho', _⟩ := lF.objs F'.length _ (List.getElem?_eq_getElem hj)
      obtain ⟨hh, _⟩ := List.getElem?_eq_some_iff.1 ho'
      omega
    · exact hge
  let μ' : Nat → Loc := fun id => match idx fp id with
    | some j => μF j
    | none => if id < H.length then μ id else μF (fp.length + (id - H.length))
  have hidx : ∀ {id j : Nat}, idx fp id = some j → j < fp.length ∧ fp[j]? = some id ∧ id < H.length := fun h => by
    have := idx_get h
    refine ⟨by obtain ⟨h, _⟩ := List.getElem?_eq_some_iff.1 this; exact h, this, hlt _ (List.mem_of_getElem? this)⟩
  have hge : ∀ {id : Nat}, H.length ≤ id → idx fp id = none := fun {id} h => by
    cases e : idx fp id with
    | none => rfl
    | some j => have := (hidx e).2.2; omega
  have m1 : ∀ {id j : Nat}, idx fp id = some j → μ' id = μF j := fun h => by simp only [μ', h]
  have m2 : ∀ {id : Nat}, idx fp id = none → id < H.length → μ' id = μ id := fun h h2 => by simp only [μ', h, if_pos h2]
  have m3 : ∀ (k : Nat), μ' (H.length + k) = μF (fp.length + k) := fun k => by
    simp only [μ', hge (Nat.le_add_right _ _), if_neg (show ¬ H.length + k < H.length by omega)]
    congr 2; omega
  have hsl : (setAll H fp ((F'.take fp.length).map (Obj.ren (tau fp H.length)))).length = H.length := setAll_length _ _ _
  have g1 : ∀ {id j : Nat}, idx fp id = some j → (merge H fp F')[id]? = (F'[j]?).map (Obj.ren (tau fp H.length)) := fun {id j} h => by
    obtain ⟨h1, h2, h3⟩ := hidx h
    rw [merge, List.getElem?_append_left (by rw [hsl]; exact h3), setAll_get _ _ _ _ hnd h3 (by simp; omega), h]
    simp only [List.getElem?_map, List.getElem?_take, if_pos h1]
  have g2 : ∀ {id : Nat}, idx fp id = none → id < H.length → (merge H fp F')[id]? = H[id]? := fun {id} h h3 => by
    rw [merge, List.getElem?_append_left (by rw [hsl]; exact h3), setAll_get _ _ _ _ hnd h3 (by simp; omega), h]
  have g3 : ∀ (k : Nat), (merge H fp F')[H.length + k]? = (F'[fp.length + k]?).map (Obj.ren (tau fp H.length)) := fun k => by
    rw [merge, List.getElem?_append_right (by rw [hsl]; omega), hsl, show H.length + k - H.length = k by omega, List.getElem?_map, List.getElem?_drop]
  have hlive : ∀ {id : Nat}, Live (merge H fp F') μ' id → (∃ j, Live F' μF j ∧ μ' id = μF j ∧ (idx fp id = some j ∨ (fp.length ≤ j ∧ id = H.length + (j - fp.length)))) ∨ (idx fp id = none ∧ id < H.length ∧ Live H μ id ∧ μ' id = μ id) := by
    intro id ⟨o, ho, hl⟩
    cases e : idx fp id with
    | some j =>
      rw [g1 e] at ho
      cases e2 : F'[j]? with
      | none => rw [e2] at ho; cases ho
      | some o0 =>
        rw [e2] at ho; cases ho
        rw [Obj.ren_live, m1 e] at hl
        exact .inl ⟨j, ⟨o0, e2, hl⟩, m1 e, .inl rfl⟩
    | none =>
      by_cases h3 : id < H.length
      · rw [g2 e h3] at ho
        rw [m2 e h3] at hl
        exact .inr ⟨rfl, h3, ⟨o, ho, hl⟩, m2 e h3⟩
      · obtain ⟨k, rfl⟩ : ∃ k, id = H.length + k := ⟨id - H.length, by omega⟩
        rw [g3] at ho
        cases e2 : F'[fp.length + k]? with
        | none => rw [e2] at ho; cases ho
        | some o0 =>
          rw [e2] at ho; cases ho
          rw [Obj.ren_live, m3] at hl
          exact .inl ⟨fp.length + k, ⟨o0, e2, hl⟩, m3 k, .inr ⟨by omega, by omega⟩⟩
  have hliveF : ∀ {j : Nat}, Live (sub H fp) (fun j => μ (fp.getD j 0)) j → ∃ id, fp[j]? = some id ∧ Live H μ id ∧ μ (fp.getD j 0) = μ id := by
    intro j ⟨o, ho, hl⟩
    obtain ⟨id, o0, e1, e2, rfl⟩ := sub_inv hlt ho
    rw [Obj.ren_live] at hl
    have : μ (fp.getD j 0) = μ id := by simp [e1]
    exact ⟨id, e1, ⟨o0, e2, this ▸ hl⟩, this⟩
  have L : Later H μ S W (merge H fp F') μ' S' W' := by
    refine ⟨lF.os, lF.tape, lF.output, lF.size, fun id o ho => ?_, fun b hb hn => lF.keep b hb fun j hl e => ?_, lF.mono, fun b hb hs => ?_, fun id hl => ?_⟩
    · have hid : id < H.length := by obtain ⟨h, _⟩ := List.getElem?_eq_some_iff.1 ho; exact h
      cases e : idx fp id with
      | none => exact ⟨o, by rw [g2 e hid]; exact ho, by rw [m2 e hid]; exact o.to_refl _⟩
      | some j =>
        obtain ⟨h1, h2, h3⟩ := hidx e
        have hs := sub_get hlt h2
        rw [ho] at hs
        obtain ⟨o', ho', ht⟩ := lF.objs j _ hs
        refine ⟨o'.ren (tau fp H.length), by rw [g1 e, ho']; rfl, ?_⟩
        rw [m1 e]
        have : μ (fp.getD j 0) = μ id := by simp [h2]
        simp only [this] at ht
        exact Obj.to_ren1 _ _ ht
    · obtain ⟨id, e1, e2, e3⟩ := hliveF hl
      exact hn id e2 (by rw [← e3]; exact e)
    · rcases lF.news b hb hs with h | ⟨j, hl, e⟩
      · exact .inl h
      · obtain ⟨id, e1, e2, e3⟩ := hliveF hl
        exact .inr ⟨id, e2, by rw [← e3]; exact e⟩
    · rcases hlive hl with ⟨j, hj, hm, hor⟩ | ⟨h1, h2, h3, h4⟩
      · rw [hm]
        rcases lF.fresh j hj with h | ⟨h, h'⟩
        · exact .inl h
        · obtain ⟨id', e1, e2, e3⟩ := hliveF h
          rcases hor with hor | ⟨hor, _⟩
          · have := idx_get hor
            rw [this] at e1; cases e1
            exact .inr ⟨e2, by rw [h', e3]⟩
          · have : j < fp.length := by obtain ⟨h, _⟩ := List.getElem?_eq_some_iff.1 e1; exact h
            omega
      · exact .inr ⟨h3, by rw [h4]⟩
  have hren' : Renames (tau fp H.length) F' μF (merge H fp F') μ' := fun j id hj => by
    simp only [tau] at hj
    split at hj
    · have := get_idx hnd hj
      exact ⟨g1 this, m1 this⟩
    · simp only [Option.some.injEq] at hj
      subst hj
      have e : fp.length + (j - fp.length) = j := by omega
      exact ⟨by rw [g3, e], by rw [m3, e]⟩
  refine ⟨r0.ren (tau fp H.length), u, merge H fp F', μ', S', rfl, ⟨r0, F', hQ, rfl, rfl⟩, ⟨fun id o ho => ?_, fun i j hi hj e => ?_, rF'.size⟩, hv.ren hren', L⟩
  · cases e : idx fp id with
    | some j =>
      rw [g1 e] at ho
      cases e2 : F'[j]? with
      | none => rw [e2] at ho; cases ho
      | some o0 =>
        rw [e2] at ho; cases ho
        rw [m1 e]
        exact (rF'.objs j o0 e2).ren hren'
    | none =>
      by_cases h3 : id < H.length
      · rw [g2 e h3] at ho
        rw [m2 e h3]
        refine ObjOk.later L r ho fun hl => ?_
        have hlv : Live H μ id := ⟨o, ho, hl⟩
        have hne : ∀ j, Live (sub H fp) (fun j => μ (fp.getD j 0)) j → (μ (fp.getD j 0)).blk ≠ (μ id).blk := by
          intro j hj he
          obtain ⟨id', e1, e2, e3⟩ := hliveF hj
          rw [e3] at he
          have := r.inj id' id e2 hlv he
          subst this
          rw [get_idx hnd e1] at e; cases e
        refine ⟨lF.keep _ (r.lt hlv) hne, fun hs => ?_⟩
        rcases lF.news _ (r.lt hlv) hs with h | ⟨j, hj, he⟩
        · exact r.notS hlv h
        · exact hne j hj he
      · obtain ⟨k, rfl⟩ : ∃ k, id = H.length + k := ⟨id - H.length, by omega⟩
        rw [g3] at ho
        cases e2 : F'[fp.length + k]? with
        | none => rw [e2] at ho; cases ho
        | some o0 =>
          rw [e2] at ho; cases ho
          rw [m3]
          exact (rF'.objs _ o0 e2).ren hren'
  · have mixed : ∀ {i j j0 : Nat}, Live F' μF j0 → μ' i = μF j0 → (idx fp i = some j0 ∨ (fp.length ≤ j0 ∧ i = H.length + (j0 - fp.length))) → idx fp j = none → Live H μ j → μ' j = μ j → (μ' i).blk = (μ' j).blk → False := by
      intro i j j0 h1 h2 h3 h4 h5 h6 he
      rw [h2, h6] at he
      have hlj := r.lt h5
      rcases lF.fresh j0 h1 with h | ⟨h, h'⟩
      · omega
      · obtain ⟨id', e1, e2, e3⟩ := hliveF h
        rw [h', e3] at he
        have := r.inj id' j e2 h5 he
        subst this
        rw [get_idx hnd e1] at h4; cases h4
    rcases hlive hi with ⟨j1, a1, a2, a3⟩ | ⟨a1, a2, a3, a4⟩ <;> rcases hlive hj with ⟨j2, b1, b2, b3⟩ | ⟨b1, b2, b3, b4⟩
    · rw [a2, b2] at e
      have := rF'.inj j1 j2 a1 b1 e
      subst this
      rcases a3 with a3 | ⟨a3, a3'⟩ <;> rcases b3 with b3 | ⟨b3, b3'⟩
      · have x := idx_get a3; have y := idx_get b3; rw [x] at y; exact Option.some.inj y
      · have := (hidx a3).1; omega
      · have := (hidx b3).1; omega
      · omega
    · exact (mixed a1 a2 a3 b1 b3 b4 e).elim
    · exact (mixed b1 b2 b3 a1 a3 a4 e.symm).elim
    · rw [a4, b4] at e; exact r.inj i j a3 b3 e

end
end Go.Abs

/- Calls that only read what they are handed: rows are lent. By the session itself. -/
namespace Go.Abs
open Go Go.RowKit
set_option linter.unusedSimpArgs false
set_option linter.unusedVariables false

def T.scal : T → Bool
  | .lst _ _ [] => true
  | .lst _ _ (_ :: _) => false
  | .agg _ => false
  | _ => true

def T.flat (x : T) : Bool := x.cells.all T.scal

mutual
def V.flatV : V → Bool
  | .t x => x.flat
  | .agg cs => V.flatL cs
  | .tup cs => V.flatL cs
  | .fn _ cs => V.flatL cs
  | .ip _ => false
  | _ => true
def V.flatL : List V → Bool
  | [] => true
  | v :: vs => V.flatV v && V.flatL vs
end

def Obj.flatO : Obj → Bool
  | .box cs => V.flatL cs
  | .row _ _ xs => xs.all T.flat
  | .frz _ _ _ => false
  | .map _ => false

mutual
def view (H : Heap) : V → V
  | .t x => .t x
  | .agg cs => .agg (viewL H cs)
  | .tup cs => .tup (viewL H cs)
  | .fn f cs => .fn f (viewL H cs)
  | .ip cs => .ip cs
  | .sl id off len gen sz => match rowOf H[id]? with
    | some (sz', g, xs) => if gen = g ∧ sz' = sz then .t (.lst sz false ((xs.drop off).take len)) else .undef
    | none => .undef
  | _ => .undef
def viewL (H : Heap) : List V → List V
  | [] => []
  | v :: vs => view H v :: viewL H vs
end

theorem viewL_eq (H : Heap) : ∀ cs : List V, viewL H cs = cs.map (view H)
  | [] => rfl
  | c :: cs => by simp only [viewL, List.map_cons, viewL_eq H cs]

theorem flatL_eq : ∀ cs : List V, V.flatL cs = cs.all V.flatV
  | [] => rfl
  | c :: cs => by simp only [V.flatL, List.all_cons, flatL_eq cs]

section
variable {P : Program} {H : Heap} {μ : Nat → Loc} {S S2 : Nat → Prop} {W W2 : World}

theorem RT.scal_any {x : T} {v : Value} (hx : x.scal = true) (h : RT S W x v) : RT S2 W2 x v := by
  cases h with
  | bool b => exact .bool b
  | int k n => exact .int k n
  | str s => exact .str s
  | nilp => exact .nilp
  | nilf => exact .nilf
  | agg => cases hx
  | lst a cap us hsz hcap ht hn hl hS hc hr =>
    rename_i xs
    cases xs with
    | nil =>
      have hu : us = [] := List.length_eq_zero_iff.1 (by rw [hl]; rfl)
      subst hu
      exact .lst a cap [] hsz hcap ht hn hl (fun a' _ h => absurd h (by simp)) (fun a' _ i u h => by simp at h) (fun i c u hc => by simp [Abs.flat] at hc)
    | cons => cases hx

theorem RT.flat_any {x : T} {v : Value} (hx : x.flat = true) (h : RT S W x v) : RT S2 W2 x v := by
  cases h with
  | agg us hl h =>
    refine .agg us hl fun i c u hc hu => (h i c u hc hu).scal_any ?_
    exact List.all_eq_true.1 hx c (List.mem_of_getElem? hc)
  | bool b => exact .bool b
  | int k n => exact .int k n
  | str s => exact .str s
  | nilp => exact .nilp
  | nilf => exact .nilf
  | lst a cap us hsz hcap ht hn hl hS hc hr => exact (RT.lst a cap us hsz hcap ht hn hl hS hc hr).scal_any (by simpa [T.flat, T.cells] using hx)

theorem RV.flat_any {v : V} {u : Value} (h : RV μ S H W v u) : v.flatV = true → RV μ S2 H W v u := by
  induction h with
  | undef v => intro _; exact .undef v
  | t h => intro hf; exact .t (h.flat_any (by simpa [V.flatV] using hf))
  | agg us hl _ ih => intro hf; simp only [V.flatV, flatL_eq] at hf; exact .agg us hl fun i c u hc hu => ih i c u hc hu (List.all_eq_true.1 hf c (List.mem_of_getElem? hc))
  | tup us hl _ ih => intro hf; simp only [V.flatV, flatL_eq] at hf; exact .tup us hl fun i c u hc hu => ih i c u hc hu (List.all_eq_true.1 hf c (List.mem_of_getElem? hc))
  | fn us hl _ ih => intro hf; simp only [V.flatV, flatL_eq] at hf; exact .fn us hl fun i c u hc hu => ih i c u hc hu (List.all_eq_true.1 hf c (List.mem_of_getElem? hc))
  | sl a cap sz' g xs hr hg hcap hn hh => intro _; exact .sl a cap sz' g xs hr hg hcap hn hh
  | bsl a cap cs hb hcap hl ha => intro _; exact .bsl a cap cs hb hcap hl ha
  | ref cs hb => intro _; exact .ref cs hb
  | elt a sz g xs hr hg hh => intro _; exact .elt a sz g xs hr hg hh
  | ip a us hl hsp hS hc hr => intro hf; simp [V.flatV] at hf
  | mp es hb => intro _; exact .mp es hb

theorem flat_cells {xs : List T} (h : xs.all T.flat = true) : ∀ c ∈ Abs.flat xs, c.scal = true := by
  intro c hc
  simp only [Abs.flat, List.mem_flatMap] at hc
  obtain ⟨x, hx, hcx⟩ := hc
  exact List.all_eq_true.1 (List.all_eq_true.1 h x hx) c hcx

theorem RowAt.flat_any {l : Loc} {sz : Nat} {xs : List T} (hf : xs.all T.flat = true) (h : RowAt S W l sz xs) : RowAt S2 W l sz xs := by
  obtain ⟨h1, h2, h3⟩ := h
  refine ⟨h1, h2, fun hc => ?_⟩
  obtain ⟨us, ty, fz, a, b, c, d⟩ := h3 hc
  exact ⟨us, ty, fz, a, b, c, fun i x u hi hu => (d i x u hi hu).scal_any (flat_cells hf x (List.mem_of_getElem? hi))⟩

/-- The rows' blocks. -/
def RowsOf (H : Heap) (μ : Nat → Loc) (b : Nat) : Prop := ∃ id q, rowOf H[id]? = some q ∧ (μ id).cap ≠ 0 ∧ b = (μ id).blk

theorem RV.view (r : Rel H μ S W) (μ0 : Nat → Loc) {v : V} {u : Value} (h : RV μ S H W v u) : RV μ0 (fun b => S b ∨ RowsOf H μ b) [] W (view H v) u := by
  induction h with
  | undef v => exact .undef v
  | t h => exact .t (h.mono (fun b hb => .inl hb) (fun _ _ => rfl))
  | agg us hl _ ih =>
    simp only [Abs.view]
    refine .agg us (by simp [viewL_eq, hl]) fun i c u hc hu => ?_
    rw [viewL_eq, List.getElem?_map] at hc
    cases e : (_ : List V)[i]? with
    | none => rw [e] at hc; cases hc
    | some y => rw [e] at hc; cases hc; exact ih i y u e hu
  | tup us hl _ ih =>
    simp only [Abs.view]
    refine .tup us (by simp [viewL_eq, hl]) fun i c u hc hu => ?_
    rw [viewL_eq, List.getElem?_map] at hc
    cases e : (_ : List V)[i]? with
    | none => rw [e] at hc; cases hc
    | some y => rw [e] at hc; cases hc; exact ih i y u e hu
  | fn us hl _ ih =>
    simp only [Abs.view]
    refine .fn us (by simp [viewL_eq, hl]) fun i c u hc hu => ?_
    rw [viewL_eq, List.getElem?_map] at hc
    cases e : (_ : List V)[i]? with
    | none => rw [e] at hc; cases hc
    | some y => rw [e] at hc; cases hc; exact ih i y u e hu
  | @sl id off len gen sz a cap sz2 g2 xs2 hr2 hg2 hcap2 hn2 hh =>
    simp only [Abs.view, hr2]
    split
    · rename_i hg
      obtain ⟨hg, rfl⟩ := hg
      obtain ⟨_, hlen, ha⟩ := hh hg
      obtain ⟨hsized, hcapr, hblk⟩ := r.row hr2
      have hl : ((xs2.drop off).take len).length = len := by simp; omega
      refine .t ?_
      have e : RT (fun b => S b ∨ RowsOf H μ b) W (.lst sz2 false ((xs2.drop off).take len)) (.slice a ((xs2.drop off).take len).length cap) := by
        by_cases hc0 : cap = 0
        · have h0 : len = 0 := by omega
          subst h0
          exact .lst a cap [] (by simp; exact .nil _) (by simp) (by simp) (fun _ => ⟨by simp, hc0⟩) (by simp [flat]) (by simp) (by simp) (by simp)
        · obtain ⟨rfl, hcc⟩ := ha hc0
          have hcr : (μ id).cap ≠ 0 := by omega
          obtain ⟨us, ty, fz, hw, _, hul, hrt⟩ := hblk hcr
          have hfl := flat_length hsized
          have hm1 : len * sz2 + off * sz2 ≤ xs2.length * sz2 := by rw [← Nat.add_mul]; exact Nat.mul_le_mul_right _ (by omega)
          have hm2 : xs2.length * sz2 ≤ (μ id).cap * sz2 := Nat.mul_le_mul_right _ hcapr
          refine .lst _ cap ((us.drop ((μ id).off + off * sz2)).take (len * sz2)) ((hsized.drop off).take len) (by omega) (by simp) (fun e => by simp at e) ?_ (fun a' e _ => ?_) (fun a' e i w hi => ?_) (fun i c w hi hw' => ?_)
          · rw [flat_take len (hsized.drop off), flat_drop off hsized]
            simp only [List.length_take, List.length_drop]; omega
          · cases e; exact .inr ⟨id, _, hr2, hcr, rfl⟩
          · cases e
            rw [List.getElem?_take] at hi
            split at hi
            · rw [List.getElem?_drop] at hi
              rw [add_eq rfl, cell_at hw]; exact hi
            · cases hi
          · rw [flat_take len (hsized.drop off), flat_drop off hsized] at hi
            rw [List.getElem?_take] at hi hw'
            split at hi
            · rw [if_pos (by assumption)] at hw'
              rw [List.getElem?_drop] at hi hw'
              exact (hrt _ c w hi (by rw [← Nat.add_assoc]; exact hw')).mono (fun b hb => .inl hb) (fun _ _ => rfl)
            · cases hi
      rw [hl] at e; exact e
    · exact .undef _
  | bsl a cap cs hb hcap hl ha => exact .undef _
  | ref cs hb => exact .undef _
  | elt a sz g xs hr hg hh => exact .undef _
  | ip a us hl hsp hS hc hr => exact .ip a us hl hsp (fun h => .inl (hS h)) hc fun i c u hi hu => (hr i c u hi hu).mono (fun b hb => .inl hb) (fun _ _ => rfl)
  | mp es hb => exact .undef _

/-- A call that only reads what it is handed, and whose results hold no slices within slices. -/
theorem SCall.lend {f : FuncId} {args : List V} {Q : V → Heap → Prop} (h : SCall P f (args.map (Abs.view H)) [] Q) (hflat : ∀ r N, Q r N → r.flatV = true ∧ N.all Obj.flatO = true) :
    SCall P f args H fun r H' => ∃ r0 N, Q r0 N ∧ r = r0.ren (tau [] H.length) ∧ H' = H ++ N.map (Obj.ren (tau [] H.length)) := by
  refine ⟨h.1, fun μ S W vals r ha => ?_⟩
  have r0 : Rel [] (fun _ => ⟨0, 0, 0⟩) (fun b => S b ∨ RowsOf H μ b) W := by
    refine ⟨fun id o h => by simp at h, fun i j hi => by obtain ⟨o, ho, _⟩ := hi; simp at ho, fun b hb => ?_⟩
    rcases hb with hb | ⟨id, q, h1, h2, rfl⟩
    · exact r.size b hb
    · obtain ⟨sz, g, xs⟩ := q; exact (r.row h1).lt h2
  refine (h.2 _ _ W vals r0 ⟨by simp [ha.1], fun i c u hc hu => ?_⟩).mono ?_
  · rw [List.getElem?_map] at hc
    cases e : args[i]? with
    | none => rw [e] at hc; cases hc
    | some y => rw [e] at hc; cases hc; exact (ha.2 i y u e hu).view r _
  rintro e W' ⟨v0, u, N, μF, S', rfl, hQ, rF, hv, lF⟩
  obtain ⟨hf1, hf2⟩ := hflat v0 N hQ
  have hnl : ∀ id, ¬ Live ([] : Heap) (fun _ => ⟨0, 0, 0⟩) id := fun id ⟨o, ho, _⟩ => by simp at ho
  have b : Below W.heap.size W W' := ⟨lF.os, lF.tape, lF.output, lF.size, fun k hk => lF.keep k hk fun id hl => absurd hl (hnl id)⟩
  let μ' : Nat → Loc := fun i => if i < H.length then μ i else μF (i - H.length)
  have m1 : ∀ i, i < H.length → μ' i = μ i := fun i h => by simp [μ', h]
  have m2 : ∀ j, μ' (H.length + j) = μF j := fun j => by simp only [μ', if_neg (show ¬ H.length + j < H.length by omega)]; congr 1; omega
  have hfr : ∀ j, Live N μF j → W.heap.size ≤ (μF j).blk := fun j hj => by
    rcases lF.fresh j hj with h | ⟨h, _⟩
    · exact h
    · exact absurd h (hnl j)
  let N' := N.map (Obj.ren (tau [] H.length))
  have inv : ∀ {j : Nat} {o : Obj}, N'[j]? = some o → ∃ o0, N[j]? = some o0 ∧ o = o0.ren (tau [] H.length) := by
    intro j o ho
    simp only [N', List.getElem?_map] at ho
    cases e : N[j]? with
    | none => rw [e] at ho; cases ho
    | some o0 => rw [e] at ho; cases ho; exact ⟨o0, rfl, rfl⟩
  have hren : Renames (tau [] H.length) N μF (H ++ N') μ' := fun j id hj => by
    simp only [tau, List.length_nil, Nat.not_lt_zero, if_false, Nat.sub_zero, Option.some.injEq] at hj
    subst hj
    exact ⟨by rw [List.getElem?_append_right (by omega), show H.length + j - H.length = j by omega]; simp [N'], m2 j⟩
  obtain ⟨r', l'⟩ := grow (μ' := μ') (S' := fun b => S b ∨ (W.heap.size ≤ b ∧ S' b)) r b (fun _ h => .inl h) (fun k h => by rcases h with h | h; exact .inl h; exact .inr h.1) (fun k h => by
      rcases h with h | h
      · exact Nat.lt_of_lt_of_le (r.size k h) b.size
      · exact rF.size k h.2) N' m1
    (fun j o ho hl => by
      obtain ⟨o0, e1, rfl⟩ := inv ho
      rw [Obj.ren_live, m2] at hl
      rw [m2]; exact hfr j ⟨o0, e1, hl⟩)
    (fun i j o o' ho ho' hl hl' e => by
      obtain ⟨o0, e1, rfl⟩ := inv ho
      obtain ⟨o1, e2, rfl⟩ := inv ho'
      rw [Obj.ren_live, m2] at hl hl'
      rw [m2, m2] at e
      exact rF.inj i j ⟨o0, e1, hl⟩ ⟨o1, e2, hl'⟩ e)
    (fun L j o ho => by
      obtain ⟨o0, e1, rfl⟩ := inv ho
      rw [m2]
      have hob := rF.objs j o0 e1
      have hflo := List.all_eq_true.1 hf2 o0 (List.mem_of_getElem? e1)
      have notS : ∀ (hl : o0.live (μF j) = true), ¬ (S (μF j).blk ∨ (W.heap.size ≤ (μF j).blk ∧ S' (μF j).blk)) := fun hl hs => by
        have h1 := hfr j ⟨o0, e1, hl⟩
        rcases hs with hs | hs
        · have := r.size _ hs; omega
        · exact rF.notS ⟨o0, e1, hl⟩ hs.2
      have hob2 : ObjOk μF (fun b => S b ∨ (W.heap.size ≤ b ∧ S' b)) N W' (μF j) o0 := by
        cases o0 with
        | box cs =>
          obtain ⟨h1, us, ty, h2, h3, h4⟩ := hob
          simp only [Obj.flatO, flatL_eq] at hflo
          exact ⟨notS rfl, us, ty, h2, h3, fun i c u hc hu => (h4 i c u hc hu).flat_any (List.all_eq_true.1 hflo c (List.mem_of_getElem? hc))⟩
        | row sz g xs => exact ⟨fun hc => notS (by simpa [Obj.live] using hc), hob.2.flat_any hflo⟩
        | frz sz g xs => simp [Obj.flatO] at hflo
        | map es => simp [Obj.flatO] at hflo
      exact hob2.ren hren)
  exact ⟨v0.ren (tau [] H.length), u, H ++ N', μ', _, rfl, ⟨v0, N, hQ, rfl, rfl⟩, r', (hv.flat_any hf1).ren hren, l'⟩

/-- An argument is frozen for good. -/
theorem SCall.frz {f : FuncId} {args : List V} {Q : V → Heap → Prop} (i : Nat) {v : V} {x : T} {H1 : Heap} (hget : args[i]? = some v) (hk : toT H v = some (x, H1)) (h : SCall P f (args.set i (.t x)) H1 Q) : SCall P f args H Q := by
  refine ⟨h.1, fun μ S W vals r ha => ?_⟩
  have hi : i < args.length := by obtain ⟨h, _⟩ := List.getElem?_eq_some_iff.1 hget; exact h
  have hiv : i < vals.length := by rw [← ha.1]; exact hi
  obtain ⟨S1, r1, l1, e1⟩ := toT_sound r (ha.2 i v vals[i] hget (by simp [hiv])) hk
  refine (h.2 μ S1 W vals r1 ⟨by simp [ha.1], fun j c u hc hu => ?_⟩).mono ?_
  · rw [List.getElem?_set] at hc
    split at hc
    · rename_i e; subst e
      first | rw [if_pos hi] at hc | skip
      cases hc
      rw [List.getElem?_eq_getElem hiv] at hu; cases hu
      exact .t e1
    · exact (ha.2 j c u hc hu).later l1 r
  · rintro e W' ⟨v0, u, H', μ', S', rfl, hQ, r', hv, l'⟩
    exact ⟨v0, u, H', μ', S', rfl, hQ, r', hv, l1.trans l'⟩
end
end Go.Abs

/- Rules for walking through the abstract machine's code. By the session itself. -/
namespace Go.Abs
open Go
set_option linter.unusedSimpArgs false
set_option linter.unusedVariables false

section
variable {Cl : Known} {n : Nat} {Q : Ex → St → Prop} {s : St} {H : Heap} {vs : List (Nat × V)} {k : V → Heap → Prop} {K : St → Prop}

theorem wpC_skip : wpC Cl n .skip Q s = Q .norm s := (rfl)
theorem wpC_rgn {is : List Ins} : wpC Cl n (.rgn is) Q s = wpR Cl is (Q .norm) s := (rfl)
theorem wpC_rgnD {p : Plan} : wpC Cl n (.rgnD p) Q s = wpP Cl p (Q .norm) s := (rfl)
theorem wpP_fin : wpP Cl .fin K s = K s := (rfl)
theorem wpP_val {i : Ins} {p : Plan} : wpP Cl (.val i p) K s = wpR Cl [i] (wpP Cl p K) s := (rfl)
theorem wpP_eff {d : Option Nat} {g : Option (Nat × Bool)} {op : Abs.K} {xs : List Opnd} {fl : List Ins} {p : Plan} : wpP Cl (.eff ⟨d, g, .op op xs⟩ fl p) K s = wpR Cl [⟨d, g, .op op xs⟩] (fun s' => flos fl s' (wpP Cl p K s')) s := (rfl)
theorem wpP_alt {p q : Plan} : wpP Cl (.alt p q) K s = (wpP Cl p K s ∧ wpP Cl q K s) := (rfl)
theorem flos_nil {q : Prop} : flos [] s q = q := (rfl)
theorem flos_cons {i : Ins} {is : List Ins} {q : Prop} : flos (i :: is) s q = (flo i s ∧ flos is s q) := (rfl)
theorem flo_plain {d : Nat} {op : Abs.K} {xs : List Opnd} : flo ⟨some d, none, .op op xs⟩ ⟨vs, H⟩ = stepK H op (xs.map (ev vs)) fun v _ => v = get vs d := (rfl)
theorem flo_guard {d t : Nat} {w : Bool} {op : Abs.K} {xs : List Opnd} : flo ⟨some d, some (t, w), .op op xs⟩ ⟨vs, H⟩ = guardV (get vs t) w (stepK H op (xs.map (ev vs)) fun v _ => v = get vs d) (get vs d = .undef) := (rfl)
theorem wpC_seq {a b : Cd} : wpC Cl n (.seq a b) Q s = wpC Cl n a (thenK (wpC Cl n b Q) Q) s := (rfl)
theorem wpC_cond {c : Opnd} {a b : Cd} : wpC Cl n (.cond c a b) Q ⟨vs, H⟩ = condV (ev vs c) (wpC Cl n a Q ⟨vs, H⟩) (wpC Cl n b Q ⟨vs, H⟩) := (rfl)
theorem wpC_block {id : Nat} {c : Cd} : wpC Cl n (.block id c) Q s = wpC Cl n c (blockK id Q) s := (rfl)
theorem wpC_exit {id : Nat} : wpC Cl n (.exit id) Q s = Q (.exit id) s := (rfl)
theorem wpC_ret : wpC Cl n .ret Q s = Q .ret s := (rfl)
theorem thenK_norm {q : St → Prop} : thenK q Q .norm s = q s := (rfl)
theorem thenK_exit {q : St → Prop} {id : Nat} : thenK q Q (.exit id) s = Q (.exit id) s := (rfl)
theorem thenK_ret {q : St → Prop} : thenK q Q .ret s = Q .ret s := (rfl)
theorem blockK_norm {id : Nat} : blockK id Q .norm s = Q .norm s := (rfl)
theorem blockK_exit {id i : Nat} : blockK id Q (.exit i) s = if i = id then Q .norm s else Q (.exit i) s := (rfl)
theorem blockK_ret {id : Nat} : blockK id Q .ret s = Q .ret s := (rfl)
theorem exitK_norm {rs : List Res} {q : V → Heap → Prop} : exitK n rs q .norm s = finK n rs q s := (rfl)
theorem exitK_ret {rs : List Res} {q : V → Heap → Prop} : exitK n rs q .ret s = finK n rs q s := (rfl)
theorem wpR_nil : wpR Cl [] K s = K s := (rfl)
theorem wpR_cons {d : Nat} {op : Abs.K} {xs : List Opnd} {r : List Ins} : wpR Cl (⟨some d, none, .op op xs⟩ :: r) K ⟨vs, H⟩ = stepK H op (xs.map (ev vs)) fun v H => wpR Cl r K ⟨(d, v) :: vs, H⟩ := (rfl)
theorem wpR_cons_none {op : Abs.K} {xs : List Opnd} {r : List Ins} : wpR Cl (⟨none, none, .op op xs⟩ :: r) K ⟨vs, H⟩ = stepK H op (xs.map (ev vs)) fun _ H => wpR Cl r K ⟨vs, H⟩ := (rfl)
theorem wpR_guard {d t : Nat} {want : Bool} {op : Abs.K} {xs : List Opnd} {r : List Ins} : wpR Cl (⟨some d, some (t, want), .op op xs⟩ :: r) K ⟨vs, H⟩ = guardV (get vs t) want (stepK H op (xs.map (ev vs)) fun v H => wpR Cl r K ⟨(d, v) :: vs, H⟩) (wpR Cl r K ⟨(d, .undef) :: vs, H⟩) := (rfl)
theorem wpR_guard_none {t : Nat} {want : Bool} {op : Abs.K} {xs : List Opnd} {r : List Ins} : wpR Cl (⟨none, some (t, want), .op op xs⟩ :: r) K ⟨vs, H⟩ = guardV (get vs t) want (stepK H op (xs.map (ev vs)) fun _ H => wpR Cl r K ⟨vs, H⟩) (wpR Cl r K ⟨vs, H⟩) := (rfl)
theorem callV_fn {f : FuncId} {caps args : List V} : callV Cl (.fn f caps) args H k = Cl f (args ++ caps) H k := (rfl)
theorem map_nil' {f : Opnd → V} : List.map f [] = [] := (rfl)
theorem map_cons' {f : Opnd → V} {x : Opnd} {xs : List Opnd} : List.map f (x :: xs) = f x :: List.map f xs := (rfl)
theorem ev_tmp {t : Nat} : ev vs (.tmp t) = get vs t := (rfl)
theorem ev_val {v : V} : ev vs (.val v) = v := (rfl)
theorem get_nil {t : Nat} : get [] t = .undef := (rfl)
theorem get_cons {j t : Nat} {v : V} : get ((j, v) :: vs) t = if j = t then v else get vs t := (rfl)
theorem putO_some {t : Nat} {v : V} : putO vs (some t) v = (t, v) :: vs := (rfl)
theorem putO_none {v : V} : putO vs none v = vs := (rfl)
theorem initVs_nil {i : Nat} : initVs i [] = [] := (rfl)
theorem initVs_cons {i : Nat} {v : V} {r : List V} : initVs i (v :: r) = (i, v) :: initVs (i + 1) r := (rfl)

theorem condV_true {yes no : Prop} : condV (.t (.bool true)) yes no = yes := by simp [condV]
theorem condV_false {yes no : Prop} : condV (.t (.bool false)) yes no = no := by simp [condV]
theorem condV_dec {p yes no : Prop} [Decidable p] (h : p → yes) (h' : ¬ p → no) : condV (.t (.bool (decide p))) yes no := ⟨fun e => h (of_decide_eq_true e), fun e => h' (of_decide_eq_false e)⟩
theorem condV_ndec {p yes no : Prop} [Decidable p] (h : ¬ p → yes) (h' : p → no) : condV (.t (.bool (!decide p))) yes no := ⟨fun e => h (by simpa using e), fun e => h' (by simpa using e)⟩
theorem guardV_tt {yes no : Prop} : guardV (.t (.bool true)) true yes no = yes := by simp [guardV]
theorem guardV_ff {yes no : Prop} : guardV (.t (.bool false)) false yes no = yes := by simp [guardV]
theorem guardV_tf {yes no : Prop} : guardV (.t (.bool true)) false yes no = no := by simp [guardV]
theorem guardV_ft {yes no : Prop} : guardV (.t (.bool false)) true yes no = no := by simp [guardV]

theorem stepK_id {x : V} : stepK H .id [x] k = k x H := by simp [stepK, K.isEff, kval, kk]
theorem stepK_strId {s : ByteArray} : stepK H .strId [.t (.str s)] k = k (.t (.str s)) H := by simp [stepK, K.isEff, kval, kk]
theorem stepK_pick {c : Bool} {a b : V} : stepK H .pick [.t (.bool c), a, b] k = k (if c then a else b) H := by simp [stepK, K.isEff, kval, kk]
theorem stepK_add {d : IntKind} {a b : Int} : stepK H (.bin .add) [.t (.int d a), .t (.int d b)] k = k (.t (.int d (d.wrap (a + b)))) H := by simp [stepK, K.isEff, kval, kk, kbin, isShift, binInt]
theorem stepK_sub {d : IntKind} {a b : Int} : stepK H (.bin .sub) [.t (.int d a), .t (.int d b)] k = k (.t (.int d (d.wrap (a - b)))) H := by simp [stepK, K.isEff, kval, kk, kbin, isShift, binInt]
theorem stepK_mul {d : IntKind} {a b : Int} : stepK H (.bin .mul) [.t (.int d a), .t (.int d b)] k = k (.t (.int d (d.wrap (a * b)))) H := by simp [stepK, K.isEff, kval, kk, kbin, isShift, binInt]
theorem stepK_quo {d : IntKind} {a b : Int} : stepK H (.bin .quo) [.t (.int d a), .t (.int d b)] k = (b ≠ 0 ∧ k (.t (.int d (d.wrap (a.tdiv b)))) H) := by simp [stepK, K.isEff, kval, kk, kbin, isShift, binInt]
theorem stepK_rem {d : IntKind} {a b : Int} : stepK H (.bin .rem) [.t (.int d a), .t (.int d b)] k = (b ≠ 0 ∧ k (.t (.int d (a.tmod b))) H) := by simp [stepK, K.isEff, kval, kk, kbin, isShift, binInt]
theorem stepK_and {d : IntKind} {a b : Int} : stepK H (.bin .and) [.t (.int d a), .t (.int d b)] k = k (.t (.int d (bits .and d a b))) H := by simp [stepK, K.isEff, kval, kk, kbin, isShift, binInt]
theorem stepK_or {d : IntKind} {a b : Int} : stepK H (.bin .or) [.t (.int d a), .t (.int d b)] k = k (.t (.int d (bits .or d a b))) H := by simp [stepK, K.isEff, kval, kk, kbin, isShift, binInt]
theorem stepK_xor {d : IntKind} {a b : Int} : stepK H (.bin .xor) [.t (.int d a), .t (.int d b)] k = k (.t (.int d (bits .xor d a b))) H := by simp [stepK, K.isEff, kval, kk, kbin, isShift, binInt]
theorem stepK_andNot {d : IntKind} {a b : Int} : stepK H (.bin .andNot) [.t (.int d a), .t (.int d b)] k = k (.t (.int d (bits .andNot d a b))) H := by simp [stepK, K.isEff, kval, kk, kbin, isShift, binInt]
theorem stepK_eql {d : IntKind} {a b : Int} : stepK H (.bin .eql) [.t (.int d a), .t (.int d b)] k = k (.t (.bool (decide (a = b)))) H := by simp [stepK, K.isEff, kval, kk, kbin, isShift, binInt]
theorem stepK_neq {d : IntKind} {a b : Int} : stepK H (.bin .neq) [.t (.int d a), .t (.int d b)] k = k (.t (.bool (!decide (a = b)))) H := by simp [stepK, K.isEff, kval, kk, kbin, isShift, binInt]
theorem stepK_lss {d : IntKind} {a b : Int} : stepK H (.bin .lss) [.t (.int d a), .t (.int d b)] k = k (.t (.bool (decide (a < b)))) H := by simp [stepK, K.isEff, kval, kk, kbin, isShift, binInt]
theorem stepK_leq {d : IntKind} {a b : Int} : stepK H (.bin .leq) [.t (.int d a), .t (.int d b)] k = k (.t (.bool (decide (a ≤ b)))) H := by simp [stepK, K.isEff, kval, kk, kbin, isShift, binInt]
theorem stepK_gtr {d : IntKind} {a b : Int} : stepK H (.bin .gtr) [.t (.int d a), .t (.int d b)] k = k (.t (.bool (decide (b < a)))) H := by simp [stepK, K.isEff, kval, kk, kbin, isShift, binInt]
theorem stepK_geq {d : IntKind} {a b : Int} : stepK H (.bin .geq) [.t (.int d a), .t (.int d b)] k = k (.t (.bool (decide (b ≤ a)))) H := by simp [stepK, K.isEff, kval, kk, kbin, isShift, binInt]
theorem stepK_shl {d d' : IntKind} {a b : Int} : stepK H (.bin .shl) [.t (.int d a), .t (.int d' b)] k = (0 ≤ b ∧ k (.t (.int d (d.wrap (a * 2 ^ (min b.toNat d.bits))))) H) := by simp [stepK, K.isEff, kval, kk, kbin, isShift, binShift]
theorem stepK_shr {d d' : IntKind} {a b : Int} : stepK H (.bin .shr) [.t (.int d a), .t (.int d' b)] k = (0 ≤ b ∧ k (.t (.int d (a.fdiv (2 ^ (min b.toNat d.bits))))) H) := by simp [stepK, K.isEff, kval, kk, kbin, isShift, binShift]
theorem stepK_sadd {a b : ByteArray} : stepK H (.bin .add) [.t (.str a), .t (.str b)] k = ((a.size + b.size : Int) ≤ 9223372036854775807 ∧ k (.t (.str (a ++ b))) H) := by simp [stepK, K.isEff, kval, kk, kbin, binStr]
theorem stepK_seql {a b : ByteArray} : stepK H (.bin .eql) [.t (.str a), .t (.str b)] k = k (.t (.bool (decide (a = b)))) H := by simp [stepK, K.isEff, kval, kk, kbin, binStr]
theorem stepK_sneq {a b : ByteArray} : stepK H (.bin .neq) [.t (.str a), .t (.str b)] k = k (.t (.bool (!decide (a = b)))) H := by simp [stepK, K.isEff, kval, kk, kbin, binStr]
theorem stepK_beql {a b : Bool} : stepK H (.binB .eql) [.t (.bool a), .t (.bool b)] k = k (.t (.bool (a == b))) H := by simp [stepK, K.isEff, kval, kk, kbinB]
theorem stepK_bneq {a b : Bool} : stepK H (.binB .neq) [.t (.bool a), .t (.bool b)] k = k (.t (.bool (!(a == b)))) H := by simp [stepK, K.isEff, kval, kk, kbinB]
theorem stepK_not {b : Bool} : stepK H (.un .not) [.t (.bool b)] k = k (.t (.bool (!b))) H := by simp [stepK, K.isEff, kval, kk, kun]
theorem stepK_neg {d : IntKind} {a : Int} : stepK H (.un .neg) [.t (.int d a)] k = k (.t (.int d (d.wrap (0 - a)))) H := by simp [stepK, K.isEff, kval, kk, kun]
theorem stepK_com {d : IntKind} {a : Int} : stepK H (.un .xor) [.t (.int d a)] k = k (.t (.int d (bits .xor d (if d.signed then -1 else d.max) a))) H := by simp [stepK, K.isEff, kval, kk, kun]
theorem stepK_conv {d d' : IntKind} {a : Int} : stepK H (.conv d) [.t (.int d' a)] k = k (.t (.int d (d.wrap a))) H := by simp [stepK, K.isEff, kval, kk]
theorem stepK_toStr {x : V} : stepK H .toStr [x] k = kk (ktoStr H x) H k := (rfl)
theorem stepK_len {x : V} : stepK H .len [x] k = kk (klen x) H k := (rfl)
theorem klen_lst {sz : Nat} {b : Bool} {xs : List T} : klen (.t (.lst sz b xs)) = some (True, .t (.int .i64 xs.length)) := (rfl)
theorem klen_sl {id off len gen sz : Nat} : klen (.sl id off len gen sz) = some (True, .t (.int .i64 len)) := (rfl)
theorem klen_bsl {id off len : Nat} : klen (.bsl id off len) = some (True, .t (.int .i64 len)) := (rfl)
theorem stepK_lenS {s : ByteArray} : stepK H .lenS [.t (.str s)] k = k (.t (.int .i64 s.size)) H := by simp [stepK, K.isEff, kval, kk, klenS]
theorem stepK_lenC {m : Nat} {x : V} : stepK H (.lenC m) [x] k = k (.t (.int .i64 m)) H := by simp [stepK, K.isEff, kval, kk]
theorem stepK_min2 {d d' : IntKind} {a b : Int} : stepK H .min2 [.t (.int d a), .t (.int d' b)] k = k (.t (.int d (if b < a then b else a))) H := by simp [stepK, K.isEff, kval, kk, kmin2]
theorem stepK_max2 {d d' : IntKind} {a b : Int} : stepK H .max2 [.t (.int d a), .t (.int d' b)] k = k (.t (.int d (if a < b then b else a))) H := by simp [stepK, K.isEff, kval, kk, kmax2]
theorem stepK_field1 {off m : Nat} {x : V} : stepK H (.field off m true) [x] k = kk (kfield1 off x) H k := (rfl)
theorem stepK_fieldN {off m : Nat} {x : V} : stepK H (.field off m false) [x] k = kk (kfieldN off m x) H k := (rfl)
theorem kfield1_agg {off : Nat} {cs : List V} : kfield1 off (.agg cs) = some (off < cs.length, cs.getD off .undef) := (rfl)
theorem kfield1_t {off : Nat} {cs : List T} : kfield1 off (.t (.agg cs)) = some (off < (cs.map V.t).length, (cs.map V.t).getD off .undef) := (rfl)
theorem kfieldN_agg {off m : Nat} {cs : List V} : kfieldN off m (.agg cs) = some (off + m ≤ cs.length, .agg ((cs.drop off).take m)) := (rfl)
theorem kfieldN_t {off m : Nat} {cs : List T} : kfieldN off m (.t (.agg cs)) = some (off + m ≤ (cs.map V.t).length, .agg (((cs.map V.t).drop off).take m)) := (rfl)
theorem stepK_build' {zero : List T} {ps : List (Nat × Nat)} {xs : List V} : stepK H (.build zero ps) xs k = kk (match fillV (zero.map .t) ps xs with | some cs => some (True, .agg cs) | none => none) H k := (rfl)
theorem stepK_load1 {x : V} : stepK H .load1 [x] k = kk (kload1 H x) H k := (rfl)
theorem stepK_loadN {m : Nat} {x : V} : stepK H (.loadN m) [x] k = kk (kloadN m H x) H k := (rfl)
theorem kload1_ip {cs : List T} : kload1 H (.ip cs) = some (0 < cs.length, .t (T.at cs 0)) := (rfl)
theorem kloadN_ip {m : Nat} {cs : List T} : kloadN m H (.ip cs) = some (m ≤ cs.length, .agg ((cs.take m).map .t)) := (rfl)
theorem kload1_ref {id off : Nat} : kload1 H (.ref id off) = (match H[id]? with
    | some (.box cs) => some (off < cs.length, cs.getD off .undef)
    | _ => none) := (rfl)
theorem kloadN_ref {m id off : Nat} : kloadN m H (.ref id off) = (match H[id]? with
    | some (.box cs) => some (off + m ≤ cs.length, .agg ((cs.drop off).take m))
    | _ => none) := (rfl)
theorem kload1_elt {id i off gen : Nat} : kload1 H (.elt id i off gen) = (match rowOf H[id]? with
    | some (_, g, xs) => if gen = g then some (off < (T.at xs i).cells.length, .t (T.at (T.at xs i).cells off)) else none
    | none => none) := (rfl)
theorem kidxS_sl {m id off len gen sz : Nat} {d : IntKind} {i : Int} : kidxS m H (.sl id off len gen sz) (.t (.int d i)) = (match rowOf H[id]? with
    | some (sz', g, _) => if gen = g ∧ sz' = sz ∧ sz = m then some (0 ≤ i ∧ i < len, .elt id (off + i.toNat) 0 gen) else none
    | none => none) := (rfl)
theorem kidxS_bsl {m id off len : Nat} {d : IntKind} {i : Int} : kidxS m H (.bsl id off len) (.t (.int d i)) = some (m = 1 ∧ 0 ≤ i ∧ i < len, .ref id (off + i.toNat)) := (rfl)
theorem at_zero {x : T} {r : List T} : T.at (x :: r) 0 = x := (rfl)
theorem stepK_fieldA_ref {off id o : Nat} : stepK H (.fieldA off) [.ref id o] k = k (.ref id (o + off)) H := by simp [stepK, K.isEff, kval, kk, kfieldA]
theorem stepK_fieldA_elt {off id i o g : Nat} : stepK H (.fieldA off) [.elt id i o g] k = k (.elt id i (o + off) g) H := by simp [stepK, K.isEff, kval, kk, kfieldA]
theorem stepK_fieldA_ip {off : Nat} {cs : List T} : stepK H (.fieldA off) [.ip cs] k = k (.ip (cs.drop off)) H := by simp [stepK, K.isEff, kval, kk, kfieldA]
theorem stepK_idxS {m : Nat} {x i : V} : stepK H (.idxS m) [x, i] k = kk (kidxS m H x i) H k := (rfl)
theorem kidxS_lst {m sz : Nat} {b : Bool} {xs : List T} {d : IntKind} {i : Int} : kidxS m H (.t (.lst sz b xs)) (.t (.int d i)) = some (sz = m ∧ 0 ≤ i ∧ i < xs.length, .ip (T.at xs i.toNat).cells) := (rfl)
theorem stepK_idxA {len sz : Nat} {x i : V} : stepK H (.idxA len sz) [x, i] k = kk (kidxA len sz x i) H k := (rfl)
theorem kidxA_ref {len sz id o : Nat} {d : IntKind} {i : Int} : kidxA len sz (.ref id o) (.t (.int d i)) = some (0 ≤ i ∧ i < len, .ref id (o + i.toNat * sz)) := (rfl)
theorem kidxA_elt {len sz id j o g : Nat} {d : IntKind} {i : Int} : kidxA len sz (.elt id j o g) (.t (.int d i)) = some (0 ≤ i ∧ i < len, .elt id j (o + i.toNat * sz) g) := (rfl)
theorem kidxA_ip {len sz : Nat} {cs : List T} {d : IntKind} {i : Int} : kidxA len sz (.ip cs) (.t (.int d i)) = some (0 ≤ i ∧ i < len, .ip (cs.drop (i.toNat * sz))) := (rfl)
theorem stepK_idxStr {s : ByteArray} {d : IntKind} {i : Int} : stepK H .idxStr [.t (.str s), .t (.int d i)] k = ((0 ≤ i ∧ i < s.size) ∧ k (.t (.int .u8 (bt s i.toNat))) H) := by simp [stepK, K.isEff, kval, kk, kidxStr]
theorem stepK_slice {m : Nat} {lo hi : Bool} {x : V} {r : List V} : stepK H (.slice m lo hi) (x :: r) k = kk (kslice m lo hi x r) H k := (rfl)
theorem stepK_sliceStr {lo hi : Bool} {x : V} {r : List V} : stepK H (.sliceStr lo hi) (x :: r) k = kk (ksliceStr lo hi x r) H k := (rfl)
theorem stepK_sliceA {m : Nat} {lo hi : Bool} {x : V} {r : List V} : stepK H (.sliceA m lo hi) (x :: r) k = kk (ksliceA H m lo hi x r) H k := (rfl)
theorem kslice_lst {m sz : Nat} {lo hi tight : Bool} {xs : List T} {r : List V} : kslice m lo hi (.t (.lst sz tight xs)) r = (match bounds xs.length lo hi r with | some (c, l, h) => some ((sz = m ∨ xs = []) ∧ c, .t (.lst sz (tight && !hi) ((xs.take h).drop l))) | none => none) := (rfl)
theorem kslice_sl {m id off len gen sz : Nat} {lo hi : Bool} {r : List V} : kslice m lo hi (.sl id off len gen sz) r = (match bounds len lo hi r with | some (c, l, h) => some (sz = m ∧ c, .sl id (off + l) (h - l) gen sz) | none => none) := (rfl)
theorem ksliceStr_str {lo hi : Bool} {s : ByteArray} {r : List V} : ksliceStr lo hi (.t (.str s)) r = (match bounds s.size lo hi r with | some (c, l, h) => some (c, .t (.str (s.extract l h))) | none => none) := (rfl)
theorem bounds_ff {m : Nat} : bounds m false false [] = some (True, 0, m) := (rfl)
theorem bounds_tf {m : Nat} {d : IntKind} {l : Int} : bounds m true false [.t (.int d l)] = some (0 ≤ l ∧ l ≤ m, l.toNat, m) := (rfl)
theorem bounds_ft {m : Nat} {d : IntKind} {h : Int} : bounds m false true [.t (.int d h)] = some (0 ≤ h ∧ h ≤ m, 0, h.toNat) := (rfl)
theorem bounds_tt {m : Nat} {d d' : IntKind} {l h : Int} : bounds m true true [.t (.int d l), .t (.int d' h)] = some (0 ≤ l ∧ l ≤ h ∧ h ≤ m, l.toNat, h.toNat) := (rfl)
theorem stepK_extract {i : Nat} {l : List V} : stepK H (.extract i) [.tup l] k = (i < l.length ∧ k (l.getD i .undef) H) := by simp [stepK, K.isEff, kval, kk]
theorem stepK_mkfn {f : FuncId} {caps : List V} : stepK H (.mkfn f) caps k = k (.fn f caps) H := by simp [stepK, K.isEff, kval, kk]
theorem stepK_nilck_ref {id o : Nat} : stepK H .nilck [.ref id o] k = k (.ref id o) H := by simp [stepK, K.isEff, kval, kk]
theorem stepK_nilck_elt {id i o g : Nat} : stepK H .nilck [.elt id i o g] k = k (.elt id i o g) H := by simp [stepK, K.isEff, kval, kk]
theorem stepK_nilck_ip {cs : List T} : stepK H .nilck [.ip cs] k = k (.ip cs) H := by simp [stepK, K.isEff, kval, kk]
theorem stepK_nilck_fn {f : FuncId} {cs : List V} : stepK H .nilck [.fn f cs] k = k (.fn f cs) H := by simp [stepK, K.isEff, kval, kk]
theorem stepK_alloc {zero : List T} : stepK H (.alloc zero) [] k = k (.ref H.length 0) (H ++ [.box (zero.map .t)]) := by simp [stepK, K.isEff, keff, ke]
theorem stepK_box {x : V} : stepK H .box [x] k = ((x.solid = true ∧ x.cells.all V.one = true) ∧ k (.ref H.length 0) (H ++ [.box x.cells])) := (rfl)
theorem stepK_store {m : Nat} {a v : V} : stepK H (.store m) [a, v] k = ke (kstore H m a v) k := (rfl)
theorem stepK_buildSlice {sz len : Nat} {zero : T} {ps : List Nat} {xs : List V} : stepK H (.buildSlice sz zero len ps) xs k = ke (keff H (.buildSlice sz zero len ps) xs) k := (rfl)
theorem stepK_buildRow {sz len : Nat} {zero : T} {ps : List Nat} {xs : List V} : stepK H (.buildRow sz zero len ps) xs k = ke (keff H (.buildRow sz zero len ps) xs) k := (rfl)
theorem stepK_makeSlice {sz b : Nat} {zero : T} {d d' : IntKind} {l c : Int} : stepK H (.makeSlice sz b zero) [.t (.int d l), .t (.int d' c)] k =
    ((0 ≤ l ∧ l ≤ c ∧ c < 9223372036854775808 ∧ b * c ≤ 2 ^ 46) ∧ k (.sl H.length 0 l.toNat 0 sz) (H ++ [.row sz 0 (List.replicate l.toNat zero)])) := (rfl)
theorem stepK_append {sz b : Nat} {x y : V} : stepK H (.append sz b) [x, y] k = ke (match elems H sz y with | some ys => kappend H sz b x ys | none => none) k := (rfl)
theorem stepK_appendStr {b : Nat} {x : V} {s : ByteArray} : stepK H (.appendStr b) [x, .t (.str s)] k = ke (kappend H 1 b x (strElems s)) k := (rfl)
theorem stepK_copy {sz : Nat} {x y : V} : stepK H (.copy sz) [x, y] k = ke (match elems H sz y with | some ys => kcopy H sz x ys | none => none) k := (rfl)
theorem stepK_mark {x : V} : stepK H .mark [x] k = ke (keff H .mark [x]) k := (rfl)
theorem keff_buildSlice {sz len : Nat} {zero : T} {ps : List Nat} {xs : List V} : keff H (.buildSlice sz zero len ps) xs = (match toElems H xs with
    | some (es, H1) => some (es.length = ps.length ∧ (ps.all (· < len)) = true ∧ (es.all fun e => e.cells.length == sz && e.cells.all T.one) = true, .t (.lst sz true (setElems (List.replicate len zero) ps es)), H1)
    | none => none) := (rfl)
theorem keff_buildRow {sz len : Nat} {zero : T} {ps : List Nat} {xs : List V} : keff H (.buildRow sz zero len ps) xs = (match toElems H xs with
    | some (es, H1) => some (es.length = ps.length ∧ (ps.all (· < len)) = true ∧ (es.all fun e => e.cells.length == sz && e.cells.all T.one) = true, .sl H1.length 0 len 0 sz, H1 ++ [.row sz 0 (setElems (List.replicate len zero) ps es)])
    | none => none) := (rfl)
theorem toElems_nil : toElems H [] = some ([], H) := (rfl)
theorem toElems_cons {v : V} {r : List V} : toElems H (v :: r) = (match toElem H v with
    | some (x, H1) => match toElems H1 r with
      | some (xs, H2) => some (x :: xs, H2)
      | none => none
    | none => none) := (rfl)
theorem toElem_t {x : T} : toElem H (.t x) = some (x, H) := (rfl)
theorem toElem_agg {cs : List V} : toElem H (.agg cs) = (match toTs H cs with
    | some (xs, H1) => some (.agg xs, H1)
    | none => none) := (rfl)
theorem toTs_nil : toTs H [] = some ([], H) := (rfl)
theorem toTs_cons {v : V} {r : List V} : toTs H (v :: r) = (match toT H v with
    | some (x, H1) => match toTs H1 r with
      | some (xs, H2) => some (x :: xs, H2)
      | none => none
    | none => none) := (rfl)
theorem toT_t {x : T} : toT H (.t x) = some (x, H) := (rfl)
theorem setElems_cons {zs : List T} {i : Nat} {is : List Nat} {x : T} {xs : List T} : setElems zs (i :: is) (x :: xs) = setElems (zs.set i x) is xs := (rfl)
theorem setElems_nil {zs : List T} {xs : List T} : setElems zs [] xs = zs := by unfold setElems; rfl
theorem kstore_ref {m id off : Nat} {v : V} : kstore H m (.ref id off) v = (match H[id]? with
    | some (.box cs) => some (v.solid = true ∧ v.cells.length = m ∧ off + m ≤ cs.length ∧ (v.cells.all V.one) = true, .undef, H.set id (.box (putAt cs off v.cells)))
    | _ => none) := (rfl)
theorem kstore_elt {m id i off gen : Nat} {v : V} : kstore H m (.elt id i off gen) v = (match toElem H v with
    | some (x, H1) => match H1[id]? with
      | some (.row sz g xs) => if gen = g then some (i < xs.length ∧ x.cells.length = m ∧ off + m ≤ sz ∧ x.cells.all T.one = true, .undef, H1.set id (.row sz g (xs.set i (elemPut (T.at xs i) off x)))) else none
      | _ => none
    | none => none) := (rfl)
theorem kcopy_sl {m id off len gen sz' : Nat} {ys : List T} : kcopy H m (.sl id off len gen sz') ys = (match H[id]? with
    | some (.row s2 g xs) => if gen = g ∧ s2 = m ∧ sz' = m then some (True, .int .i64 ((min ys.length len : Nat) : Int), H.set id (.row m g (putAt xs off (ys.take len)))) else none
    | _ => none) := (rfl)
theorem elemPut_int {d : IntKind} {n : Int} {off : Nat} {x : T} : elemPut (.int d n) off x = T.at x.cells 0 := (rfl)
theorem elemPut_bool {b : Bool} {off : Nat} {x : T} : elemPut (.bool b) off x = T.at x.cells 0 := (rfl)
theorem kk_some {c : Prop} {v : V} : kk (some (c, v)) H k = (c ∧ k v H) := (rfl)
theorem ke_some {c : Prop} {v : V} {H' : Heap} : ke (some (c, v, H')) k = (c ∧ k v H') := (rfl)
theorem elems_lst {m sz : Nat} {b : Bool} {xs : List T} (h : sz = m ∨ xs = []) : elems H m (.t (.lst sz b xs)) = some xs := by simp only [elems, if_pos h]
theorem elems_lst' {m : Nat} {b : Bool} {xs : List T} : elems H m (.t (.lst m b xs)) = some xs := by simp [elems]
theorem elems_nil {m sz : Nat} {b : Bool} : elems H m (.t (.lst sz b [])) = some [] := by simp [elems]
theorem kappend_tight {sz b sz' : Nat} {xs ys : List T} : kappend H sz b (.t (.lst sz' true xs)) ys = some ((xs = [] ∨ ys ≠ []) ∧ (xs = [] ∨ sz' = sz) ∧ (xs.length + ys.length) * b ≤ 2 ^ 47, .sl H.length 0 (xs.length + ys.length) 0 sz, H ++ [.row sz 0 (xs ++ ys)]) := (rfl)
theorem kappend_nil {sz b sz' : Nat} {ys : List T} : kappend H sz b (.t (.lst sz' true [])) ys = some (ys.length * b ≤ 2 ^ 47, .sl H.length 0 ys.length 0 sz, H ++ [.row sz 0 ys]) := by simp [kappend]

theorem kappend_sl {sz b id off len gen sz' : Nat} {ys : List T} : kappend H sz b (.sl id off len gen sz') ys = (match H[id]? with
    | some (.row s2 g xs) => if gen = g ∧ off = 0 ∧ s2 = sz ∧ sz' = sz then some (len = xs.length ∧ (xs.length + ys.length) * b ≤ 2 ^ 47, .sl id 0 (len + ys.length) (g + 1) sz, H.set id (.row sz (g + 1) (xs ++ ys))) else none
    | _ => none) := (rfl)
theorem w64 {x : Int} (h : -9223372036854775808 ≤ x ∧ x ≤ 9223372036854775807) : IntKind.i64.wrap x = x := by simp [IntKind.wrap, IntKind.bits, IntKind.signed]; omega
theorem wu64 {x : Int} (h : 0 ≤ x ∧ x ≤ 18446744073709551615) : IntKind.u64.wrap x = x := by simp [IntKind.wrap, IntKind.bits, IntKind.signed]; omega
theorem wu8 {x : Int} (h : 0 ≤ x ∧ x ≤ 255) : IntKind.u8.wrap x = x := by simp [IntKind.wrap, IntKind.bits, IntKind.signed]; omega

theorem vcells_agg {cs : List V} : (V.agg cs).cells = cs := (rfl)
theorem vcells_tagg {cs : List T} : (V.t (.agg cs)).cells = cs.map V.t := (rfl)
theorem vcells_int {d : IntKind} {n : Int} : (V.t (.int d n)).cells = [.t (.int d n)] := (rfl)
theorem vcells_bool {b : Bool} : (V.t (.bool b)).cells = [.t (.bool b)] := (rfl)
theorem vcells_str {s : ByteArray} : (V.t (.str s)).cells = [.t (.str s)] := (rfl)
theorem vcells_lst {sz : Nat} {b : Bool} {xs : List T} : (V.t (.lst sz b xs)).cells = [.t (.lst sz b xs)] := (rfl)
theorem vcells_sl {id off len gen sz : Nat} : (V.sl id off len gen sz).cells = [.sl id off len gen sz] := (rfl)
theorem vcells_ref {id off : Nat} : (V.ref id off).cells = [.ref id off] := (rfl)
theorem solid_t {x : T} : (V.t x).solid = true := (rfl)
theorem solid_agg {cs : List V} : (V.agg cs).solid = true := (rfl)
theorem solid_sl {id off len gen sz : Nat} : (V.sl id off len gen sz).solid = true := (rfl)
theorem solid_ref {id off : Nat} : (V.ref id off).solid = true := (rfl)
theorem vone_int {d : IntKind} {n : Int} : (V.t (.int d n)).one = true := (rfl)
theorem vone_bool {b : Bool} : (V.t (.bool b)).one = true := (rfl)
theorem vone_str {s : ByteArray} : (V.t (.str s)).one = true := (rfl)
theorem vone_lst {sz : Nat} {b : Bool} {xs : List T} : (V.t (.lst sz b xs)).one = true := (rfl)
theorem vone_sl {id off len gen sz : Nat} : (V.sl id off len gen sz).one = true := (rfl)
theorem vone_ref {id off : Nat} : (V.ref id off).one = true := (rfl)
theorem tcells_agg {cs : List T} : (T.agg cs).cells = cs := (rfl)
theorem tcells_int {d : IntKind} {n : Int} : (T.int d n).cells = [.int d n] := (rfl)
theorem tcells_bool {b : Bool} : (T.bool b).cells = [.bool b] := (rfl)
theorem tcells_str {s : ByteArray} : (T.str s).cells = [.str s] := (rfl)
theorem tcells_lst {sz : Nat} {b : Bool} {xs : List T} : (T.lst sz b xs).cells = [.lst sz b xs] := (rfl)
theorem tone_int {d : IntKind} {n : Int} : (T.int d n).one = true := (rfl)
theorem tone_bool {b : Bool} : (T.bool b).one = true := (rfl)
theorem tone_str {s : ByteArray} : (T.str s).one = true := (rfl)
theorem tone_lst {sz : Nat} {b : Bool} {xs : List T} : (T.lst sz b xs).one = true := (rfl)
theorem rowOf_row {sz g : Nat} {xs : List T} : rowOf (some (.row sz g xs)) = some (sz, g, xs) := (rfl)
theorem rowOf_frz {sz g : Nat} {xs : List T} : rowOf (some (.frz sz g xs)) = some (sz, g, xs) := (rfl)

/-- The end of a function. -/
theorem finK_intro {rs : List Res} {q : V → Heap → Prop} {c : Prop} {v v' : V} {H' : Heap} (hr : resV s.h s.vs rs = some (c, v)) (hc : c) (hw : Weak n ⟨[(0, v)], s.h⟩ ⟨[(0, v')], H'⟩) (hq : q v' H') : finK n rs q s := by
  unfold finK; rw [hr]; exact ⟨hc, v', H', hw, hq⟩

theorem weak_to {s s' : St} (slots keep : List Nat) (h1 : keep.take n = List.range n) (hn : n ≤ keep.length) (h2 : keep.Nodup) (h3 : ∀ id ∈ keep, id < s.h.length) (he : gcSt slots keep s = s') : Weak n s s' := he ▸ weak_gc slots keep h1 hn h2 h3

/-- A loop: the state at its head is described by I, with a measure. -/
theorem wpC_loop {c : Cd} (I : Nat → St → Prop) (m : Nat) (s0 : St) (hw : Weak n s s0) (hI : I m s0) (hstep : ∀ m s, I m s → wpC Cl n c (thenK (fun s' => ∃ m' s'', m' < m ∧ Weak n s' s'' ∧ I m' s'') Q) s) : wpC Cl n (.loop c) Q s :=
  ⟨I, m, s0, hw, hI, hstep⟩
end

section
variable {P : Program} {Cl : Known} {n : Nat}

def Mono (Cl : Known) : Prop := ∀ f args H (k k' : V → Heap → Prop), (∀ v H, k v H → k' v H) → Cl f args H k → Cl f args H k'

theorem mono_scall : Mono (SCall P) := fun _ _ _ _ _ h hc => hc.mono h

theorem kk_mono {o : Option (Prop × V)} {H : Heap} {k k' : V → Heap → Prop} (h : ∀ v H, k v H → k' v H) (hk : kk o H k) : kk o H k' := by
  unfold kk at *
  split at hk
  · exact ⟨hk.1, h _ _ hk.2⟩
  · exact hk

theorem ke_mono {o : Option (Prop × V × Heap)} {k k' : V → Heap → Prop} (h : ∀ v H, k v H → k' v H) (hk : ke o k) : ke o k' := by
  unfold ke at *
  split at hk
  · exact ⟨hk.1, h _ _ hk.2⟩
  · exact hk

theorem wpB_mono (hCl : Mono Cl) {b : Body} {s : St} {k k' : V → Heap → Prop} (h : ∀ v H, k v H → k' v H) (hk : wpB Cl b s k) : wpB Cl b s k' := by
  cases b with
  | op op xs =>
    simp only [wpB, stepK] at *
    split at hk
    · rename_i e; rw [if_pos e]; exact ke_mono h hk
    · rename_i e; rw [if_neg e]; exact kk_mono h hk
  | call f xs => exact hCl _ _ _ _ _ h hk
  | callv x xs =>
    simp only [wpB, callV] at *
    split at hk
    · exact hCl _ _ _ _ _ h hk
    · exact hk

theorem guardV_mono {v : V} {w : Bool} {a b a' b' : Prop} (h1 : a → a') (h2 : b → b') (h : guardV v w a b) : guardV v w a' b' := by
  unfold guardV at *
  split at h
  · exact ⟨fun e => h1 (h.1 e), fun e => h2 (h.2 e)⟩
  · exact h

theorem condV_mono {v : V} {a b a' b' : Prop} (h1 : a → a') (h2 : b → b') (h : condV v a b) : condV v a' b' := by
  unfold condV at *
  split at h
  · exact ⟨fun e => h1 (h.1 e), fun e => h2 (h.2 e)⟩
  · exact h

theorem wpR_mono (hCl : Mono Cl) : ∀ (is : List Ins) {k k' : St → Prop} (s : St), (∀ s, k s → k' s) → wpR Cl is k s → wpR Cl is k' s
  | [], k, k', s, h, hk => h _ hk
  | ⟨d, none, b⟩ :: r, k, k', s, h, hk => wpB_mono hCl (fun v H hk => wpR_mono hCl r _ h hk) hk
  | ⟨d, some (t, w), b⟩ :: r, k, k', s, h, hk => guardV_mono (fun hk => wpB_mono hCl (fun v H hk => wpR_mono hCl r _ h hk) hk) (fun hk => wpR_mono hCl r _ h hk) hk

theorem flos_mono {s : St} {q q' : Prop} (h : q → q') : ∀ (is : List Ins), flos is s q → flos is s q'
  | [], hq => h hq
  | i :: is, hq => ⟨hq.1, flos_mono h is hq.2⟩

theorem wpP_mono (hCl : Mono Cl) : ∀ (p : Plan) {k k' : St → Prop} (s : St), (∀ s, k s → k' s) → wpP Cl p k s → wpP Cl p k' s
  | .fin, k, k', s, h, hk => h _ hk
  | .val i p, k, k', s, h, hk => wpR_mono hCl [i] s (fun s' hs => wpP_mono hCl p s' h hs) hk
  | .eff i fl p, k, k', s, h, hk => wpR_mono hCl [i] s (fun s' hs => flos_mono (fun hs => wpP_mono hCl p s' h hs) fl hs) hk
  | .alt p q, k, k', s, h, hk => ⟨wpP_mono hCl p s h hk.1, wpP_mono hCl q s h hk.2⟩

theorem wpC_mono (hCl : Mono Cl) : ∀ (c : Cd) {Q Q' : Ex → St → Prop} (s : St), (∀ e s, Q e s → Q' e s) → wpC Cl n c Q s → wpC Cl n c Q' s := by
  intro c
  induction c with
  | skip => intro Q Q' s h hq; exact h _ _ hq
  | rgn is => intro Q Q' s h hq; exact wpR_mono hCl is s (fun s hs => h _ s hs) hq
  | rgnD p => intro Q Q' s h hq; exact wpP_mono hCl p s (fun s hs => h _ s hs) hq
  | seq a b iha ihb =>
    intro Q Q' s h hq
    refine iha s (fun e s he => ?_) hq
    cases e with
    | norm => exact ihb s h he
    | exit id => exact h _ _ he
    | ret => exact h _ _ he
  | cond c a b iha ihb => intro Q Q' s h hq; exact condV_mono (iha s h) (ihb s h) hq
  | block id c ih =>
    intro Q Q' s h hq
    refine ih s (fun e s he => ?_) hq
    cases e with
    | norm => exact h _ _ he
    | exit i =>
      simp only [blockK] at he ⊢
      split
      · rename_i e; rw [if_pos e] at he; exact h _ _ he
      · rename_i e; rw [if_neg e] at he; exact h _ _ he
    | ret => exact h _ _ he
  | loop c ih =>
    intro Q Q' s h hq
    obtain ⟨I, m, s0, hw, hI, hs⟩ := hq
    refine ⟨I, m, s0, hw, hI, fun m s hI => ih s (fun e s he => ?_) (hs m s hI)⟩
    cases e with
    | norm => exact he
    | exit id => exact h _ _ he
    | ret => exact h _ _ he
  | exit id => intro Q Q' s h hq; exact h _ _ hq
  | ret => intro Q Q' s h hq; exact h _ _ hq

/-- What may be kept of a heap. -/
def keepOk (n : Nat) (keep : List Nat) (len : Nat) : Prop := keep.take n = List.range n ∧ n ≤ keep.length ∧ keep.Nodup ∧ ∀ id ∈ keep, id < len

theorem weak_keep {slots keep : List Nat} {s : St} (h : keepOk n keep s.h.length) : Weak n s (gcSt slots keep s) := weak_gc slots keep h.1 h.2.1 h.2.2.1 h.2.2.2

/-- A loop, where at its head the slots and objects that are named are kept. -/
theorem wpC_loop_gc {c : Cd} {Q : Ex → St → Prop} {s : St} (slots keep : List Nat) (I : Nat → St → Prop) (m : Nat) (h0 : keepOk n keep s.h.length ∧ I m (gcSt slots keep s))
    (hstep : ∀ m s, I m s → wpC (SCall P) n c (thenK (fun s' => ∃ m', m' < m ∧ keepOk n keep s'.h.length ∧ I m' (gcSt slots keep s')) Q) s) : wpC (SCall P) n (.loop c) Q s := by
  refine wpC_loop I m _ (weak_keep h0.1) h0.2 fun m s hI => wpC_mono mono_scall c s (fun e s he => ?_) (hstep m s hI)
  cases e with
  | norm =>
    obtain ⟨m', hlt, hk, hI'⟩ := he
    exact ⟨m', _, hlt, weak_keep hk, hI'⟩
  | exit id => exact he
  | ret => exact he

/-- The end of a function, where the objects that are named are kept. -/
def finG (n : Nat) (keep : List Nat) (rs : List Res) (Q : V → Heap → Prop) (s : St) : Prop :=
  keepOk n keep s.h.length ∧ match resV s.h s.vs rs with
  | some (c, v) => c ∧ Q (v.ren (idx keep)) (keep.map fun id => ((s.h[id]?).getD default).ren (idx keep))
  | none => False

theorem finK_gc {rs : List Res} {q : V → Heap → Prop} {s : St} (keep : List Nat) (h : finG n keep rs q s) : finK n rs q s := by
  obtain ⟨hk, h⟩ := h
  split at h
  · rename_i c v hr
    refine finK_intro hr h.1 (weak_keep (slots := [0]) (s := ⟨[(0, v)], s.h⟩) hk) ?_
    simpa [gcSt, get] using h.2
  · exact h.elim

end

/-! What a walk looks at first: never at what comes later. -/
section
variable {Cl : Known} {P : Program}
@[congr] theorem guardV_congr {v v' : V} {w : Bool} {a b : Prop} (h : v = v') : guardV v w a b = guardV v' w a b := by rw [h]
@[congr] theorem condV_congr {v v' : V} {a b : Prop} (h : v = v') : condV v a b = condV v' a b := by rw [h]
@[congr] theorem kk_congr {o o' : Option (Prop × V)} {H H' : Heap} {k : V → Heap → Prop} (h : o = o') (h2 : H = H') : kk o H k = kk o' H' k := by rw [h, h2]
@[congr] theorem ke_congr {o o' : Option (Prop × V × Heap)} {k : V → Heap → Prop} (h : o = o') : ke o k = ke o' k := by rw [h]
@[congr] theorem stepK_congr {H H' : Heap} {op : Abs.K} {a a' : List V} {k : V → Heap → Prop} (h : H = H') (h2 : a = a') : stepK H op a k = stepK H' op a' k := by rw [h, h2]
@[congr] theorem wpB_congr {b : Body} {s s' : St} {k : V → Heap → Prop} (h : s = s') : wpB Cl b s k = wpB Cl b s' k := by rw [h]
@[congr] theorem wpR_congr {is : List Ins} {K : St → Prop} {s s' : St} (h : s = s') : wpR Cl is K s = wpR Cl is K s' := by rw [h]
@[congr] theorem wpP_congr {p : Plan} {K : St → Prop} {s s' : St} (h : s = s') : wpP Cl p K s = wpP Cl p K s' := by rw [h]
@[congr] theorem wpC_congr {n : Nat} {c : Cd} {Q : Ex → St → Prop} {s s' : St} (h : s = s') : wpC Cl n c Q s = wpC Cl n c Q s' := by rw [h]
@[congr] theorem scall_congr {f : FuncId} {a a' : List V} {H H' : Heap} {k : V → Heap → Prop} (h : a = a') (h2 : H = H') : SCall P f a H k = SCall P f a' H' k := by rw [h, h2]
@[congr] theorem callV_congr {x x' : V} {a a' : List V} {H H' : Heap} {k : V → Heap → Prop} (h1 : x = x') (h : a = a') (h2 : H = H') : callV Cl x a H k = callV Cl x' a' H' k := by rw [h, h2, h1]
end
end Go.Abs

/- Calls of functions whose contracts speak of data alone. By the session itself. -/
namespace Go.Abs
open Go
set_option linter.unusedSimpArgs false
set_option linter.unusedVariables false
set_option linter.defProp false
set_option maxRecDepth 100000

/-- The rules of a walk in three bundles. -/
def sxPre :=
  And.intro @wpC_skip (
  And.intro @wpC_rgn (
  And.intro @wpC_rgnD (
  And.intro @wpP_fin (
  And.intro @wpP_val (
  And.intro @wpP_eff (
  And.intro @wpP_alt (
  And.intro @flos_nil (
  And.intro @flos_cons (
  And.intro @flo_plain (
  And.intro @flo_guard (
  And.intro @wpC_seq (
  And.intro @wpC_cond (
  And.intro @wpC_block (
  And.intro @wpC_exit (
  And.intro @wpC_ret (
  And.intro @thenK_norm (
  And.intro @thenK_exit (
  And.intro @thenK_ret (
  And.intro @blockK_norm (
  And.intro @blockK_exit (
  And.intro @blockK_ret (
  And.intro @exitK_norm (
  And.intro @exitK_ret (
  And.intro @wpR_nil (
  And.intro @wpR_cons (
  And.intro @wpR_cons_none (
  And.intro @wpR_guard (
  And.intro @wpR_guard_none (
  And.intro @map_nil' (
  And.intro @map_cons' (
  And.intro @ev_tmp (
  And.intro @ev_val (
  And.intro @get_nil (
  And.intro @get_cons (
  And.intro @initVs_nil (
  @initVs_cons))))))))))))))))))))))))))))))))))))
def sxPost :=
  And.intro @callV_fn (
  And.intro @putO_some (
  And.intro @putO_none (
  And.intro @condV_true (
  And.intro @condV_false (
  And.intro @guardV_tt (
  And.intro @guardV_ff (
  And.intro @guardV_tf (
  And.intro @guardV_ft (
  And.intro @stepK_id (
  And.intro @stepK_strId (
  And.intro @stepK_pick (
  And.intro @stepK_add (
  And.intro @stepK_sub (
  And.intro @stepK_mul (
  And.intro @stepK_quo (
  And.intro @stepK_rem (
  And.intro @stepK_and (
  And.intro @stepK_or (
  And.intro @stepK_xor (
  And.intro @stepK_andNot (
  And.intro @stepK_eql (
  And.intro @stepK_neq (
  And.intro @stepK_lss (
  And.intro @stepK_leq (
  And.intro @stepK_gtr (
  And.intro @stepK_geq (
  And.intro @stepK_shl (
  And.intro @stepK_shr (
  And.intro @stepK_sadd (
  And.intro @stepK_seql (
  And.intro @stepK_sneq (
  And.intro @stepK_beql (
  And.intro @stepK_bneq (
  And.intro @stepK_not (
  And.intro @stepK_neg (
  And.intro @stepK_com (
  And.intro @stepK_conv (
  And.intro @stepK_toStr (
  And.intro @stepK_len (
  And.intro @klen_lst (
  And.intro @klen_sl (
  And.intro @klen_bsl (
  And.intro @stepK_lenS (
  And.intro @stepK_lenC (
  And.intro @stepK_min2 (
  And.intro @stepK_max2 (
  And.intro @stepK_field1 (
  And.intro @stepK_fieldN (
  And.intro @kfield1_agg (
  And.intro @kfield1_t (
  And.intro @kfieldN_agg (
  And.intro @kfieldN_t (
  And.intro @stepK_build' (
  And.intro @stepK_load1 (
  And.intro @stepK_loadN (
  And.intro @kload1_ip (
  And.intro @kloadN_ip (
  And.intro @kload1_ref (
  And.intro @kloadN_ref (
  And.intro @kload1_elt (
  And.intro @kidxS_sl (
  And.intro @kidxS_bsl (
  And.intro @at_zero (
  And.intro @stepK_fieldA_ref (
  And.intro @stepK_fieldA_elt (
  And.intro @stepK_fieldA_ip (
  And.intro @stepK_idxS (
  And.intro @kidxS_lst (
  And.intro @stepK_idxA (
  And.intro @kidxA_ref (
  And.intro @kidxA_elt (
  And.intro @kidxA_ip (
  And.intro @stepK_idxStr (
  And.intro @stepK_slice (
  And.intro @stepK_sliceStr (
  And.intro @stepK_sliceA (
  And.intro @kslice_lst (
  And.intro @kslice_sl (
  And.intro @ksliceStr_str (
  And.intro @bounds_ff (
  And.intro @bounds_tf (
  And.intro @bounds_ft (
  And.intro @bounds_tt (
  And.intro @stepK_extract (
  And.intro @stepK_mkfn (
  And.intro @stepK_nilck_ref (
  And.intro @stepK_nilck_elt (
  And.intro @stepK_nilck_ip (
  And.intro @stepK_nilck_fn (
  And.intro @stepK_alloc (
  And.intro @stepK_box (
  And.intro @stepK_store (
  And.intro @stepK_buildSlice (
  And.intro @stepK_buildRow (
  And.intro @stepK_makeSlice (
  And.intro @stepK_append (
  And.intro @stepK_appendStr (
  And.intro @stepK_copy (
  And.intro @stepK_mark (
  And.intro @keff_buildSlice (
  And.intro @keff_buildRow (
  And.intro @toElems_nil (
  And.intro @toElems_cons (
  And.intro @toElem_t (
  And.intro @toElem_agg (
  And.intro @toTs_nil (
  And.intro @toTs_cons (
  And.intro @toT_t (
  And.intro @setElems_cons (
  And.intro @setElems_nil (
  And.intro @kstore_ref (
  And.intro @kstore_elt (
  And.intro @kcopy_sl (
  And.intro @elemPut_int (
  And.intro @elemPut_bool (
  And.intro @kk_some (
  And.intro @ke_some (
  And.intro @elems_lst' (
  And.intro @elems_nil (
  And.intro @kappend_tight (
  And.intro @kappend_nil (
  And.intro @kappend_sl (
  And.intro @w64 (
  And.intro @wu64 (
  And.intro @wu8 (
  And.intro @vcells_agg (
  And.intro @vcells_tagg (
  And.intro @vcells_int (
  And.intro @vcells_bool (
  And.intro @vcells_str (
  And.intro @vcells_lst (
  And.intro @vcells_sl (
  And.intro @vcells_ref (
  And.intro @solid_t (
  And.intro @solid_agg (
  And.intro @solid_sl (
  And.intro @solid_ref (
  And.intro @vone_int (
  And.intro @vone_bool (
  And.intro @vone_str (
  And.intro @vone_lst (
  And.intro @vone_sl (
  And.intro @vone_ref (
  And.intro @tcells_agg (
  And.intro @tcells_int (
  And.intro @tcells_bool (
  And.intro @tcells_str (
  And.intro @tcells_lst (
  And.intro @tone_int (
  And.intro @tone_bool (
  And.intro @tone_str (
  And.intro @tone_lst (
  And.intro @rowOf_row (
  @rowOf_frz))))))))))))))))))))))))))))))))))))))))))))))))))))))))))))))))))))))))))))))))))))))))))))))))))))))))))))))))))))))))))))))))))))))))))))))))))))))))))
def sxLib :=
  And.intro @Bool.false_eq_true (
  And.intro @true_and (
  And.intro @and_true (
  And.intro @List.length_cons.{0} (
  And.intro @List.length_nil.{0} (
  And.intro @List.nil_append.{0} (
  And.intro @List.cons_append.{0} (
  And.intro @List.append_nil.{0} (
  And.intro @List.append_assoc.{0} (
  And.intro @List.getElem?_cons_zero.{0} (
  And.intro @List.getElem?_cons_succ.{0} (
  And.intro @List.set_cons_zero.{0} (
  And.intro @List.set_cons_succ.{0} (
  And.intro @Nat.zero_add (
  And.intro @Nat.add_zero (
  And.intro @Bool.not_true (
  And.intro @Bool.not_false (
  And.intro @Bool.and_true (
  And.intro @Bool.and_false (
  And.intro @Bool.false_and (
  And.intro @Bool.true_and (
  And.intro @decide_true (
  And.intro @decide_false (
  And.intro @Nat.sub_zero (
  And.intro @Int.toNat_zero (
  And.intro @and_self (
  And.intro @ne_eq.{1} (
  And.intro @not_false_eq_true (
  And.intro @not_true_eq_false (
  And.intro @false_or (
  And.intro @true_or (
  And.intro @or_true (
  And.intro @or_false (
  And.intro @true_implies (
  And.intro @false_implies (
  And.intro @List.map_nil.{0, 0} (
  And.intro @List.map_cons.{0, 0} (
  And.intro @List.drop_zero.{0} (
  And.intro @List.take_zero.{0} (
  And.intro @Nat.zero_mul (
  And.intro @Nat.mul_one (
  And.intro @Nat.one_mul (
  And.intro @List.all_cons.{0} (
  And.intro @List.all_nil.{0} (
  And.intro @List.getD_cons_zero.{0} (
  And.intro @List.getD_cons_succ.{0} (
  And.intro @List.take_succ_cons.{0} (
  And.intro @List.drop_succ_cons.{0} (
  And.intro @List.take_nil.{0} (
  And.intro @List.drop_nil.{0} (
  And.intro @beq_self_eq_true.{0} (
  And.intro @List.replicate_zero.{0} (
  And.intro @List.length_replicate.{0} (
  And.intro @List.length_append.{0} (
  @List.length_map.{0, 0}))))))))))))))))))))))))))))))))))))))))))))))))))))))

/-- The result is data. -/
def RTree (x : T) (r : V) (H : Heap) : Prop := r = .t x ∧ H = []
/-- The results are data. -/
def RTup (xs : List T) (r : V) (H : Heap) : Prop := r = .tup (xs.map .t) ∧ H = []
/-- The result is new memory. -/
def RRow (sz : Nat) (xs : List T) (r : V) (H : Heap) : Prop := ∃ g, r = .sl 0 0 xs.length g sz ∧ H = [.row sz g xs]

section
variable {P : Program} {f : FuncId} {args : List V} {H : Heap} {k : V → Heap → Prop}

theorem flatL_t {xs : List T} (h : xs.all T.flat = true) : V.flatL (xs.map .t) = true := by
  rw [flatL_eq, List.all_map]; exact h

theorem renL_t (ρ : Nat → Option Nat) : ∀ xs : List T, V.renL ρ (xs.map .t) = xs.map .t
  | [] => rfl
  | x :: xs => by simp [V.renL, V.ren, renL_t ρ xs]

theorem call_tree {x : T} (h : SCall P f (args.map (Abs.view H)) [] (RTree x)) (hx : x.flat = true) (hk : k (.t x) H) : SCall P f args H k := by
  refine (h.lend fun r N hq => ?_).mono ?_
  · obtain ⟨rfl, rfl⟩ := hq; exact ⟨hx, rfl⟩
  · rintro r H' ⟨r0, N, ⟨rfl, rfl⟩, rfl, rfl⟩
    simpa [V.ren] using hk

theorem call_tup {xs : List T} (h : SCall P f (args.map (Abs.view H)) [] (RTup xs)) (hx : xs.all T.flat = true) (hk : k (.tup (xs.map .t)) H) : SCall P f args H k := by
  refine (h.lend fun r N hq => ?_).mono ?_
  · obtain ⟨rfl, rfl⟩ := hq; exact ⟨flatL_t hx, rfl⟩
  · rintro r H' ⟨r0, N, ⟨rfl, rfl⟩, rfl, rfl⟩
    simpa [V.ren, renL_t] using hk

theorem call_row {sz : Nat} {xs : List T} (h : SCall P f (args.map (Abs.view H)) [] (RRow sz xs)) (hx : xs.all T.flat = true) (hk : ∀ g, k (.sl H.length 0 xs.length g sz) (H ++ [.row sz g xs])) : SCall P f args H k := by
  refine (h.lend fun r N hq => ?_).mono ?_
  · obtain ⟨g, rfl, rfl⟩ := hq; exact ⟨rfl, by simpa [Obj.flatO] using hx⟩
  · rintro r H' ⟨r0, N, ⟨g, rfl, rfl⟩, rfl, rfl⟩
    have := hk g
    simpa [V.ren, tau, Obj.ren] using this

section
variable {K : St → Prop} {vs : List (Nat × V)} {r : List Ins} {d : Nat} {xs : List Opnd}

theorem step_call (h : SCall P f (xs.map (ev vs)) H fun v H' => wpR (SCall P) r K ⟨(d, v) :: vs, H'⟩) : wpR (SCall P) (⟨some d, none, .call f xs⟩ :: r) K ⟨vs, H⟩ := h
theorem step_callv {x : Opnd} {caps : List V} (hx : ev vs x = .fn f caps) (h : SCall P f (xs.map (ev vs) ++ caps) H fun v H' => wpR (SCall P) r K ⟨(d, v) :: vs, H'⟩) : wpR (SCall P) (⟨some d, none, .callv x xs⟩ :: r) K ⟨vs, H⟩ := by
  simp only [wpR, wpB, hx, callV]; exact h
theorem step_guard {t : Nat} {w : Bool} {b : Body} {q : Bool} (hv : get vs t = .t (.bool q)) (h1 : q = w → wpR (SCall P) (⟨some d, none, b⟩ :: r) K ⟨vs, H⟩) (h2 : q ≠ w → wpR (SCall P) r K ⟨(d, .undef) :: vs, H⟩) : wpR (SCall P) (⟨some d, some (t, w), b⟩ :: r) K ⟨vs, H⟩ := by
  simp only [wpR, hv, guardV]; exact ⟨h1, h2⟩
/-- An effect of a drawn region that is a call. -/
theorem step_eff {i : Ins} {fl : List Ins} {p : Plan} {s : St} (h : wpR (SCall P) [i] (fun s' => flos fl s' (wpP (SCall P) p K s')) s) : wpP (SCall P) (.eff i fl p) K s := h

theorem step_tree {x : T} (h : SCall P f ((xs.map (ev vs)).map (Abs.view H)) [] (RTree x)) (hx : x.flat = true) (hk : wpR (SCall P) r K ⟨(d, .t x) :: vs, H⟩) : wpR (SCall P) (⟨some d, none, .call f xs⟩ :: r) K ⟨vs, H⟩ := step_call (call_tree h hx hk)
theorem step_tup {ys : List T} (h : SCall P f ((xs.map (ev vs)).map (Abs.view H)) [] (RTup ys)) (hx : ys.all T.flat = true) (hk : wpR (SCall P) r K ⟨(d, .tup (ys.map .t)) :: vs, H⟩) : wpR (SCall P) (⟨some d, none, .call f xs⟩ :: r) K ⟨vs, H⟩ := step_call (call_tup h hx hk)
theorem step_row {sz : Nat} {ys : List T} (h : SCall P f ((xs.map (ev vs)).map (Abs.view H)) [] (RRow sz ys)) (hx : ys.all T.flat = true) (hk : ∀ g, wpR (SCall P) r K ⟨(d, .sl H.length 0 ys.length g sz) :: vs, H ++ [.row sz g ys]⟩) : wpR (SCall P) (⟨some d, none, .call f xs⟩ :: r) K ⟨vs, H⟩ := step_call (call_row h hx hk)
end

/-- A call that needs nothing of the heap. -/
theorem call_any {Q : V → Heap → Prop} (h : SCall P f (args.map (Abs.view H)) [] Q) (hf : ∀ r N, Q r N → r.flatV = true ∧ N.all Obj.flatO = true) (hk : ∀ r N, Q r N → k (r.ren (tau [] H.length)) (H ++ N.map (Obj.ren (tau [] H.length)))) : SCall P f args H k :=
  (h.lend hf).mono fun r H' ⟨r0, N, hq, e1, e2⟩ => by subst e1 e2; exact hk r0 N hq

theorem SCall.argOf {Q : V → Heap → Prop} (i : Nat) {v v' : V} (hget : args[i]? = some v) (hv : ∀ μ S W u, RV μ S H W v u → RV μ S H W v' u) (h : SCall P f (args.set i v') H Q) : SCall P f args H Q := by
  refine ⟨h.1, fun μ S W vals r ha => h.2 μ S W vals r ⟨by simp [ha.1], fun j c u hc hu => ?_⟩⟩
  rw [List.getElem?_set] at hc
  split at hc
  · rename_i hij
    subst hij
    split at hc
    · cases hc
      exact hv μ S W u (ha.2 i v u hget hu)
    · cases hc
  · exact ha.2 j c u hc hu

end
end Go.Abs

/- From the abstract machine to a law's row. By the session itself. -/
namespace Go.Abs
open Go Go.RowKit
set_option linter.unusedSimpArgs false
set_option linter.unusedVariables false

/-- A law that answers true, from any world. -/
theorem law_below {P : Program} {f : FuncId} {args : List V} {vals : List Value} {W : World} (h : SCall P f args [] (RTree (.bool true))) (ha : All2 (RV (fun _ => ⟨0, 0, 0⟩) (fun b => b < W.heap.size) [] W) args vals) :
    Calls P f vals.toArray W fun e W' => e = .returned (.bool true) ∧ Below W.heap.size W W' := by
  have r : Rel [] (fun _ => ⟨0, 0, 0⟩) (fun b => b < W.heap.size) W :=
    ⟨fun id o h => by simp at h, fun i j hi => by obtain ⟨o, ho, _⟩ := hi; simp at ho, fun b hb => hb⟩
  refine (h.2 _ _ W vals r ha).mono ?_
  rintro e W' ⟨v, u, H', μ', S', rfl, ⟨rfl, rfl⟩, r', hv, l⟩
  have : u = .bool true := by
    cases hv with
    | t h => cases h; rfl
  subst this
  refine ⟨rfl, l.os, l.tape, l.output, l.size, fun k hk => l.keep k hk fun id hl => ?_⟩
  obtain ⟨o, ho, _⟩ := hl
  simp at ho

theorem rv_int {μ : Nat → Loc} {S : Nat → Prop} {H : Heap} {W : World} (k : IntKind) (n : Int) : RV μ S H W (.t (.int k n)) (.int k n) := .t (.int k n)
/-- A slice of whole numbers that is handed in. -/
def IsRow (k : IntKind) (w : World) (a : Option Addr) (len cap : Nat) (zs : List Int) : Prop :=
  (a = none ∧ len = 0 ∧ cap = 0 ∧ zs = []) ∨
  ∃ x, a = some x ∧ len ≤ cap ∧ cap ≤ maxLen ∧ zs.length = cap ∧ (∀ i, i < zs.length → w.cell? (x.add i) = some (.int k (zs.getD i 0))) ∧ ∀ n ∈ zs, (Lit.int k n).wf = true

theorem flat_ints (k : IntKind) : ∀ l : List Int, flat (l.map (T.int k)) = l.map (T.int k)
  | [] => rfl
  | x :: l => by simp only [List.map_cons, flat_cons, flat_ints k l]; rfl

theorem rv_row {μ : Nat → Loc} {H : Heap} {W : World} {k : IntKind} {a : Option Addr} {len cap : Nat} {zs : List Int} (h : IsRow k W a len cap zs) :
    RV μ (fun b => b < W.heap.size) H W (.t (.lst 1 false ((zs.take len).map (T.int k)))) (.slice a len cap) ∧ (zs.take len).length = len := by
  rcases h with ⟨rfl, rfl, rfl, rfl⟩ | ⟨x, rfl, hl, hm, hz, hcell, hwf⟩
  · refine ⟨.t ?_, rfl⟩
    exact RT.lst (sz := 1) (tight := false) (xs := []) none 0 [] (fun x hx => by cases hx) (Nat.le_refl _) (fun h => by cases h) (fun _ => ⟨rfl, rfl⟩) rfl (fun a' h => by cases h) (fun a' h => by cases h) (fun i c u hc => by simp [flat] at hc)
  · have hlen : (zs.take len).length = len := by rw [List.length_take]; omega
    refine ⟨.t ?_, hlen⟩
    have hcel : ∀ i, i < len → W.cell? (x.add i) = some (.int k (zs.getD i 0)) := fun i hi => hcell i (by omega)
    have key : RT (fun b => b < W.heap.size) W (.lst 1 false ((zs.take len).map (T.int k))) (.slice (some x) ((zs.take len).map (T.int k)).length cap) := by
      refine RT.lst (some x) cap ((zs.take len).map (Value.int k)) ?_ (by simp; omega) (fun h => by cases h) (fun h => by cases h) (by rw [flat_ints]; simp) ?_ ?_ ?_
      · intro y hy
        obtain ⟨n, _, rfl⟩ := List.mem_map.1 hy
        exact ⟨rfl, rfl⟩
      · intro a' ha' hpos
        cases ha'
        have h0 : 0 < len := by rw [List.length_map, hlen] at hpos; exact hpos
        have := hcel 0 h0
        unfold World.cell? at this
        rcases Nat.lt_or_ge (x.add 0).block W.heap.size with h | h
        · rwa [Addr.add_block] at h
        · rw [Array.getElem?_eq_none h] at this; simp at this
      · intro a' ha' i u hu
        cases ha'
        rw [List.getElem?_map] at hu
        have hi : i < len := by
          rcases Nat.lt_or_ge i len with h | h
          · exact h
          · rw [List.getElem?_eq_none (by omega)] at hu; simp at hu
        rw [hcel i hi]
        rw [List.getElem?_take, if_pos hi] at hu
        have hiz : i < zs.length := by omega
        rw [List.getElem?_eq_getElem hiz] at hu
        simp only [Option.map_some, Option.some.injEq] at hu
        rw [← hu, List.getD_eq_getElem?_getD, List.getElem?_eq_getElem hiz]
        rfl
      · intro i c u hc hu
        rw [flat_ints, List.getElem?_map] at hc
        rw [List.getElem?_map] at hu
        cases hn : (zs.take len)[i]? with
        | none => rw [hn] at hc; simp at hc
        | some n =>
          rw [hn] at hc hu
          simp only [Option.map_some, Option.some.injEq] at hc hu
          subst hc hu
          exact .int k n
    rw [List.length_map, hlen] at key
    exact key

theorem i64_of {n : Int} (h : (Lit.int .i64 n).wf = true) : -2 ^ 63 ≤ n ∧ n < 2 ^ 63 := by
  simp only [Lit.wf, Bool.and_eq_true, decide_eq_true_eq] at h
  have e1 : IntKind.min .i64 = -2 ^ 63 := by decide
  have e2 : IntKind.max .i64 = 2 ^ 63 - 1 := by decide
  omega

theorem u8_of {n : Int} (h : (Lit.int .u8 n).wf = true) : 0 ≤ n ∧ n < 256 := by
  simp only [Lit.wf, Bool.and_eq_true, decide_eq_true_eq] at h
  have e1 : IntKind.min .u8 = 0 := by decide
  have e2 : IntKind.max .u8 = 255 := by decide
  omega

end Go.Abs

/- Loops whose edges keep different objects, and what a law's rows say. By the session itself. -/
namespace Go.Abs
open Go Go.RowKit
set_option linter.unusedSimpArgs false
set_option linter.unusedVariables false

/-- A loop, where at its head the slots that are named are kept, and on each edge some objects. -/
theorem wpC_loop_any {P : Program} {n : Nat} {c : Cd} {Q : Ex → St → Prop} {s : St} (slots : List Nat) (I : Nat → St → Prop) (m : Nat) (h0 : ∃ keep, keepOk n keep s.h.length ∧ I m (gcSt slots keep s))
    (hstep : ∀ m s, I m s → wpC (SCall P) n c (thenK (fun s' => ∃ m', m' < m ∧ ∃ keep, keepOk n keep s'.h.length ∧ I m' (gcSt slots keep s')) Q) s) : wpC (SCall P) n (.loop c) Q s := by
  obtain ⟨keep, h0, h1⟩ := h0
  refine wpC_loop I m _ (weak_keep h0) h1 fun m s hI => wpC_mono mono_scall c s (fun e s he => ?_) (hstep m s hI)
  cases e with
  | norm =>
    obtain ⟨m', hlt, k', hk, hI'⟩ := he
    exact ⟨m', _, hlt, weak_keep hk, hI'⟩
  | exit id => exact he
  | ret => exact he

theorem IsRow.length {k : IntKind} {W : World} {a : Option Addr} {len cap : Nat} {zs : List Int} (h : IsRow k W a len cap zs) : (zs.take len).length = len := (rv_row (H := []) (μ := fun _ => ⟨0, 0, 0⟩) h).2

theorem IsRow.wf {k : IntKind} {W : World} {a : Option Addr} {len cap : Nat} {zs : List Int} (h : IsRow k W a len cap zs) : ∀ n ∈ zs.take len, (Lit.int k n).wf = true := by
  rcases h with ⟨_, _, _, rfl⟩ | ⟨_, _, _, _, _, _, hwf⟩
  · intro n hn; simp at hn
  · exact fun n hn => hwf n (List.mem_of_mem_take hn)
end Go.Abs

/- A law's row of whole numbers is no longer than its weight allows. By the session itself. -/
namespace Go.Abs
open Go Go.ChangeShapes Go.WideShapes
set_option linter.unusedSimpArgs false
set_option linter.unusedVariables false

theorem row_sized {H : Type} {enc : TypeId × Value → H} {P : Program} {W : World} {base : Nat} {spare : Nat → Bool} {held : Bool} {t e : TypeId} {k : IntKind} {a : Option Addr} {len cap : Nat} {d : DataW H} {ps : List MemPlace} {ts : List TypeId} {ds : List (DataW H)} {j : Nat}
    (hz : (DataW.weightsEach P ts ds).all (· ≤ reachBytes) = true) (ht : ts[j]? = some t) (hd : ds[j]? = some d) (hu : P.underlying t = some (.slice e)) (he : P.underlying e = some (.int k)) (hc : P.cellsOf e = 1) {b : Nat} (hb : P.bytesOf e = b)
    (h : DataW.Trod enc P W base spare held t (.slice a len cap) d ps) : len * b ≤ 140737488351232 := by
  obtain ⟨fuel, hf⟩ := h
  rcases open_ints hu he hc hf with ⟨e0, _⟩ | ⟨x, l, c, zs, e0, _, hl, _, hn, hx, _, _⟩
  · simp [Value.cells] at e0
    rw [e0.2.1, Nat.zero_mul]; omega
  · simp [Value.cells] at e0
    obtain ⟨_, rfl, rfl⟩ := e0
    have hx' := (Prod.mk.inj hx).1
    subst hx'
    have w := sized_slice hz ht hd hu
    rw [hb] at w
    have hle : len ≤ zs.length := by rw [hn]; split <;> omega
    have hsum : (lits (H := H) k (zs.take len)).length + (lits (H := H) k (zs.drop len)).length = zs.length := by simp [lits]; omega
    rw [hsum] at w
    exact Nat.le_trans (Nat.mul_le_mul_right _ hle) w
end Go.Abs

/- From what is handed to a law to data: every type made of numbers, texts, slices, structs and arrays. By the session itself. -/
namespace Go.Abs
open Go Go.RowKit
set_option linter.unusedSimpArgs false
set_option linter.unusedVariables false

/-- The shape of one cell. -/
inductive Sh where
  | int (k : IntKind) | bool | str
  | lst (many : Bool) (es : List Sh)

/-- Data of a shape. -/
inductive Fits : Sh → T → Prop
  | int {k : IntKind} {n : Int} (h : (Lit.int k n).wf = true) : Fits (.int k) (.int k n)
  | bool (b : Bool) : Fits .bool (.bool b)
  | str {s : ByteArray} (h : s.size ≤ maxLen) : Fits .str (.str s)
  | lst {e : Sh} {xs : List T} (hl : xs.length ≤ maxLen) (h : ∀ x ∈ xs, Fits e x) : Fits (.lst false [e]) (.lst 1 false xs)
  | rows {es : List Sh} {css : List (List T)} (hl : css.length ≤ maxLen) (hn : ∀ cs ∈ css, cs.length = es.length) (h : ∀ cs ∈ css, ∀ (i : Nat) s c, es[i]? = some s → cs[i]? = some c → Fits s c) : Fits (.lst true es) (.lst es.length false (css.map T.agg))

theorem Fits.one {s : Sh} {c : T} (h : Fits s c) : c.one = true := by cases h <;> rfl

def manyOf (P : Program) (t : TypeId) : Bool := match P.underlying t with
  | some (.struct _) => true
  | some (.array _ _) => true
  | _ => false

def shFields (P : Program) (f : TypeId → Option (List Sh)) : List Field → Nat → Option (List Sh)
  | [], _ => some []
  | fd :: r, off => if fd.offset = off then match f fd.type with
    | some ss => if ss.length = P.cellsOf fd.type then match shFields P f r (off + ss.length) with
      | some rs => some (ss ++ rs)
      | none => none
      else none
    | none => none
    else none

/-- The shape of a type, cell by cell. -/
def shOf (P : Program) : Nat → TypeId → Option (List Sh)
  | 0, _ => none
  | n + 1, t => match P.underlying t with
    | some .bool => some [.bool]
    | some (.int k) => some [.int k]
    | some .string => some [.str]
    | some (.slice e) => match shOf P n e with
      | some es => if es.length = P.cellsOf e ∧ (manyOf P e = true ∨ es.length = 1) then some [.lst (manyOf P e) es] else none
      | none => none
    | some (.struct fs) => match shFields P (shOf P n) fs.toList 0 with
      | some ss => if ss.length = P.cellsOf t then some ss else none
      | none => none
    | some (.array m e) => match shOf P n e with
      | some es => if es.length = P.cellsOf e ∧ m * es.length = P.cellsOf t then some ((List.replicate m es).flatten) else none
      | none => none
    | _ => none

/-- Cells of shapes, in a world. -/
def Cells (W : World) (ss : List Sh) (ts : List T) (cs : List Value) : Prop :=
  ts.length = ss.length ∧ cs.length = ss.length ∧ (∀ (i : Nat) s c, ss[i]? = some s → ts[i]? = some c → Fits s c) ∧ ∀ (i : Nat) c u, ts[i]? = some c → cs[i]? = some u → RT (fun b => b < W.heap.size) W c u

theorem Cells.nil (W : World) : Cells W [] [] [] := ⟨rfl, rfl, fun i s c h => by simp at h, fun i c u h => by simp at h⟩

theorem Cells.one {W : World} {s : Sh} {c : T} {u : Value} (h : Fits s c) (k : RT (fun b => b < W.heap.size) W c u) : Cells W [s] [c] [u] := by
  refine ⟨rfl, rfl, fun i s' c' h1 h2 => ?_, fun i c' u' h1 h2 => ?_⟩
  · cases i with
    | zero => simp at h1 h2; subst h1 h2; exact h
    | succ i => simp at h1
  · cases i with
    | zero => simp at h1 h2; subst h1 h2; exact k
    | succ i => simp at h1

theorem Cells.append {W : World} {ss rs : List Sh} {ts tr : List T} {cs cr : List Value} (h : Cells W ss ts cs) (k : Cells W rs tr cr) : Cells W (ss ++ rs) (ts ++ tr) (cs ++ cr) := by
  obtain ⟨h1, h2, h3, h4⟩ := h
  obtain ⟨k1, k2, k3, k4⟩ := k
  refine ⟨by simp [h1, k1], by simp [h2, k2], fun i s c hs hc => ?_, fun i c u hc hu => ?_⟩
  · rw [List.getElem?_append] at hs hc
    by_cases hi : i < ss.length
    · rw [if_pos hi] at hs; rw [if_pos (by omega)] at hc; exact h3 i s c hs hc
    · rw [if_neg hi] at hs; rw [if_neg (by omega), h1] at hc; exact k3 _ s c hs hc
  · rw [List.getElem?_append] at hc hu
    by_cases hi : i < ss.length
    · rw [if_pos (by omega)] at hc hu; exact h4 i c u hc hu
    · rw [if_neg (by omega), h1] at hc; rw [if_neg (by omega), h2] at hu; exact k4 _ c u hc hu

theorem Cells.ones {W : World} {ss : List Sh} {ts : List T} {cs : List Value} (h : Cells W ss ts cs) : ts.all T.one = true := by
  rw [List.all_eq_true]
  intro c hc
  obtain ⟨i, hi, rfl⟩ := List.mem_iff_getElem.1 hc
  have hs : i < ss.length := by have := h.1; omega
  exact (h.2.2.1 i _ _ (List.getElem?_eq_getElem hs) (List.getElem?_eq_getElem hi)).one

theorem chunk {α : Type} {sz : Nat} {g : Nat → List α} : ∀ {len : Nat}, (∀ i, i < len → (g i).length = sz) → ((List.range len).flatMap g).length = len * sz ∧ ∀ (k : Nat) u, ((List.range len).flatMap g)[k]? = some u → ∃ i j, i < len ∧ j < sz ∧ k = i * sz + j ∧ (g i)[j]? = some u
  | 0, _ => ⟨by simp, fun k u h => by simp at h⟩
  | len + 1, hg => by
    obtain ⟨h1, h2⟩ := chunk (len := len) fun i hi => hg i (by omega)
    have hl := hg len (by omega)
    refine ⟨by rw [List.range_succ, List.flatMap_append, List.length_append, h1]; simp [hl, Nat.succ_mul], fun k u h => ?_⟩
    rw [List.range_succ, List.flatMap_append, List.getElem?_append, h1] at h
    by_cases hk : k < len * sz
    · rw [if_pos hk] at h
      obtain ⟨i, j, a, b, c, d⟩ := h2 k u h
      exact ⟨i, j, by omega, b, c, d⟩
    · rw [if_neg hk] at h
      simp only [List.flatMap_cons, List.flatMap_nil, List.append_nil] at h
      have hj : k - len * sz < (g len).length := (List.getElem?_eq_some_iff.1 h).1
      exact ⟨len, k - len * sz, by omega, by omega, by omega, h⟩

theorem chunk_eq {sz i j i' j' : Nat} (hj : j < sz) (hj' : j' < sz) (h : i * sz + j = i' * sz + j') : i = i' ∧ j = j' := by
  have e1 : (i * sz + j) / sz = i := by rw [Nat.add_comm, Nat.add_mul_div_right _ _ (by omega), Nat.div_eq_of_lt hj, Nat.zero_add]
  have e2 : (i' * sz + j') / sz = i' := by rw [Nat.add_comm, Nat.add_mul_div_right _ _ (by omega), Nat.div_eq_of_lt hj', Nat.zero_add]
  have : i = i' := by rw [← e1, ← e2, h]
  subst this
  exact ⟨rfl, by omega⟩

theorem flatMap_same {α β : Type} {f g : α → List β} : ∀ l : List α, (∀ i ∈ l, f i = g i) → l.flatMap f = l.flatMap g
  | [], _ => rfl
  | x :: l, h => by rw [List.flatMap_cons, List.flatMap_cons, h x (by simp), flatMap_same l fun i hi => h i (by simp [hi])]

section
variable {H : Type} {enc : TypeId × Value → H} {P : Program} {W : World} {spare : Nat → Bool} {held : Bool}

/-- What a type's reading gives. -/
def Opens (enc : TypeId × Value → H) (P : Program) (W : World) (spare : Nat → Bool) (held : Bool) (t : TypeId) (ss : List Sh) : Prop :=
  ∀ (fuel : Nat) (cs : List Value) (x : DataW H × List MemPlace), DataW.trod enc P W 0 spare held fuel t cs = some x → ∃ ts, Cells W ss ts cs

theorem opens_fields {f : TypeId → Option (List Sh)} (hf : ∀ t ss, f t = some ss → Opens enc P W spare held t ss) {cs : List Value} : ∀ (fs : List Field) (off : Nat) (ss : List Sh), shFields P f fs off = some ss → off + ss.length = cs.length →
    (∀ fd ∈ fs, ∃ (fuel : Nat) (x : DataW H × List MemPlace), DataW.trod enc P W 0 spare held fuel fd.type ((cs.drop fd.offset).take (P.cellsOf fd.type)) = some x) → ∃ ts, Cells W ss ts (cs.drop off)
  | [], off, ss, h, hl, _ => by
    simp only [shFields, Option.some.injEq] at h
    subst h
    rw [List.drop_of_length_le (by simp at hl; omega)]
    exact ⟨[], Cells.nil W⟩
  | fd :: r, off, ss, h, hl, hr => by
    simp only [shFields] at h
    split at h
    · rename_i ho
      split at h
      · rename_i s1 h1
        split at h
        · rename_i hc
          split at h
          · rename_i rs h2
            simp only [Option.some.injEq] at h
            subst h
            obtain ⟨fuel, x, hx⟩ := hr fd (by simp)
            obtain ⟨t1, k1⟩ := hf fd.type s1 h1 fuel _ x hx
            rw [List.length_append] at hl
            obtain ⟨t2, k2⟩ := opens_fields hf r (off + s1.length) rs h2 (by omega) fun fd' h' => hr fd' (by simp [h'])
            have := k1.append k2
            rw [ho, ← hc, ← List.drop_drop, List.take_append_drop] at this
            exact ⟨_, this⟩
          · cases h
        · cases h
      · cases h
    · cases h

theorem opens_array {e : TypeId} {es : List Sh} (he : Opens enc P W spare held e es) {cs : List Value} : ∀ (m off : Nat), off + m * es.length = cs.length →
    (∀ i, i < m → ∃ (fuel : Nat) (x : DataW H × List MemPlace), DataW.trod enc P W 0 spare held fuel e ((cs.drop (off + i * es.length)).take es.length) = some x) → ∃ ts, Cells W (List.replicate m es).flatten ts (cs.drop off)
  | 0, off, hl, _ => by
    rw [List.drop_of_length_le (by omega)]
    exact ⟨[], Cells.nil W⟩
  | m + 1, off, hl, hr => by
    obtain ⟨fuel, x, hx⟩ := hr 0 (by omega)
    rw [Nat.zero_mul, Nat.add_zero] at hx
    obtain ⟨t1, k1⟩ := he fuel _ x hx
    obtain ⟨t2, k2⟩ := opens_array he (cs := cs) m (off + es.length) (by rw [Nat.succ_mul] at hl; omega) fun i hi => by
      obtain ⟨fuel, x, hx⟩ := hr (i + 1) (by omega)
      rw [Nat.succ_mul, Nat.add_comm (i * es.length), ← Nat.add_assoc] at hx
      exact ⟨fuel, x, hx⟩
    have := k1.append k2
    rw [← List.drop_drop, List.take_append_drop] at this
    exact ⟨_, by rw [List.replicate_succ, List.flatten_cons]; exact this⟩

theorem opens_slice {t e : TypeId} {es : List Sh} {many : Bool} (ht : P.underlying t = some (.slice e)) (he : Opens enc P W spare held e es) (hn : es.length = P.cellsOf e) (hm : many = true ∨ es.length = 1) : Opens enc P W spare held t [.lst many es] := by
  intro fuel cs x h
  rcases DataW.trod_slice ht h with ⟨rfl, _⟩ | ⟨a, len, cap, elems, rest, n, _, rfl, _, _, hl, hmx, hlen, hel, _, _⟩
  · have r : ∀ sz, RT (fun b => b < W.heap.size) W (.lst sz false []) (.slice none 0 0) := fun sz => RT.lst (sz := sz) (tight := false) (xs := []) none 0 [] (fun x hx => by cases hx) (Nat.le_refl _) (fun h => by cases h) (fun _ => ⟨rfl, rfl⟩) rfl (fun a' h => by cases h) (fun a' h => by cases h) (fun i c u hc => by simp [flat] at hc)
    cases many with
    | true => exact ⟨_, Cells.one (Fits.rows (es := es) (css := []) (by simp) (fun cs h => by cases h) (fun cs h => by cases h)) (r _)⟩
    | false =>
      have : ∃ s, es = [s] := by
        match es, hm.resolve_left (by simp) with
        | [s], _ => exact ⟨s, rfl⟩
      obtain ⟨s, rfl⟩ := this
      exact ⟨_, Cells.one (Fits.lst (e := s) (xs := []) (by simp) (fun x h => by cases h)) (r _)⟩
  · have each : ∀ i : Nat, ∃ p : List T × List Value, i < len → Cells W es p.1 p.2 ∧ ∀ (j : Nat) u, p.2[j]? = some u → W.cell? (a.add (i * es.length + j)) = some u := by
      intro i
      by_cases hi : i < len
      · have h1 := hel i hi
        rw [List.getElem?_eq_getElem (by omega), Option.bind_eq_some_iff] at h1
        obtain ⟨cs, hc, hy⟩ := h1
        obtain ⟨ts, k⟩ := he n cs _ hy
        refine ⟨(ts, cs), fun _ => ⟨k, fun j u hu => ?_⟩⟩
        obtain ⟨_, c2, c3⟩ := World.cells?_some hc
        have hj : j < cs.length := (List.getElem?_eq_some_iff.1 hu).1
        have := c3 j (by omega)
        rw [Addr.add_add, ← hn] at this
        rw [this]; exact hu
      · exact ⟨([], []), fun h => absurd h hi⟩
    obtain ⟨f, hf⟩ := Classical.axiomOfChoice each
    have cu := chunk (g := fun i => (f i).2) (sz := es.length) (len := len) fun i hi => (hf i hi).1.2.1
    have ct := chunk (g := fun i => (f i).1) (sz := es.length) (len := len) fun i hi => (hf i hi).1.1
    have key : ∀ xs : List T, Sized es.length xs → xs.length = len → flat xs = (List.range len).flatMap (fun i => (f i).1) → RT (fun b => b < W.heap.size) W (.lst es.length false xs) (.slice (some a) len cap) := by
      intro xs hsz hxl hfl
      rw [← hxl]
      refine RT.lst (some a) cap ((List.range len).flatMap fun i => (f i).2) hsz (by omega) (fun h => by cases h) (fun h => by cases h) (by rw [hfl, cu.1, ct.1]) ?_ ?_ ?_
      · intro a' ha' hpos
        cases ha'
        obtain ⟨i, j, hi, hj, h0, hu⟩ := cu.2 0 _ (List.getElem?_eq_getElem hpos)
        have := (hf i hi).2 j _ hu
        unfold World.cell? at this
        rw [Addr.add_block] at this
        rcases Nat.lt_or_ge a.block W.heap.size with h | h
        · exact h
        · rw [Array.getElem?_eq_none h] at this; simp at this
      · intro a' ha' k u hu
        cases ha'
        obtain ⟨i, j, hi, hj, rfl, hu'⟩ := cu.2 k u hu
        exact (hf i hi).2 j u hu'
      · intro k c u hc hu
        rw [hfl] at hc
        obtain ⟨i, j, hi, hj, hk, hu'⟩ := cu.2 k u hu
        obtain ⟨i', j', hi', hj', hk', hc'⟩ := ct.2 k c hc
        obtain ⟨rfl, rfl⟩ := chunk_eq hj hj' (hk.symm.trans hk')
        exact (hf i hi).1.2.2.2 j c u hc' hu'
    cases many with
    | true =>
      refine ⟨_, Cells.one (Fits.rows (es := es) (css := (List.range len).map fun i => (f i).1) (by simp; omega) ?_ ?_) (key _ ?_ (by simp) ?_)⟩
      · intro cs hcs
        obtain ⟨i, hi, rfl⟩ := List.mem_map.1 hcs
        exact (hf i (List.mem_range.1 hi)).1.1
      · intro cs hcs
        obtain ⟨i, hi, rfl⟩ := List.mem_map.1 hcs
        exact (hf i (List.mem_range.1 hi)).1.2.2.1
      · intro x hx
        obtain ⟨cs, hcs, rfl⟩ := List.mem_map.1 hx
        obtain ⟨i, hi, rfl⟩ := List.mem_map.1 hcs
        exact ⟨(hf i (List.mem_range.1 hi)).1.1, (hf i (List.mem_range.1 hi)).1.ones⟩
      · simp [flat, List.flatMap_map, T.cells]
    | false =>
      have : ∃ s, es = [s] := by
        match es, hm.resolve_left (by simp) with
        | [s], _ => exact ⟨s, rfl⟩
      obtain ⟨s, rfl⟩ := this
      have one : ∀ i, i < len → ∃ c, (f i).1 = [c] ∧ Fits s c := by
        intro i hi
        obtain ⟨⟨k1, k2, k3, k4⟩, _⟩ := hf i hi
        match hh : (f i).1, k1 with
        | [c], _ =>
          rw [hh] at k3
          exact ⟨c, rfl, k3 0 s c rfl rfl⟩
      have hcell : ∀ i, i < len → (T.at (f i).1 0).cells = (f i).1 := by
        intro i hi
        obtain ⟨c, e, hc⟩ := one i hi
        rw [e]
        have : c.one = true := hc.one
        cases c <;> first | rfl | simp [T.one] at this
      refine ⟨_, Cells.one (Fits.lst (e := s) (xs := (List.range len).map fun i => T.at (f i).1 0) (by simp; omega) ?_) (key _ ?_ (by simp) ?_)⟩
      · intro x hx
        obtain ⟨i, hi, rfl⟩ := List.mem_map.1 hx
        obtain ⟨c, e, hc⟩ := one i (List.mem_range.1 hi)
        rw [e]; exact hc
      · intro x hx
        obtain ⟨i, hi, rfl⟩ := List.mem_map.1 hx
        rw [hcell i (List.mem_range.1 hi)]
        exact ⟨(hf i (List.mem_range.1 hi)).1.1, (hf i (List.mem_range.1 hi)).1.ones⟩
      · rw [flat, List.flatMap_map]
        exact flatMap_same _ fun i hi => hcell i (List.mem_range.1 hi)

theorem open_sh : ∀ (n : Nat) (t : TypeId) (ss : List Sh), shOf P n t = some ss → Opens enc P W spare held t ss
  | 0, t, ss, h => by cases h
  | n + 1, t, ss, h => by
    simp only [shOf] at h
    split at h
    · rename_i ht
      cases h
      intro fuel cs x hx
      obtain ⟨b, rfl, _⟩ := DataW.trod_bool ht hx
      exact ⟨_, Cells.one (.bool b) (.bool b)⟩
    · rename_i k ht
      cases h
      intro fuel cs x hx
      obtain ⟨m, rfl, _, hw⟩ := DataW.trod_int ht hx
      exact ⟨_, Cells.one (.int hw) (.int k m)⟩
    · rename_i ht
      cases h
      intro fuel cs x hx
      obtain ⟨s, rfl, _, hw⟩ := DataW.trod_string ht hx
      exact ⟨_, Cells.one (.str hw) (.str s)⟩
    · rename_i e ht
      split at h
      · rename_i es he
        split at h
        · rename_i hc
          cases h
          exact opens_slice ht (open_sh n e es he) hc.1 hc.2
        · cases h
      · cases h
    · rename_i fs ht
      split at h
      · rename_i ss' hf
        split at h
        · rename_i hc
          cases h
          intro fuel cs x hx
          obtain ⟨xs, m, _, _, hl, hxl, hx'⟩ := DataW.trod_struct ht hx
          have := opens_fields (enc := enc) (W := W) (spare := spare) (held := held) (cs := cs) (fun t ss h => open_sh n t ss h) fs.toList 0 ss hf (by omega) fun fd hfd => by
            obtain ⟨i, hi⟩ := List.mem_iff_getElem?.1 hfd
            have hi' : fs[i]? = some fd := by rw [← Array.getElem?_toList]; exact hi
            have h1 := hx' i fd hi'
            have hlt : i < xs.length := by
              have := (List.getElem?_eq_some_iff.1 hi).1
              rw [Array.length_toList] at this
              omega
            rw [List.getElem?_eq_getElem hlt] at h1
            exact ⟨m, _, h1⟩
          simpa using this
        · cases h
      · cases h
    · rename_i m e ht
      split at h
      · rename_i es he
        split at h
        · rename_i hc
          cases h
          intro fuel cs x hx
          obtain ⟨xs, m', _, _, hl, hxl, hx'⟩ := DataW.trod_array ht hx
          have := opens_array (enc := enc) (W := W) (spare := spare) (held := held) (open_sh n e es he) (cs := cs) m 0 (by omega) fun i hi => by
            have h1 := hx' i hi
            rw [List.getElem?_eq_getElem (by omega), ← hc.1] at h1
            rw [Nat.zero_add]
            exact ⟨m', _, h1⟩
          simpa using this
        · cases h
      · cases h
    · cases h
end
end Go.Abs

/- A struct that is handed to a law. By the session itself. -/
namespace Go.Abs
open Go Go.RowKit
set_option linter.unusedSimpArgs false
set_option linter.unusedVariables false

theorem rv_agg {μ : Nat → Loc} {H : Heap} {W : World} {ss : List Sh} {ts : List T} {cs : List Value} (h : Cells W ss ts cs) : RV μ (fun b => b < W.heap.size) H W (.t (.agg ts)) (.agg ⟨cs⟩) :=
  .t (RT.agg cs (h.2.1.trans h.1.symm) h.2.2.2)

theorem Fits.int_inv {k : IntKind} {x : T} (h : Fits (.int k) x) : ∃ n, x = .int k n ∧ (Lit.int k n).wf = true := by
  cases h with
  | int h => exact ⟨_, rfl, h⟩

theorem Fits.ints_inv {k : IntKind} {x : T} (h : Fits (.lst false [.int k]) x) : ∃ l : List Int, x = .lst 1 false (l.map (T.int k)) ∧ (∀ n ∈ l, (Lit.int k n).wf = true) ∧ l.length ≤ maxLen := by
  cases h with
  | lst hl h =>
    rename_i xs
    have : ∃ l : List Int, xs = l.map (T.int k) ∧ ∀ n ∈ l, (Lit.int k n).wf = true := by
      clear hl
      induction xs with
      | nil => exact ⟨[], rfl, fun n h => by cases h⟩
      | cons x xs ih =>
        obtain ⟨l, rfl, hl⟩ := ih fun y hy => h y (List.mem_cons_of_mem _ hy)
        obtain ⟨n, rfl, hn⟩ := (h x (List.mem_cons_self ..)).int_inv
        refine ⟨n :: l, rfl, fun m hm => ?_⟩
        rcases List.mem_cons.1 hm with rfl | hm
        · exact hn
        · exact hl m hm
    obtain ⟨l, rfl, hw⟩ := this
    exact ⟨l, rfl, hw, by simpa using hl⟩

/-- The cells of a struct, one after another. -/
theorem Cells.head {W : World} {s : Sh} {ss : List Sh} {ts : List T} {cs : List Value} (h : Cells W (s :: ss) ts cs) : ∃ c tr u cr, ts = c :: tr ∧ cs = u :: cr ∧ Fits s c ∧ RT (fun b => b < W.heap.size) W c u ∧ Cells W ss tr cr := by
  obtain ⟨h1, h2, h3, h4⟩ := h
  match ts, cs, h1, h2 with
  | c :: tr, u :: cr, h1, h2 =>
    refine ⟨c, tr, u, cr, rfl, rfl, h3 0 s c rfl rfl, h4 0 c u rfl rfl, by simpa using h1, by simpa using h2, fun i s c hs hc => h3 (i + 1) s c (by simpa using hs) (by simpa using hc), fun i c u hc hu => h4 (i + 1) c u (by simpa using hc) (by simpa using hu)⟩

theorem Cells.tail_nil {W : World} {ts : List T} {cs : List Value} (h : Cells W [] ts cs) : ts = [] ∧ cs = [] := ⟨List.length_eq_zero_iff.1 h.1, List.length_eq_zero_iff.1 h.2.1⟩
end Go.Abs

/- Results that are frozen at a function's end; cells that are compared. By the session itself. -/
namespace Go.Abs
open Go
set_option linter.unusedSimpArgs false
set_option linter.unusedVariables false

theorem get_one_ne {v : V} {t : Nat} (h : t ≠ 0) : get [(0, v)] t = .undef := by simp [get_cons, get_nil, Ne.symm h]

theorem weak_tup {n : Nat} {vs : List V} {H H1 : Heap} {xs : List T} (hf : toElems H vs = some (xs, H1)) : Weak n ⟨[(0, .tup vs)], H⟩ ⟨[(0, .tup (xs.map .t))], H1⟩ := by
  intro H0 μ0 S0 W0 μ S W val hH r l hv
  have h0 := hv 0
  simp only [get_cons, if_true] at h0
  generalize hu : val 0 = u at h0
  cases h0 with
  | tup us hl h =>
    obtain ⟨S', r', l', hh⟩ := toElems_sound r ⟨hl.symm, h⟩ hf
    refine ⟨μ, S', r', l.trans l', fun t => ?_⟩
    by_cases ht : t = 0
    · subst ht
      simp only [get_cons, if_true, hu]
      refine .tup us (by rw [List.length_map]; exact hh.1.symm) fun i c w hc hw => ?_
      rw [List.getElem?_map] at hc
      cases e : xs[i]? with
      | none => rw [e] at hc; cases hc
      | some y => rw [e] at hc; cases hc; exact .t (hh.2 i y w e hw)
    · rw [get_one_ne ht]; exact .undef _

theorem weak_one {n : Nat} {v : V} {H H1 : Heap} {x : T} (hf : toElem H v = some (x, H1)) : Weak n ⟨[(0, v)], H⟩ ⟨[(0, .t x)], H1⟩ := by
  intro H0 μ0 S0 W0 μ S W val hH r l hv
  have h0 := hv 0
  simp only [get_cons, if_true] at h0
  obtain ⟨S', r', l', hh⟩ := toElem_sound r h0 hf
  refine ⟨μ, S', r', l.trans l', fun t => ?_⟩
  by_cases ht : t = 0
  · subst ht
    simp only [get_cons, if_true]
    exact .t hh
  · rw [get_one_ne ht]; exact .undef _

theorem finK_tup {n : Nat} {rs : List Res} {q : V → Heap → Prop} {s : St} (keep : List Nat) {c : Prop} {vs : List V} {xs : List T} {H1 : Heap} (hr : resV s.h s.vs rs = some (c, .tup vs)) (hc : c) (hf : toElems s.h vs = some (xs, H1)) (hk : keepOk n keep H1.length)
    (hq : q (.tup (xs.map .t)) (keep.map fun id => ((H1[id]?).getD default).ren (idx keep))) : finK n rs q s := by
  refine finK_intro hr hc ((weak_tup hf).trans (weak_keep (slots := [0]) (keep := keep) hk)) ?_
  simpa [get_cons, V.ren, renL_t] using hq

theorem finK_one {n : Nat} {rs : List Res} {q : V → Heap → Prop} {s : St} (keep : List Nat) {c : Prop} {v : V} {x : T} {H1 : Heap} (hr : resV s.h s.vs rs = some (c, v)) (hc : c) (hf : toElem s.h v = some (x, H1)) (hk : keepOk n keep H1.length)
    (hq : q (.t x) (keep.map fun id => ((H1[id]?).getD default).ren (idx keep))) : finK n rs q s := by
  refine finK_intro hr hc ((weak_one hf).trans (weak_keep (slots := [0]) (keep := keep) hk)) ?_
  simpa [get_cons, V.ren] using hq

/-- A result that is said less of. -/
theorem SCall.weak {P : Program} {f : FuncId} {args : List V} {H : Heap} {Q Q' : V → Heap → Prop} (h : SCall P f args H Q) (hw : ∀ r F, Q r F → ∃ r' F', Weak H.length ⟨[(0, r)], F⟩ ⟨[(0, r')], F'⟩ ∧ Q' r' F') : SCall P f args H Q' := by
  refine ⟨h.1, fun μ S W vals r ha => (h.2 μ S W vals r ha).mono ?_⟩
  rintro e W' ⟨v, u, H', μ', S', rfl, q, r', hv, l'⟩
  obtain ⟨v2, H2, hwk, q2⟩ := hw v H' q
  obtain ⟨μ2, S2, r2, l2, hv2⟩ := hwk H μ S W μ' S' W' (fun t => u) (Nat.le_refl _) r' l' (fun t => by
    by_cases ht : t = 0
    · subst ht; simpa [get_cons] using hv
    · rw [get_one_ne ht]; exact .undef _)
  exact ⟨v2, u, H2, μ2, S2, rfl, q2, r2, by simpa [get_cons] using hv2 0, l2⟩

/-! Cells that are numbers of 64 bits. -/
end Go.Abs

