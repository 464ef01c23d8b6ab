/- The instructions that write or make memory are right: append, make, literals, copy. By the session itself. -/
import Derived.Test.YtljjabccgbakgaaAb8
namespace Go.Abs
open Go Go.RowKit
set_option linter.unusedSimpArgs false
set_option linter.unusedVariables false

section
variable {P : Program} {H H' : Heap} {μ μ' : Nat → Loc} {S S' : Nat → Prop} {W W' : World}

/-- What stands in a slice, read as cells. -/
theorem run_firstCells {a : Option Addr} {n m len cap : Nat} {us : List Value} (hl : us.length = n * m) (hn : a = none → us = []) (hc : ∀ a', a = some a' → ∀ (i : Nat) w, us[i]? = some w → W.cell? (a'.add i) = some w) :
    (Builtin.firstCells m n (.slice a len cap)).run P W = .ok us.toArray W := by
  cases a with
  | none => rw [hn rfl]; rfl
  | some a =>
    have := run_loadCells_list (P := P) W a us (hc a rfl)
    rw [hl] at this
    exact this

theorem zeroCells_eq (z : List Value) (n : Nat) : (Builtin.zeroCells z.toArray n).toList.length = n * z.length := by
  simp [Builtin.zeroCells]

/-- The values of one element, over and over. -/
theorem rep_cells {sz : Nat} {z : T} {us : List Value} (hz : z.cells.length = sz) (ha : All2 (RT S W) z.cells us) (n : Nat) :
    All2 (RT S W) (flat (List.replicate n z)) (((Array.range (n * sz)).map fun i => us.toArray[i % us.toArray.size]!).toList) := by
  have hus : us.length = sz := by rw [← ha.1]; exact hz
  have hflen : (flat (List.replicate n z)).length = n * sz := by
    induction n with
    | zero => simp [flat]
    | succ n ih => rw [List.replicate_succ, flat_cons, List.length_append, ih, hz, Nat.succ_mul, Nat.add_comm]
  refine ⟨by simp [hflen], fun i c u hc hu => ?_⟩
  have hi : i < n * sz := by obtain ⟨h, _⟩ := List.getElem?_eq_some_iff.1 hc; omega
  have hs0 : 0 < sz := by
    rcases Nat.eq_zero_or_pos sz with h | h
    · subst h; simp at hi
    · exact h
  have hmod : i % sz < sz := Nat.mod_lt _ hs0
  have hcz : z.cells[i % sz]? = some c := by
    have key : ∀ (n i : Nat), i < n * sz → (flat (List.replicate n z))[i]? = z.cells[i % sz]? := by
      intro n
      induction n with
      | zero => intro i h; simp at h
      | succ n ih =>
        intro i h
        rw [List.replicate_succ, flat_cons]
        by_cases h1 : i < sz
        · rw [List.getElem?_append_left (by omega), Nat.mod_eq_of_lt h1]
        · rw [List.getElem?_append_right (by omega), hz, ih (i - sz) (by rw [Nat.succ_mul] at h; omega)]
          congr 1
          exact (Nat.mod_eq_sub_mod (by omega)).symm
    rw [← key n i hi]; exact hc
  have hcu : us[i % sz]? = some u := by
    simp only [Array.toList_map, Array.toList_range, List.getElem?_map] at hu
    rw [List.getElem?_range hi] at hu
    simp only [Option.map_some, Option.some.injEq] at hu
    rw [← hu]
    simp only [List.size_toArray, hus]
    rw [List.getElem?_eq_getElem (by omega)]
    congr 1
    rw [getElem!_pos us.toArray (i % sz) (by simp; omega)]
    simp
  exact ha.2 _ c u hcz hcu

theorem zeroElem_run {t : TypeId} {z : T} (h : zeroElem P t = some z) : ∃ v, (zeroValue t).run P W = .ok v W ∧ All2 (RT S W) z.cells v.cells.toList := by
  unfold zeroElem at h
  split at h
  · rename_i cs _ hc
    obtain ⟨v, h1, h2⟩ := zeroCells_run (P := P) (W := W) (S := S) hc
    cases h
    exact ⟨v, h1, h2⟩
  · rename_i x ha hc
    obtain ⟨v, h1, h2⟩ := zeroCells_run (P := P) (W := W) (S := S) hc
    cases h
    refine ⟨v, h1, ?_⟩
    have : z.cells = [z] := by
      unfold zeroCells at hc
      split at hc
      · split at hc
        · rename_i zv _
          cases hzl : zv.cells.toList with
          | nil => rw [hzl] at hc; simp [constTs] at hc
          | cons w ws =>
            rw [hzl] at hc
            simp only [constTs] at hc
            split at hc
            · rename_i y hy
              split at hc
              · simp only [Option.some.injEq, List.cons.injEq] at hc
                rw [← hc.1]
                unfold constT at hy
                split at hy <;> first | (cases hy; done) | (cases hy; rfl)
              · cases hc
            · cases hc
        · cases hc
      · cases hc
    rw [this]; exact h2
  · cases h

section
variable {ts : Array TypeId} {t u ty e : TypeId} {i : TypeInfo} {z : Value} (h0 : ts[0]? = some t) (h1 : ts[1]? = some u) (ht : P.underlying t = some (.slice e)) (hu : P.underlying u = some .string ∨ ∃ e', P.underlying u = some (.slice e'))
  (hi : P.info? e = some i) (hz : i.zero = some z) {base : Option Addr} {sLen sCap : Nat} {x : Value} {n : Nat} (hn : (Builtin.lenOf x).run P W = .ok n W)
include h0 h1 ht hu hi hn

theorem run_append_in (hcap : sLen + n ≤ sCap) {new : List Value} (hnew : (Builtin.firstCells i.size n x).run P W = .ok new.toArray W) :
    (Builtin.append_ ts ty #[.slice base sLen sCap, x]).run P W = ((match base with | some a => storeCells (a.add (sLen * i.size)) new | none => pure ()).run P W).andThen fun _ W' => .ok (.slice base (sLen + n) sCap) W' := by
  have hlen : (Builtin.lenOf x).run P W = .ok n W := hn
  rcases hu with hu | ⟨e', hu⟩ <;> cases base <;>
    simp [Builtin.append_, h0, h1, run_underlying ht, run_underlying hu, sizeOf, run_typeInfo hi, hlen, hcap, hnew]

include hz
theorem run_append_out (hcap : sCap < sLen + n) {new old : List Value} (hb0 : i.bytes ≠ 0) (hbound : (sLen + n) * i.bytes ≤ 2 ^ 47) (hnew : (Builtin.firstCells i.size n x).run P W.drew = .ok new.toArray W.drew)
    (hold : (Builtin.firstCells i.size sLen (.slice base sLen sCap)).run P W.drew = .ok old.toArray W.drew) :
    ∃ cap, sLen + n ≤ cap ∧ (Builtin.append_ ts ty #[.slice base sLen sCap, x]).run P W = .ok (.slice (some ⟨W.heap.size, 0, none⟩) (sLen + n) cap)
      (W.drew.alloc (.cells (old ++ new ++ (Builtin.zeroCells z.cells (cap - (sLen + n))).toList).toArray e)) := by
  have hlen : (Builtin.lenOf x).run P W = .ok n W := hn
  have hn' : ¬ (sLen + n ≤ sCap) := by omega
  have hb1 : sLen + n ≤ (sLen + n) * i.bytes := Nat.le_mul_of_pos_right _ (by omega)
  have h48 : ¬ (281474976710656 < Builtin.nextslicecap (sLen + n) sCap * i.bytes) := by
    have h1 := Nat.mul_le_mul_right i.bytes (nextslicecap_le hcap)
    have h2 : 2 * (sLen + n) * i.bytes = 2 * ((sLen + n) * i.bytes) := by rw [Nat.mul_assoc]
    omega
  refine ⟨Question.cut (.appendCap (sLen + n) sCap e) (W.tape W.drawn (.appendCap (sLen + n) sCap e)), ?_, ?_⟩
  · simp only [Question.cut]; omega
  · rcases hu with hu | ⟨e', hu⟩
    · simp [Builtin.append_, h0, h1, run_underlying ht, run_underlying hu, sizeOf, run_typeInfo hi, hlen, hn', hb0, h48, Question.forced, zeroValue, hz, newRow, hold, hnew]
      congr 2
      apply Array.ext'; simp
    · simp [Builtin.append_, h0, h1, run_underlying ht, run_underlying hu, sizeOf, run_typeInfo hi, hlen, hn', hb0, h48, Question.forced, zeroValue, hz, newRow, hold, hnew]
      congr 2
      apply Array.ext'; simp
end

theorem lenOf_slice {a : Option Addr} {n cap : Nat} : (Builtin.lenOf (.slice a n cap)).run P W = .ok n W := rfl
theorem lenOf_str {s : ByteArray} : (Builtin.lenOf (.string s)).run P W = .ok s.size W := rfl

theorem drew_below (W : World) : Below W.heap.size W W.drew := ⟨rfl, rfl, rfl, Nat.le_refl _, fun _ _ => rfl⟩
theorem drew_cell (a : Addr) : W.drew.cell? a = W.cell? a := rfl

/-- What is appended, as cells. -/
structure Src (P : Program) (S : Nat → Prop) (W : World) (m : Nat) (ys : List T) (x : Value) : Prop where
  len : (Builtin.lenOf x).run P W = .ok ys.length W
  sized : Sized m ys
  cells : ∃ new : List Value, All2 (RT S W) (flat ys) new ∧ (Builtin.firstCells m ys.length x).run P W = .ok new.toArray W ∧ (Builtin.firstCells m ys.length x).run P W.drew = .ok new.toArray W.drew

theorem src_elems (r : Rel H μ S W) {m : Nat} {x : V} {u : Value} (hx : RV μ S H W x u) {ys : List T} (hk : elems H m x = some ys) : Src P S W m ys u := by
  obtain ⟨a, cap, us, rfl, hnone, hsz, hall, hcell⟩ := elems_cells r hx hk
  have hfl := flat_length hsz
  have hl : us.length = ys.length * m := by rw [← hall.1]; exact hfl
  have hn : a = none → us = [] := fun e => by
    have := hnone e
    subst this
    exact List.length_eq_zero_iff.1 (by simpa using hl)
  exact ⟨lenOf_slice, hsz, us, hall, run_firstCells hl hn hcell, run_firstCells (W := W.drew) hl hn hcell⟩

theorem strElems_sized (s : List UInt8) : Sized 1 (s.map fun b => T.int .u8 b.toNat) := by
  intro x hx
  obtain ⟨b, _, rfl⟩ := List.mem_map.1 hx
  exact ⟨rfl, rfl⟩

theorem flat_ones : ∀ {xs : List T}, (∀ x ∈ xs, x.cells = [x]) → flat xs = xs
  | [], _ => rfl
  | x :: xs, h => by rw [flat_cons, h x (List.mem_cons_self ..), flat_ones fun y hy => h y (List.mem_cons_of_mem _ hy)]; rfl

theorem src_str (s : ByteArray) : Src P S W 1 (strElems s) (.string s) := by
  have hl : (strElems s).length = s.size := by simp [strElems]
  have hx : (s.extract 0 s.size).data = s.data := by simp
  have hnew : ((s.extract 0 (strElems s).length).data.map fun b => Value.int .u8 b.toNat) = (s.data.toList.map fun b => Value.int .u8 (b.toNat : Int)).toArray := by
    rw [hl, hx]; apply Array.ext'; simp
  refine ⟨by rw [hl]; exact lenOf_str, strElems_sized _, s.data.toList.map fun b => Value.int .u8 (b.toNat : Int), ?_, ?_, ?_⟩
  · rw [flat_ones (xs := strElems s) (fun x hx => by obtain ⟨b, _, rfl⟩ := List.mem_map.1 hx; rfl)]
    refine ⟨by simp [strElems], fun i c u hc hu => ?_⟩
    simp only [strElems, List.getElem?_map] at hc hu
    cases e : s.data.toList[i]? with
    | none => rw [e] at hc; cases hc
    | some b => rw [e] at hc hu; cases hc; cases hu; exact .int _ _
  · simp only [Builtin.firstCells, Sem.run_pure, hnew]
  · simp only [Builtin.firstCells, Sem.run_pure, hnew]

theorem sized_append {m : Nat} {xs ys : List T} (h : Sized m xs) (k : Sized m ys) : Sized m (xs ++ ys) := h.append k

theorem sound_append (r : Rel H μ S W) {ts : Array TypeId} {t u ty e : TypeId} {m b : Nat} (h0 : ts[0]? = some t) (h1 : ts[1]? = some u) (ht : P.underlying t = some (.slice e))
    (hu : P.underlying u = some .string ∨ ∃ e', P.underlying u = some (.slice e')) (hm : sizeT P e = some m) (hb : bytesT P e = some b) (hb0 : b ≠ 0) (hzero : ∃ zt, zeroElem P e = some zt ∧ zt.cells.length = m) {s : V} {sv : Value} (hs : RV μ S H W s sv)
    {x : Value} {ys : List T} (src : Src P S W m ys x) {c : Prop} {v : V} {H' : Heap} (hk : kappend H m b s ys = some (c, v, H')) (hc : c) :
    Eff P H μ S W (Builtin.append_ ts ty #[sv, x]) v H' := by
  obtain ⟨i, hi, rfl, rfl⟩ : ∃ i, P.info? e = some i ∧ i.size = m ∧ i.bytes = b := by
    unfold sizeT at hm; unfold bytesT at hb
    cases hi : P.info? e with
    | none => rw [hi] at hm; cases hm
    | some i => rw [hi] at hm hb; cases hm; cases hb; exact ⟨i, rfl, rfl, rfl⟩
  obtain ⟨z, hz, hzs⟩ : ∃ z, i.zero = some z ∧ z.cells.size = i.size := by
    obtain ⟨zt, hzt, hzl⟩ := hzero
    obtain ⟨zv, h1, h2⟩ := zeroElem_run (P := P) (W := W) (S := S) hzt
    cases hz : i.zero with
    | none => simp [zeroValue, run_typeInfo hi, hz] at h1
    | some z =>
      simp only [zeroValue, Sem.run_bind, run_typeInfo hi, Result.andThen_ok, hz, Sem.run_pure, Result.ok.injEq, and_true] at h1
      subst h1
      refine ⟨z, rfl, ?_⟩
      have := h2.1
      rw [hzl] at this
      simpa using this.symm
  have hzc : ∀ n, (Builtin.zeroCells z.cells n).toList.length = n * i.size := fun n => by
    have := zeroCells_eq z.cells.toList n
    simp only [Array.toArray_toList, Array.length_toList, hzs] at this ⊢
    exact this
  obtain ⟨hlen, hsy, new, hall, hnew, hnewd⟩ := src
  have hfy := flat_length hsy
  have hnl : new.length = ys.length * i.size := by rw [← hall.1]; exact hfy
  cases s with
  | t q =>
    cases q with
    | lst sz tight xs =>
      cases tight with
      | false => simp only [kappend, reduceCtorEq] at hk
      | true =>
        simp only [kappend] at hk
        cases hk
        obtain ⟨hc1, hc2, hbd⟩ := hc
        have hs' := hs.t_inv
        cases hs' with
        | lst a cap us hsz hcap htt hnone hl hS hcell hr =>
          have hcapx := htt rfl
          subst hcapx
          have hszx : Sized i.size xs := by
            rcases hc2 with h | h
            · subst h; exact .nil _
            · exact h ▸ hsz
          have hfx := flat_length hszx
          by_cases hy : ys = []
          · have hx : xs = [] := by rcases hc1 with h | h; exact h; exact absurd hy h
            subst hx; subst hy
            have hn0 : new = [] := List.length_eq_zero_iff.1 (by simpa using hnl)
            subst hn0
            have hrun := run_append_in (P := P) (W := W) (ty := ty) (base := a) (sLen := 0) (sCap := 0) h0 h1 ht hu hi hlen (by simp) hnew
            -- a row without capacity
            obtain ⟨μ', he, r', l'⟩ := grow1 r (Below.refl _ W) (.row i.size 0 []) ⟨0, 0, 0⟩ (fun h => by simp [Obj.live] at h) (fun μ' e L => ⟨fun h => by simp at h, .nil _, by simp, fun h => by simp at h⟩)
            refine ⟨.slice a 0 0, W, μ', S, ?_, r', ?_, l'⟩
            · rw [show (Value.slice a [].length ([] : List T).length) = Value.slice a 0 0 from rfl, hrun]
              cases a <;> simp [storeCells]
            · exact .sl a 0 i.size 0 [] (by simp [rowOf]) (Nat.le_refl _) (Nat.le_refl _) (fun _ => rfl) fun _ => ⟨rfl, by simp, fun h => by simp at h⟩
          · have hy0 : 0 < ys.length := List.length_pos_iff.2 hy
            have hn : a = none → us = [] := fun e => List.length_eq_zero_iff.1 (by rw [hl, (hnone e).1]; rfl)
            have hul : us.length = xs.length * i.size := by rw [hl, hfx]
            obtain ⟨cap, hcap1, hrun⟩ := run_append_out (P := P) (W := W) (ty := ty) (base := a) (sLen := xs.length) (sCap := xs.length) h0 h1 ht hu hi hz hlen (by omega) hb0 hbd hnewd (run_firstCells (W := W.drew) hul hn hcell)
            obtain ⟨μ', r', v', l'⟩ := new_row (H := H) (μ := μ) (xs := xs ++ ys) (cap := cap) (us := us ++ new ++ (Builtin.zeroCells z.cells (cap - (xs.length + ys.length))).toList) r (hszx.append hsy) (by simpa using hcap1) (by
                rw [List.length_append, List.length_append, hzc, hnl, hul, ← Nat.add_mul, ← Nat.add_mul]
                exact Nat.mul_le_mul_right _ (by omega)) (fun j c w hj hw => by
                rw [flat_append] at hj
                have := (All2.append (R := RT S W) ⟨hl.symm, hr⟩ hall).2 j c w hj
                refine this ?_
                rw [List.getElem?_append_left] at hw
                · exact hw
                · have := (All2.append (R := RT S W) ⟨hl.symm, hr⟩ hall).1
                  obtain ⟨hlt, _⟩ := List.getElem?_eq_some_iff.1 hj
                  omega) e (W' := W.drew.alloc _) ((drew_below W).trans (alloc_below W.drew _)) (alloc_new W.drew _)
            rw [List.length_append] at v'
            exact ⟨_, _, μ', S, hrun, r', v', l'⟩
    | _ => simp only [kappend, reduceCtorEq] at hk
  | sl id off len gen sz' =>
    simp only [kappend] at hk
    split at hk
    · rename_i s2 g xs hrow
      split at hk
      · rename_i hcond
        obtain ⟨hg, hoff, hs2, hsz'⟩ := hcond
        subst hs2; subst hoff; subst hsz'; subst hg
        cases hk
        obtain ⟨hlx, hbd⟩ := hc
        subst hlx
        obtain ⟨hS, hsized, hcapr, hblk⟩ := r.objs id _ hrow
        have hfx := flat_length hsized
        cases hs with
        | sl a cap sz2 g2 xs2 hr2 hg2 hcap2 hn2 hh =>
          rw [hrow] at hr2
          simp only [rowOf, Option.some.injEq, Prod.mk.injEq] at hr2
          obtain ⟨rfl, rfl, rfl⟩ := hr2
          obtain ⟨_, _, ha⟩ := hh rfl
          by_cases hfit : xs.length + ys.length ≤ cap
          · have hrun := run_append_in (P := P) (W := W) (ty := ty) (base := a) h0 h1 ht hu hi hlen hfit hnew
            by_cases hc0 : cap = 0
            · have hy : ys = [] := List.length_eq_zero_iff.1 (by omega)
              have hx : xs = [] := List.length_eq_zero_iff.1 (by omega)
              subst hy; subst hx
              have hn0 : new = [] := List.length_eq_zero_iff.1 (by simpa using hnl)
              subst hn0
              subst hc0
              obtain ⟨μ', he, hne, r', l'⟩ := change (W' := W) (S' := S) (o' := .row i.size (gen + 1) []) r hrow (μ id) rfl rfl rfl (Nat.le_refl _) (fun _ _ _ => rfl) (fun _ h => h) (fun _ h => .inl h) r.size
                ⟨rfl, .inl (by omega)⟩ (fun h => .inr ⟨h, rfl⟩) (fun μ' e1 e2 L => ⟨hS, (r.row (by rw [hrow]; rfl)).later L r fun _ => rfl⟩)
              refine ⟨.slice a 0 0, W, μ', S, ?_, r', ?_, l'⟩
              · rw [show (Value.slice a ([] : List T).length 0) = Value.slice a 0 0 from rfl] at hrun ⊢
                rw [hrun]; cases a <;> simp [storeCells]
              · have hidl : id < H.length := by obtain ⟨h, _⟩ := List.getElem?_eq_some_iff.1 hrow; exact h
                exact .sl a 0 i.size (gen + 1) [] (by rw [List.getElem?_set]; simp [hidl, rowOf]) (Nat.le_refl _) (Nat.le_refl _) (fun _ => rfl) fun _ => ⟨rfl, by simp, fun h => by simp at h⟩
            · obtain ⟨rfl, hcc⟩ := ha hc0
              have hcr : (μ id).cap ≠ 0 := by omega
              obtain ⟨us, tyy, fz, hw, hfz, hul, hrt⟩ := hblk hcr
              have hm1 : xs.length * i.size + ys.length * i.size ≤ (μ id).cap * i.size := by rw [← Nat.add_mul]; exact Nat.mul_le_mul_right _ (by omega)
              obtain ⟨W', f1, f2, f3, f4, f5, f6, f7⟩ := run_storeCells_put (P := P) (μ id).blk tyy fz new ((μ id).off + xs.length * i.size) 0 us W hw (by omega) hfz.2 (all2_one hall hsy.one)
              have hlv : (Obj.row i.size gen xs).live (μ id) = true := by simpa [Obj.live] using hcr
              obtain ⟨μ', he, hne, r', l'⟩ := change (W' := W') (S' := S) (o' := .row i.size (gen + 1) (xs ++ ys)) r hrow (μ id) f3 f4 f5 (by omega) (fun b _ hb => f7 b fun h => hb ⟨hlv, h⟩) (fun _ h => h) (fun _ h => .inl h)
                (fun b h => by rw [f6]; exact r.size b h) ⟨rfl, .inl (by omega)⟩ (fun _ => .inr ⟨hlv, rfl⟩)
                (fun μ' e1 e2 L => by
                  refine ⟨hS, hsized.append hsy, by simp; omega, fun _ => ⟨_, tyy, fz, f2, ?_, ?_, ?_⟩⟩
                  · rw [putAt_length _ _ _ (by omega)]; exact hfz
                  · rw [putAt_length _ _ _ (by omega)]; exact hul
                  · intro j c w hj hw'
                    rw [flat_append, List.getElem?_append] at hj
                    rw [putAt_get _ _ _ _ (by omega)] at hw'
                    split at hj
                    · rw [if_neg (by omega)] at hw'
                      exact (hrt j c w hj hw').later L r
                    · have hjl : j - (flat xs).length < (flat ys).length := by obtain ⟨h, _⟩ := List.getElem?_eq_some_iff.1 hj; exact h
                      rw [if_pos (by omega)] at hw'
                      rw [show (μ id).off + j - ((μ id).off + xs.length * i.size + 0) = j - (flat xs).length by omega] at hw'
                      exact (hall.2 _ c w hj hw').later L r)
              have hidl : id < H.length := by obtain ⟨h, _⟩ := List.getElem?_eq_some_iff.1 hrow; exact h
              refine ⟨.slice (some ⟨(μ id).blk, (μ id).off + 0 * i.size, none⟩) (xs.length + ys.length) cap, W', μ', S, ?_, r', .sl _ cap i.size (gen + 1) (xs ++ ys) (by rw [List.getElem?_set]; simp [hidl, rowOf]) (Nat.le_refl _) hfit (fun e => by cases e) fun _ => ⟨rfl, by simp, fun _ => ?_⟩, l'⟩
              · rw [hrun]
                simp only [add_eq]
                simp only [Nat.zero_mul, Nat.add_zero]
                rw [f1]; rfl
              · rw [he]; exact ⟨by simp, by omega⟩
          · have hold : ∃ old : List Value, All2 (RT S W) (flat xs) old ∧ (Builtin.firstCells i.size xs.length (.slice a xs.length cap)).run P W.drew = .ok old.toArray W.drew := by
              by_cases hc0 : cap = 0
              · have hx : xs = [] := List.length_eq_zero_iff.1 (by omega)
                subst hx
                refine ⟨[], ⟨rfl, by simp⟩, run_firstCells (W := W.drew) (by simp) (fun _ => rfl) (by simp)⟩
              · obtain ⟨rfl, hcc⟩ := ha hc0
                have hcr : (μ id).cap ≠ 0 := by omega
                obtain ⟨us, tyy, fz, hw, hfz, hul, hrt⟩ := hblk hcr
                have hm1 : xs.length * i.size ≤ (μ id).cap * i.size := Nat.mul_le_mul_right _ (by omega)
                refine ⟨(us.drop (μ id).off).take (xs.length * i.size), ⟨by simp only [List.length_take, List.length_drop]; omega, fun j c w hj hw' => ?_⟩, run_firstCells (W := W.drew) (by simp only [List.length_take, List.length_drop]; omega) (fun e => by simp at e) fun a' e j w hj => ?_⟩
                · rw [List.getElem?_take] at hw'
                  split at hw'
                  · rw [List.getElem?_drop] at hw'
                    exact hrt j c w hj hw'
                  · cases hw'
                · cases e
                  rw [List.getElem?_take] at hj
                  split at hj
                  · rw [List.getElem?_drop] at hj
                    rw [add_eq rfl, drew_cell, cell_at hw]; simpa using hj
                  · cases hj
            obtain ⟨old, hallo, holdr⟩ := hold
            have hol : old.length = xs.length * i.size := by rw [← hallo.1]; exact hfx
            obtain ⟨cap', hcap1, hrun⟩ := run_append_out (P := P) (W := W) (ty := ty) (base := a) (sLen := xs.length) (sCap := cap) h0 h1 ht hu hi hz hlen (by omega) hb0 hbd hnewd holdr
            have hbelow : Below W.heap.size W (W.drew.alloc (.cells (old ++ new ++ (Builtin.zeroCells z.cells (cap' - (xs.length + ys.length))).toList).toArray e)) := (drew_below W).trans (alloc_below W.drew _)
            have hnewb := alloc_new W.drew (.cells (old ++ new ++ (Builtin.zeroCells z.cells (cap' - (xs.length + ys.length))).toList).toArray e)
            have hidl : id < H.length := by obtain ⟨h, _⟩ := List.getElem?_eq_some_iff.1 hrow; exact h
            obtain ⟨μ', he, hne, r', l'⟩ := change (W' := W.drew.alloc (.cells (old ++ new ++ (Builtin.zeroCells z.cells (cap' - (xs.length + ys.length))).toList).toArray e)) (S' := S) (o' := .row i.size (gen + 1) (xs ++ ys)) r hrow
              ⟨W.heap.size, 0, cap'⟩ hbelow.os hbelow.tape hbelow.output hbelow.size (fun b hb _ => hbelow.block b hb) (fun _ h => h) (fun _ h => .inl h) (fun b h => Nat.lt_of_lt_of_le (r.size b h) hbelow.size)
              ⟨rfl, .inl (by omega)⟩ (fun _ => .inl (Nat.le_refl _))
              (fun μ' e1 e2 L => by
                refine ⟨fun _ hs => ?_, hsized.append hsy, by simpa using hcap1, fun _ => ⟨_, e, (0, 0), hnewb, ⟨by simp, by simp⟩, ?_, ?_⟩⟩
                · have := r.size _ hs; simp at this
                · rw [List.length_append, List.length_append, hzc, hnl, hol, ← Nat.add_mul, ← Nat.add_mul, Nat.zero_add]
                  exact Nat.mul_le_mul_right _ (by show cap' ≤ _; omega)
                · intro j c w hj hw'
                  rw [flat_append] at hj
                  refine ((hallo.append hall).2 j c w hj ?_).later L r
                  simp only [Nat.zero_add] at hw'
                  rw [List.getElem?_append_left] at hw'
                  · exact hw'
                  · have := (hallo.append hall).1
                    obtain ⟨hlt, _⟩ := List.getElem?_eq_some_iff.1 hj
                    omega)
            refine ⟨_, _, μ', S, hrun, r', .sl _ cap' i.size (gen + 1) (xs ++ ys) (by rw [List.getElem?_set]; simp [hidl, rowOf]) (Nat.le_refl _) hcap1 (by simp) fun _ => ⟨rfl, by simp, fun _ => ?_⟩, l'⟩
            rw [he]; exact ⟨by simp, by simp⟩
      · cases hk
    · cases hk
  | _ => simp only [kappend, reduceCtorEq] at hk
end
end Go.Abs
