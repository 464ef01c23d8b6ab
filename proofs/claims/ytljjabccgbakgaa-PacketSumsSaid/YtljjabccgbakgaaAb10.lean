/- The instructions that write or make memory are right: make, literals, copy, and all of them together. By the session itself. -/
import Derived.Test.YtljjabccgbakgaaAb9
namespace Go.Abs
open Go Go.RowKit
set_option linter.unusedSimpArgs false
set_option linter.unusedVariables false

section
variable {P : Program} {H H' : Heap} {μ μ' : Nat → Loc} {S S' : Nat → Prop} {W W' : World}

theorem range0 : Array.range 0 = #[] := rfl

theorem run_newRow {t : TypeId} {cs : Array Value} : (newRow t cs).run P W = .ok ⟨W.heap.size, 0, none⟩ (W.alloc (.cells cs t)) := by
  simp only [newRow, Sem.run_bind, run_newObj, Result.andThen_ok, Sem.run_pure]; rfl

theorem sized_replicate {sz n : Nat} {z : T} (hz : z.cells.length = sz ∧ z.cells.all T.one = true) : Sized sz (List.replicate n z) := by
  intro x hx; rw [List.eq_of_mem_replicate hx]; exact hz

theorem constTs_one : ∀ {zs : List Value} {xs : List T}, constTs zs = some xs → xs.all T.one = true
  | [], xs, h => by simp only [constTs, Option.some.injEq] at h; subst h; rfl
  | z :: zs, xs, h => by
    simp only [constTs] at h
    split at h
    · rename_i x hx
      split at h
      · rename_i ys hy
        cases h
        simp only [List.all_cons, constTs_one hy, Bool.and_true]
        unfold constT at hx
        split at hx <;> first | (cases hx; rfl) | (cases hx; done)
      · cases h
    · cases h

theorem zeroElem_one {t : TypeId} {z : T} (h : zeroElem P t = some z) : z.cells.all T.one = true := by
  have hz : ∀ {cs : List T}, zeroCells P t = some cs → cs.all T.one = true := by
    intro cs hc
    unfold zeroCells at hc
    split at hc
    · split at hc
      · exact constTs_one hc
      · cases hc
    · cases hc
  unfold zeroElem at h
  split at h
  · rename_i cs _ hc; cases h; exact hz hc
  · rename_i x _ hc
    cases h
    have := hz hc
    cases z <;> first | rfl | simp [T.one] at this
  · cases h

theorem sound_makeSlice (r : Rel H μ S W) {t e : TypeId} {n b : Nat} {z : T} (ht : P.underlying t = some (.slice e)) (hn : sizeT P e = some n) (hb : bytesT P e = some b) (hz : zeroElem P e = some z) (hzl : z.cells.length = n)
    (hn0 : n ≠ 0) {k k' : IntKind} {l c : Int} (h0 : 0 ≤ l) (h1 : l ≤ c) (h2 : c < 9223372036854775808) (h3 : (b : Int) * c ≤ 2 ^ 46) :
    Eff P H μ S W (Instr.makeSlice t (.int k l) (.int k' c)) (.sl H.length 0 l.toNat 0 n) (H ++ [.row n 0 (List.replicate l.toNat z)]) := by
  obtain ⟨zv, hzr, hza⟩ := zeroElem_run (P := P) (W := W) (S := S) hz
  obtain ⟨i, hi, rfl, rfl⟩ : ∃ i, P.info? e = some i ∧ i.size = n ∧ i.bytes = b := by
    unfold sizeT at hn; unfold bytesT at hb
    cases hi : P.info? e with
    | none => rw [hi] at hn; cases hn
    | some i => rw [hi] at hn hb; cases hn; cases hb; exact ⟨i, rfl, rfl, rfl⟩
  have wl : IntKind.i64.wrap l = l := by simp [IntKind.wrap, IntKind.bits, IntKind.signed]; omega
  have wc : IntKind.i64.wrap c = c := by simp [IntKind.wrap, IntKind.bits, IntKind.signed]; omega
  have hbl : (i.bytes : Int) * l ≤ (i.bytes : Int) * c := Int.mul_le_mul_of_nonneg_left h1 (by omega)
  obtain ⟨us, hus, hrun⟩ : ∃ us : List Value, All2 (RT S W) (flat (List.replicate c.toNat z)) us ∧
      (Instr.makeSlice t (.int k l) (.int k' c)).run P W = .ok (.slice (some ⟨W.heap.size, 0, none⟩) l.toNat c.toNat) (W.alloc (.cells us.toArray e)) := by
    have hrep := rep_cells (S := S) (W := W) hzl hza c.toNat
    refine ⟨_, hrep, ?_⟩
    have hcond : ¬ ((((decide (c < 0) || decide ((i.bytes : Int) * c > 2 ^ 48)) || decide (l < 0)) || decide (l > c)) = true) := by
      simp only [Bool.or_eq_true, decide_eq_true_eq]; omega
    simp only [Instr.makeSlice, Sem.run_bind, run_underlying ht, Result.andThen_ok, run_asInt, run_typeInfo hi, wl, wc]
    rw [if_neg hcond]
    simp only [Sem.run_bind, Sem.run_pure, Result.andThen_ok, run_askRoom, run_sizeOf hn]
    by_cases hc0 : c.toNat * i.size = 0
    · rw [if_pos hc0]
      have : c.toNat = 0 := by
        rcases Nat.mul_eq_zero.1 hc0 with h | h
        · exact h
        · exact absurd h hn0
      simp only [Sem.run_pure, Result.andThen_ok, hc0, range0, Array.map_empty, Sem.run_bind, run_newRow]
    · rw [if_neg hc0]
      simp only [Sem.run_bind, hzr, Sem.run_pure, Result.andThen_ok, run_newRow, Array.toArray_toList]
  have hsz : Sized i.size (List.replicate l.toNat z) := sized_replicate ⟨hzl, zeroElem_one hz⟩
  have hlc : l.toNat ≤ c.toNat := by omega
  have hflc : (flat (List.replicate c.toNat z)).length = c.toNat * i.size := by
    have := flat_length (sized_replicate (n := c.toNat) ⟨hzl, zeroElem_one hz⟩); simpa using this
  obtain ⟨μ', h4, h5, h6⟩ := new_row (H := H) (μ := μ) (xs := List.replicate l.toNat z) (cap := c.toNat) (us := us) r hsz (by simpa using hlc) (by rw [← hus.1, hflc]; exact Nat.le_refl _) (fun j cc w hj hw => by
    refine hus.2 j cc w ?_ hw
    have e1 : List.replicate l.toNat z = (List.replicate c.toNat z).take l.toNat := by rw [List.take_replicate]; congr 1; omega
    rw [e1, flat_take _ (sized_replicate ⟨hzl, zeroElem_one hz⟩), List.getElem?_take] at hj
    split at hj
    · exact hj
    · cases hj) e (alloc_below W _) (alloc_new W _)
  rw [List.length_replicate] at h5
  exact ⟨_, _, μ', S, hrun, h4, h5, h6⟩

/-- The elements of a literal. -/
theorem fill_rows {sz : Nat} : ∀ (is : List Nat) (zs es : List T) (us ws : List Value), Sized sz zs → Sized sz es → es.length = is.length → (∀ i ∈ is, i < zs.length) → All2 (RT S W) (flat zs) us → All2 (RT S W) es ws →
    ∃ us' : List Value, Instr.fill (fun i => some (i * sz, sz)) us.toArray (is.zip ws) = some us'.toArray ∧ All2 (RT S W) (flat (setElems zs is es)) us' ∧ Sized sz (setElems zs is es) ∧ (setElems zs is es).length = zs.length := by
  intro is
  induction is with
  | nil =>
    intro zs es us ws hz _ hl _ ha _
    obtain rfl : es = [] := List.length_eq_zero_iff.1 (by simpa using hl)
    exact ⟨us, by simp [Instr.fill], ha, hz, rfl⟩
  | cons i is ih =>
    intro zs es us ws hz he hl hlt ha hw
    match es, hl with
    | x :: es, hl =>
      match ws, hw with
      | w :: ws, hw =>
        have hx := he x (List.mem_cons_self ..)
        have hx0 : RT S W x w := hw.2 0 x w rfl rfl
        have hcells := hx0.cells
        have hi : i < zs.length := hlt i (List.mem_cons_self ..)
        have hzi := at_get hi
        have hzl := (hz _ (List.mem_of_getElem? hzi)).1
        have hcl : (T.at zs i).cells.length = sz := hzl
        have hput : x.cells = putAt (T.at zs i).cells 0 x.cells := by
          unfold putAt
          rw [List.take_zero, List.nil_append, Nat.zero_add, List.drop_of_length_le (by omega), List.append_nil]
        have hm : i * sz + sz ≤ zs.length * sz := by
          have := Nat.mul_le_mul_right sz (show i + 1 ≤ zs.length by omega)
          rw [Nat.succ_mul] at this; exact this
        have hfl := flat_length hz
        have hflat : flat (zs.set i x) = putAt (flat zs) (i * sz) x.cells := by
          have := flat_set (off := 0) hz hzi hput (by omega); simpa using this
        obtain ⟨us', e1, e2, e3, e4⟩ := ih (zs.set i x) es (putAt us (i * sz) w.cells.toList) ws (sized_set hz i hx) (fun y hy => he y (List.mem_cons_of_mem _ hy)) (by simpa using hl)
          (fun j hj => by simpa using hlt j (List.mem_cons_of_mem _ hj)) (by rw [hflat]; exact ha.putAt hcells _)
          ⟨by simpa using hw.1, fun j a b h1 h2 => hw.2 (j + 1) a b (by simpa using h1) (by simpa using h2)⟩
        refine ⟨us', ?_, e2, e3, e4.trans (by simp)⟩
        simp only [List.zip_cons_cons, Instr.fill]
        have h3 : w.cells.size = sz := by have := hcells.1; simp at this; omega
        have h4 : us.length = (flat zs).length := ha.1.symm
        have h5 : ¬ ((decide (w.cells.size ≠ sz) || decide (i * sz + w.cells.size > us.toArray.size)) = true) := by
          simp only [List.size_toArray, Bool.or_eq_true, decide_eq_true_eq]; omega
        rw [if_neg h5]
        have := foldl_put us (i * sz) w.cells.toList (by simp; omega)
        simp only [Array.toArray_toList] at this
        rw [this]; exact e1

theorem run_buildSlice {t e : TypeId} {n len : Nat} {z : T} (ht : P.underlying t = some (.slice e)) (hn : sizeT P e = some n) (hz : zeroElem P e = some z) (hzl : z.cells.length = n) (hsmall : len * n ≤ 2 ^ 24) {is : List Nat} {es : List T}
    {ws : List Value} (hes : Sized n es) (hl : es.length = is.length) (hlt : ∀ i ∈ is, i < len) (ha : All2 (RT S W) es ws) :
    ∃ us : List Value, (Instr.buildSlice t len (is.zip ws).toArray).run P W = .ok (.slice (some ⟨W.heap.size, 0, none⟩) len len) (W.alloc (.cells us.toArray e)) ∧
      All2 (RT S W) (flat (setElems (List.replicate len z) is es)) us ∧ Sized n (setElems (List.replicate len z) is es) ∧ (setElems (List.replicate len z) is es).length = len := by
  obtain ⟨zv, hzr, hza⟩ := zeroElem_run (P := P) (W := W) (S := S) hz
  have hrep := rep_cells (S := S) (W := W) hzl hza len
  obtain ⟨us', e1, e2, e3, e4⟩ := fill_rows is (List.replicate len z) es _ ws (sized_replicate ⟨hzl, zeroElem_one hz⟩) hes hl (by simpa using hlt) hrep ha
  refine ⟨us', ?_, e2, e3, by simpa using e4⟩
  simp only [Instr.buildSlice, Sem.run_bind, run_underlying ht, Result.andThen_ok, run_sizeOf hn]
  rw [if_neg (by omega)]
  simp only [Array.toArray_toList] at e1
  by_cases hc0 : len * n = 0
  · rw [if_pos hc0]
    simp only [hc0, range0, Array.map_empty] at e1
    simp only [Sem.run_pure, Result.andThen_ok, hc0, range0, Array.map_empty, e1, Sem.run_bind, run_newRow]
  · rw [if_neg hc0]
    simp only [Sem.run_bind, hzr, Sem.run_pure, Result.andThen_ok, e1, run_newRow]

theorem Eff.next {s : Sem Value} {v : V} (h : Eff P H μ S W s v H') : ∃ n q W' μ' S', (do pure (Next.value (← s)) : Sem Next).run P W = .ok n W' ∧ (n = .value q ∨ (n = .skip ∧ q = undef)) ∧ Rel H' μ' S' W' ∧ RV μ' S' H' W' v q ∧ Later H μ S W H' μ' S' W' := by
  obtain ⟨q, W', μ', S', h1, h2, h3, h4⟩ := h
  exact ⟨.value q, q, W', μ', S', by simp only [Sem.run_bind, h1, Result.andThen_ok, Sem.run_pure], .inl rfl, h2, h3, h4⟩

theorem EffU.next {s : Sem Unit} (h : EffU P H μ S W s H') : ∃ n q W' μ' S', (do s; pure Next.skip : Sem Next).run P W = .ok n W' ∧ (n = .value q ∨ (n = .skip ∧ q = undef)) ∧ Rel H' μ' S' W' ∧ RV μ' S' H' W' .undef q ∧ Later H μ S W H' μ' S' W' := by
  obtain ⟨W', μ', S', h1, h2, h4⟩ := h
  exact ⟨.skip, undef, W', μ', S', by simp only [Sem.run_bind, h1, Result.andThen_ok, Sem.run_pure], .inr ⟨rfl, rfl⟩, h2, .undef _, h4⟩

theorem sized_of_all {sz : Nat} {es : List T} (h : (es.all fun e => e.cells.length == sz && e.cells.all T.one) = true) : Sized sz es := by
  intro x hx
  have := List.all_eq_true.1 h x hx
  simp only [Bool.and_eq_true, beq_iff_eq] at this
  exact this

theorem sound_buildSlice (r : Rel H μ S W) {t e : TypeId} {n len : Nat} {z : T} (ht : P.underlying t = some (.slice e)) (hn : sizeT P e = some n) (hz : zeroElem P e = some z) (hzl : z.cells.length = n) (hsmall : len * n ≤ 2 ^ 24) {is : List Nat}
    {args : List V} {ws : List Value} (ha : All2 (RV μ S H W) args ws) {c : Prop} {v : V} {H' : Heap} (hk : keff H (.buildSlice n z len is) args = some (c, v, H')) (hc : c) :
    Eff P H μ S W (Instr.buildSlice t len (is.zip ws).toArray) v H' := by
  simp only [keff] at hk
  split at hk
  · rename_i es H1 hes
    cases hk
    obtain ⟨c1, c2, c3⟩ := hc
    obtain ⟨S1, r1, l1, ha1⟩ := toElems_sound r ha hes
    obtain ⟨us, e1, e2, e3, e4⟩ := run_buildSlice (P := P) ht hn hz hzl hsmall (sized_of_all c3) c1 (fun i hi => by simpa using List.all_eq_true.1 c2 i hi) ha1
    obtain ⟨S2, r2, v2, l2⟩ := new_lst r1 e3 e2.1.symm e2.2 e (alloc_below W _) (alloc_new W _)
    refine ⟨_, _, μ, S2, e1, r2, .t ?_, l1.trans l2⟩
    rw [e4] at v2; exact v2
  · cases hk

theorem sound_buildRow (r : Rel H μ S W) {t e : TypeId} {n len : Nat} {z : T} (ht : P.underlying t = some (.slice e)) (hn : sizeT P e = some n) (hz : zeroElem P e = some z) (hzl : z.cells.length = n) (hsmall : len * n ≤ 2 ^ 24) {is : List Nat}
    {args : List V} {ws : List Value} (ha : All2 (RV μ S H W) args ws) {c : Prop} {v : V} {H' : Heap} (hk : keff H (.buildRow n z len is) args = some (c, v, H')) (hc : c) :
    Eff P H μ S W (Instr.buildSlice t len (is.zip ws).toArray) v H' := by
  simp only [keff] at hk
  split at hk
  · rename_i es H1 hes
    cases hk
    obtain ⟨c1, c2, c3⟩ := hc
    obtain ⟨S1, r1, l1, ha1⟩ := toElems_sound r ha hes
    obtain ⟨us, e1, e2, e3, e4⟩ := run_buildSlice (P := P) ht hn hz hzl hsmall (sized_of_all c3) c1 (fun i hi => by simpa using List.all_eq_true.1 c2 i hi) ha1
    obtain ⟨μ2, r2, v2, l2⟩ := new_row r1 e3 (Nat.le_refl _) (by rw [← e2.1, flat_length e3]; exact Nat.le_refl _) e2.2 e (alloc_below W _) (alloc_new W _)
    refine ⟨_, _, μ2, S1, e1, r2, ?_, l1.trans l2⟩
    rw [e4] at v2; exact v2
  · cases hk

theorem sound_mark (r : Rel H μ S W) {s e : TypeId} (hs : P.underlying s = some (.slice e)) (he : P.underlying e = some (.int .u8)) {x : V} {u : Value} (hx : RV μ S H W x u) {c : Prop} {v : V} {H' : Heap} (hk : keff H .mark [x] = some (c, v, H')) (hc : c) :
    Eff P H μ S W (convert s s u) v H' := by
  obtain ⟨id, off, len, gen, sz, rfl⟩ : ∃ id off len gen sz, x = .sl id off len gen sz := by
    cases x with
    | sl id off len gen sz => exact ⟨id, off, len, gen, sz, rfl⟩
    | _ => simp [keff] at hk
  simp only [keff] at hk
  split at hk
  · rename_i s2 g xs hrow
    split at hk
    · rename_i hcond
      obtain ⟨rfl, rfl⟩ := hcond
      cases hk
      obtain ⟨hS, hsized, hcapr, hblk⟩ := r.objs id _ hrow
      cases hx with
      | sl a cap sz2 g2 xs2 hr2 hg2 hcap2 hn2 hh =>
        rw [hrow] at hr2
        simp only [rowOf, Option.some.injEq, Prod.mk.injEq] at hr2
        obtain ⟨rfl, rfl, rfl⟩ := hr2
        obtain ⟨_, hl, ha⟩ := hh rfl
        have hc0 : cap ≠ 0 := by omega
        obtain ⟨rfl, hcc⟩ := ha hc0
        have hcr : (μ id).cap ≠ 0 := by omega
        obtain ⟨us, ty, fz, hw, hfz, hul, hrt⟩ := hblk hcr
        have hshape : W.shape? (μ id).blk = some (ty, us.length) := by simp [World.shape?, hw]
        have hlv : (Obj.row s2 gen xs).live (μ id) = true := by simpa [Obj.live] using hcr
        let fz' : Nat × Nat := if fz.1 == fz.2 then (us.length, us.length + 1) else (min fz.1 us.length, max fz.2 (us.length + 1))
        let W' := W.freeze ⟨(μ id).blk, us.length, none⟩ 1
        have hidl : (μ id).blk < W.heap.size := (Array.getElem?_eq_some_iff.1 hw).1
        have hheap : W'.heap[(μ id).blk]? = some (.cells us.toArray ty fz') := by
          simp only [W', World.freeze]
          rw [if_neg (by omega)]
          simp only [Array.getElem?_modify, if_pos, hw, Option.map_some]
          obtain ⟨lo, hi⟩ := fz
          rfl
        have hother : ∀ b, b ≠ (μ id).blk → W'.heap[b]? = W.heap[b]? := by
          intro b hb
          simp only [W', World.freeze]
          rw [if_neg (by omega)]
          simp only [Array.getElem?_modify]
          rw [if_neg (fun h => hb h.symm)]
        have hws : W'.heap.size = W.heap.size := by
          simp only [W', World.freeze]; rw [if_neg (by omega)]; simp
        have hok : FzOk fz' us.length := by
          obtain ⟨h1, h2⟩ := hfz
          simp only [fz']
          split
          · exact ⟨by simp, fun i hi h => by simp at h; omega⟩
          · rename_i hne
            have hne' : fz.1 ≠ fz.2 := by simpa using hne
            have hlo : us.length ≤ fz.1 := by
              rcases Nat.lt_or_ge fz.1 us.length with h | h
              · exact absurd ⟨Nat.le_refl _, by omega⟩ (h2 fz.1 h)
              · exact h
            exact ⟨by simp; omega, fun i hi h => by simp at h; omega⟩
        have hoth : W'.os = W.os ∧ W'.tape = W.tape ∧ W'.output = W.output := by
          simp only [W', World.freeze]; rw [if_neg (by omega)]; exact ⟨rfl, rfl, rfl⟩
        have hset : H.set id (.row s2 gen xs) = H := by
          apply List.ext_getElem?
          intro j
          rw [List.getElem?_set]
          by_cases h : id = j
          · subst h; rw [if_pos rfl, hrow]; obtain ⟨h, _⟩ := List.getElem?_eq_some_iff.1 hrow; simp [h]
          · rw [if_neg h]
        obtain ⟨μ', he1, hne1, r', l'⟩ := change (W' := W') (S' := S) (o' := .row s2 gen xs) r hrow (μ id) hoth.1 hoth.2.1 hoth.2.2 (by omega) (fun b _ hb => hother b fun h => hb ⟨hlv, h⟩) (fun _ h => h) (fun _ h => .inl h)
          (fun b h => by rw [hws]; exact r.size b h) ⟨rfl, .inr ⟨rfl, rfl, rfl⟩⟩ (fun _ => .inr ⟨hlv, rfl⟩)
          (fun μ' e1 e2 L => ⟨hS, hsized, hcapr, fun _ => ⟨us, ty, fz', hheap, hok, hul, fun i c w hi hw' => (hrt i c w hi hw').later L r⟩⟩)
        rw [hset] at r' l'
        refine ⟨.slice (some ⟨(μ id).blk, (μ id).off + off * s2, none⟩) len cap, W', μ', S, ?_, r', .sl _ cap s2 gen xs (by rw [hrow]; rfl) (Nat.le_refl _) hcap2 (fun e => by cases e) fun _ => ⟨rfl, hl, fun _ => ⟨by rw [he1], by rw [he1]; exact hcc⟩⟩, l'⟩
        simp only [convert, Sem.run_bind, run_underlying hs, run_underlying he, Result.andThen_ok, beq_self_eq_true, markStringish, run_shape, hshape, run_freeze, Sem.run_pure]
        rfl
    · cases hk
  · cases hk

/-- An operation that is no call, and writes or makes memory. -/
theorem op_eff (r : Rel H μ S W) {wr : Bool} {o : Oper} {k : K} {xs : List Operand} (hc : cOp P wr o.op = some (k, xs)) {ρ : Operand → Value} {args : List V} (ha : All2 (RV μ S H W) args (xs.map ρ))
    {c : Prop} {v : V} {H' : Heap} (hk : keff H k args = some (c, v, H')) (hcond : c) :
    ∃ n q W' μ' S', (execOp ρ o).run P W = .ok n W' ∧ (n = .value q ∨ (n = .skip ∧ q = undef)) ∧ Rel H' μ' S' W' ∧ RV μ' S' H' W' v q ∧ Later H μ S W H' μ' S' W' := by
  unfold execOp
  cases hop : o.op with
  | alloc e =>
    rw [hop] at hc; simp only [cOp] at hc
    split at hc <;> cases hc
    rename_i z hz
    obtain rfl := All2.nil_inv ha
    simp only [keff, Option.some.injEq, Prod.mk.injEq] at hk
    obtain ⟨rfl, rfl, rfl⟩ := hk
    exact Eff.next (sound_alloc r hz)
  | box e x =>
    rw [hop] at hc; simp only [cOp, Option.some.injEq, Prod.mk.injEq] at hc; obtain ⟨rfl, rfl⟩ := hc
    obtain ⟨w, rfl, hw⟩ := one_arg ha
    simp only [keff, Option.some.injEq, Prod.mk.injEq] at hk
    obtain ⟨rfl, rfl, rfl⟩ := hk
    exact Eff.next (sound_box r hw hcond.1)
  | store t a x =>
    rw [hop] at hc; simp only [cOp] at hc
    split at hc <;> try (cases hc; done)
    rename_i n hn
    split at hc <;> try (cases hc; done)
    rename_i hn0
    cases hc
    obtain ⟨a', b', rfl, h1, h2⟩ := two_args ha
    obtain ⟨rfl, h⟩ := sound_store r hn hn0 h1 h2 hk hcond
    exact EffU.next h
  | buildSlice t len ps =>
    rw [hop] at hc; simp only [cOp] at hc
    have hps : ps.map (fun (p : Nat × Operand) => (p.1, ρ p.2)) = ((ps.toList.map (·.1)).zip ((ps.toList.map (·.2)).map ρ)).toArray := by
      rw [← run_mapM_places]; apply Array.ext'; simp
    split at hc <;> try (cases hc; done)
    rename_i e ht
    split at hc <;> try (cases hc; done)
    rename_i n z hn hz
    split at hc <;> try (cases hc; done)
    rename_i hcc
    cases hc
    dsimp only
    rw [hps]
    cases wr with
    | false => exact Eff.next (sound_buildSlice r ht hn hz hcc.2.2 hcc.2.1 ha hk hcond)
    | true => exact Eff.next (sound_buildRow r ht hn hz hcc.2.2 hcc.2.1 ha hk hcond)
  | makeSlice t l cp =>
    rw [hop] at hc; simp only [cOp] at hc
    split at hc <;> try (cases hc; done)
    rename_i e ht
    split at hc <;> try (cases hc; done)
    rename_i n b z hn hb hz
    split at hc <;> try (cases hc; done)
    rename_i hcc
    cases hc
    obtain ⟨x, y, rfl, h1, h2⟩ := two_args ha
    obtain ⟨k1, n1, k2, n2, rfl, rfl⟩ : ∃ k1 n1 k2 n2, x = .t (.int k1 n1) ∧ y = .t (.int k2 n2) := by
      cases x with
      | t x => cases x with
        | int k1 n1 => cases y with
          | t y => cases y with
            | int k2 n2 => exact ⟨k1, n1, k2, n2, rfl, rfl⟩
            | _ => simp [keff] at hk
          | _ => simp [keff] at hk
        | _ => simp [keff] at hk
      | _ => simp [keff] at hk
    simp only [keff, Option.some.injEq, Prod.mk.injEq] at hk
    obtain ⟨rfl, rfl, rfl⟩ := hk
    obtain ⟨c1, c2, c3, c4⟩ := hcond
    have e1 := h1.int_inv
    have e2 := h2.int_inv
    dsimp only
    rw [e1, e2]
    exact Eff.next (sound_makeSlice r ht hn hb hz hcc.2 hcc.1 c1 c2 c3 c4)
  | convert s d x =>
    rw [hop] at hc; simp only [cOp] at hc
    split at hc <;> try (cases hc; done)
    · cases hc; simp [keff] at hk
    · cases hc; simp [keff] at hk
    · split at hc <;> try (cases hc; done)
      cases hc; simp [keff] at hk
    · rename_i e0 e h1 h2
      split at hc <;> try (cases hc; done)
      rename_i he
      split at hc <;> try (cases hc; done)
      rename_i hsd
      cases hc
      subst hsd
      obtain ⟨w, rfl, hw⟩ := one_arg ha
      exact Eff.next (sound_mark r h2 he hw hk hcond)
  | move x => rw [hop] at hc; cases hc; obtain ⟨w, rfl, hw⟩ := one_arg ha; simp [keff] at hk
  | assign x => rw [hop] at hc; cases hc; obtain ⟨w, rfl, hw⟩ := one_arg ha; simp [keff] at hk
  | pick x y z => rw [hop] at hc; cases hc; simp [keff] at hk
  | unOp op t x => rw [hop] at hc; cases hc; simp [keff] at hk
  | nilCheck x => rw [hop] at hc; cases hc; simp [keff] at hk
  | extract x i => rw [hop] at hc; cases hc; simp [keff] at hk
  | load t a =>
    rw [hop] at hc; simp only [cOp] at hc
    split at hc <;> try (cases hc; done)
    all_goals (cases hc; simp [keff] at hk)
  | binOp op t x y yt =>
    rw [hop] at hc; simp only [cOp] at hc
    split at hc <;> try (cases hc; done)
    all_goals (cases hc; simp [keff] at hk)
  | build t ps =>
    rw [hop] at hc; simp only [cOp] at hc
    split at hc <;> try (cases hc; done)
    · split at hc <;> try (cases hc; done)
      split at hc <;> try (cases hc; done)
      cases hc; simp [keff] at hk
    · split at hc <;> try (cases hc; done)
      cases hc; simp [keff] at hk
  | fieldAddr t x i =>
    rw [hop] at hc; simp only [cOp] at hc
    split at hc <;> try (cases hc; done)
    split at hc <;> try (cases hc; done)
    split at hc <;> try (cases hc; done)
    cases hc; simp [keff] at hk
  | field t x i =>
    rw [hop] at hc; simp only [cOp] at hc
    split at hc <;> try (cases hc; done)
    split at hc <;> try (cases hc; done)
    split at hc <;> try (cases hc; done)
    all_goals (cases hc; simp [keff] at hk)
  | indexAddr t x i =>
    rw [hop] at hc; simp only [cOp] at hc
    split at hc <;> try (cases hc; done)
    · split at hc <;> try (cases hc; done)
      split at hc <;> try (cases hc; done)
      cases hc; simp [keff] at hk
    · split at hc <;> try (cases hc; done)
      cases hc; simp [keff] at hk
  | index t x i =>
    rw [hop] at hc; simp only [cOp] at hc
    split at hc <;> try (cases hc; done)
    cases hc; simp [keff] at hk
  | makeFunc fn first cap =>
    rw [hop] at hc
    cases fn with
    | func f =>
      simp only [cOp] at hc
      split at hc <;> try (cases hc; done)
      cases hc; simp [keff] at hk
    | _ => simp only [cOp, reduceCtorEq] at hc
  | slice t x lo hi mx =>
    rw [hop] at hc
    cases mx with
    | some m => simp only [cOp, reduceCtorEq] at hc
    | none =>
      simp only [cOp] at hc
      split at hc <;> try (cases hc; done)
      · split at hc <;> try (cases hc; done)
        cases hc; simp [keff] at hk
      · cases hc; simp [keff] at hk
      · split at hc <;> try (cases hc; done)
        cases hc; simp [keff] at hk
  | _ => rw [hop] at hc; simp only [cOp, reduceCtorEq] at hc
end
end Go.Abs
