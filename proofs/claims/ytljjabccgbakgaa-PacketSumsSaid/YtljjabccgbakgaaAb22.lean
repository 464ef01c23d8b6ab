/- From what is handed to a law to data: every type made of numbers, texts, slices, structs and arrays. By the session itself. -/
import Derived.Test.YtljjabccgbakgaaAb20
import Derived.OpenShut
import Derived.DataElems
import Derived.ChangeArms
import Derived.ChangeSlices
namespace Go.Abs
open Go Go.RowKit
set_option linter.unusedSimpArgs false
set_option linter.unusedVariables false

/-- The shape of one cell. -/
inductive Sh where
  | int (k : IntKind) | bool | str
  | lst (many : Bool) (es : List Sh)

/-- Data of a shape. -/
inductive Fits : Sh → T → Prop
  | int {k : IntKind} {n : Int} (h : (Lit.int k n).wf = true) : Fits (.int k) (.int k n)
  | bool (b : Bool) : Fits .bool (.bool b)
  | str {s : ByteArray} (h : s.size ≤ maxLen) : Fits .str (.str s)
  | lst {e : Sh} {xs : List T} (hl : xs.length ≤ maxLen) (h : ∀ x ∈ xs, Fits e x) : Fits (.lst false [e]) (.lst 1 false xs)
  | rows {es : List Sh} {css : List (List T)} (hl : css.length ≤ maxLen) (hn : ∀ cs ∈ css, cs.length = es.length) (h : ∀ cs ∈ css, ∀ (i : Nat) s c, es[i]? = some s → cs[i]? = some c → Fits s c) : Fits (.lst true es) (.lst es.length false (css.map T.agg))

theorem Fits.one {s : Sh} {c : T} (h : Fits s c) : c.one = true := by cases h <;> rfl

def manyOf (P : Program) (t : TypeId) : Bool := match P.underlying t with
  | some (.struct _) => true
  | some (.array _ _) => true
  | _ => false

def shFields (P : Program) (f : TypeId → Option (List Sh)) : List Field → Nat → Option (List Sh)
  | [], _ => some []
  | fd :: r, off => if fd.offset = off then match f fd.type with
    | some ss => if ss.length = P.cellsOf fd.type then match shFields P f r (off + ss.length) with
      | some rs => some (ss ++ rs)
      | none => none
      else none
    | none => none
    else none

/-- The shape of a type, cell by cell. -/
def shOf (P : Program) : Nat → TypeId → Option (List Sh)
  | 0, _ => none
  | n + 1, t => match P.underlying t with
    | some .bool => some [.bool]
    | some (.int k) => some [.int k]
    | some .string => some [.str]
    | some (.slice e) => match shOf P n e with
      | some es => if es.length = P.cellsOf e ∧ (manyOf P e = true ∨ es.length = 1) then some [.lst (manyOf P e) es] else none
      | none => none
    | some (.struct fs) => match shFields P (shOf P n) fs.toList 0 with
      | some ss => if ss.length = P.cellsOf t then some ss else none
      | none => none
    | some (.array m e) => match shOf P n e with
      | some es => if es.length = P.cellsOf e ∧ m * es.length = P.cellsOf t then some ((List.replicate m es).flatten) else none
      | none => none
    | _ => none

/-- Cells of shapes, in a world. -/
def Cells (W : World) (ss : List Sh) (ts : List T) (cs : List Value) : Prop :=
  ts.length = ss.length ∧ cs.length = ss.length ∧ (∀ (i : Nat) s c, ss[i]? = some s → ts[i]? = some c → Fits s c) ∧ ∀ (i : Nat) c u, ts[i]? = some c → cs[i]? = some u → RT (fun b => b < W.heap.size) W c u

theorem Cells.nil (W : World) : Cells W [] [] [] := ⟨rfl, rfl, fun i s c h => by simp at h, fun i c u h => by simp at h⟩

theorem Cells.one {W : World} {s : Sh} {c : T} {u : Value} (h : Fits s c) (k : RT (fun b => b < W.heap.size) W c u) : Cells W [s] [c] [u] := by
  refine ⟨rfl, rfl, fun i s' c' h1 h2 => ?_, fun i c' u' h1 h2 => ?_⟩
  · cases i with
    | zero => simp at h1 h2; subst h1 h2; exact h
    | succ i => simp at h1
  · cases i with
    | zero => simp at h1 h2; subst h1 h2; exact k
    | succ i => simp at h1

theorem Cells.append {W : World} {ss rs : List Sh} {ts tr : List T} {cs cr : List Value} (h : Cells W ss ts cs) (k : Cells W rs tr cr) : Cells W (ss ++ rs) (ts ++ tr) (cs ++ cr) := by
  obtain ⟨h1, h2, h3, h4⟩ := h
  obtain ⟨k1, k2, k3, k4⟩ := k
  refine ⟨by simp [h1, k1], by simp [h2, k2], fun i s c hs hc => ?_, fun i c u hc hu => ?_⟩
  · rw [List.getElem?_append] at hs hc
    by_cases hi : i < ss.length
    · rw [if_pos hi] at hs; rw [if_pos (by omega)] at hc; exact h3 i s c hs hc
    · rw [if_neg hi] at hs; rw [if_neg (by omega), h1] at hc; exact k3 _ s c hs hc
  · rw [List.getElem?_append] at hc hu
    by_cases hi : i < ss.length
    · rw [if_pos (by omega)] at hc hu; exact h4 i c u hc hu
    · rw [if_neg (by omega), h1] at hc; rw [if_neg (by omega), h2] at hu; exact k4 _ c u hc hu

theorem Cells.ones {W : World} {ss : List Sh} {ts : List T} {cs : List Value} (h : Cells W ss ts cs) : ts.all T.one = true := by
  rw [List.all_eq_true]
  intro c hc
  obtain ⟨i, hi, rfl⟩ := List.mem_iff_getElem.1 hc
  have hs : i < ss.length := by have := h.1; omega
  exact (h.2.2.1 i _ _ (List.getElem?_eq_getElem hs) (List.getElem?_eq_getElem hi)).one

theorem chunk {α : Type} {sz : Nat} {g : Nat → List α} : ∀ {len : Nat}, (∀ i, i < len → (g i).length = sz) → ((List.range len).flatMap g).length = len * sz ∧ ∀ (k : Nat) u, ((List.range len).flatMap g)[k]? = some u → ∃ i j, i < len ∧ j < sz ∧ k = i * sz + j ∧ (g i)[j]? = some u
  | 0, _ => ⟨by simp, fun k u h => by simp at h⟩
  | len + 1, hg => by
    obtain ⟨h1, h2⟩ := chunk (len := len) fun i hi => hg i (by omega)
    have hl := hg len (by omega)
    refine ⟨by rw [List.range_succ, List.flatMap_append, List.length_append, h1]; simp [hl, Nat.succ_mul], fun k u h => ?_⟩
    rw [List.range_succ, List.flatMap_append, List.getElem?_append, h1] at h
    by_cases hk : k < len * sz
    · rw [if_pos hk] at h
      obtain ⟨i, j, a, b, c, d⟩ := h2 k u h
      exact ⟨i, j, by omega, b, c, d⟩
    · rw [if_neg hk] at h
      simp only [List.flatMap_cons, List.flatMap_nil, List.append_nil] at h
      have hj : k - len * sz < (g len).length := (List.getElem?_eq_some_iff.1 h).1
      exact ⟨len, k - len * sz, by omega, by omega, by omega, h⟩

theorem chunk_eq {sz i j i' j' : Nat} (hj : j < sz) (hj' : j' < sz) (h : i * sz + j = i' * sz + j') : i = i' ∧ j = j' := by
  have e1 : (i * sz + j) / sz = i := by rw [Nat.add_comm, Nat.add_mul_div_right _ _ (by omega), Nat.div_eq_of_lt hj, Nat.zero_add]
  have e2 : (i' * sz + j') / sz = i' := by rw [Nat.add_comm, Nat.add_mul_div_right _ _ (by omega), Nat.div_eq_of_lt hj', Nat.zero_add]
  have : i = i' := by rw [← e1, ← e2, h]
  subst this
  exact ⟨rfl, by omega⟩

theorem flatMap_same {α β : Type} {f g : α → List β} : ∀ l : List α, (∀ i ∈ l, f i = g i) → l.flatMap f = l.flatMap g
  | [], _ => rfl
  | x :: l, h => by rw [List.flatMap_cons, List.flatMap_cons, h x (by simp), flatMap_same l fun i hi => h i (by simp [hi])]

section
variable {H : Type} {enc : TypeId × Value → H} {P : Program} {W : World} {spare : Nat → Bool} {held : Bool}

/-- What a type's reading gives. -/
def Opens (enc : TypeId × Value → H) (P : Program) (W : World) (spare : Nat → Bool) (held : Bool) (t : TypeId) (ss : List Sh) : Prop :=
  ∀ (fuel : Nat) (cs : List Value) (x : DataW H × List MemPlace), DataW.trod enc P W 0 spare held fuel t cs = some x → ∃ ts, Cells W ss ts cs

theorem opens_fields {f : TypeId → Option (List Sh)} (hf : ∀ t ss, f t = some ss → Opens enc P W spare held t ss) {cs : List Value} : ∀ (fs : List Field) (off : Nat) (ss : List Sh), shFields P f fs off = some ss → off + ss.length = cs.length →
    (∀ fd ∈ fs, ∃ (fuel : Nat) (x : DataW H × List MemPlace), DataW.trod enc P W 0 spare held fuel fd.type ((cs.drop fd.offset).take (P.cellsOf fd.type)) = some x) → ∃ ts, Cells W ss ts (cs.drop off)
  | [], off, ss, h, hl, _ => by
    simp only [shFields, Option.some.injEq] at h
    subst h
    rw [List.drop_of_length_le (by simp at hl; omega)]
    exact ⟨[], Cells.nil W⟩
  | fd :: r, off, ss, h, hl, hr => by
    simp only [shFields] at h
    split at h
    · rename_i ho
      split at h
      · rename_i s1 h1
        split at h
        · rename_i hc
          split at h
          · rename_i rs h2
            simp only [Option.some.injEq] at h
            subst h
            obtain ⟨fuel, x, hx⟩ := hr fd (by simp)
            obtain ⟨t1, k1⟩ := hf fd.type s1 h1 fuel _ x hx
            rw [List.length_append] at hl
            obtain ⟨t2, k2⟩ := opens_fields hf r (off + s1.length) rs h2 (by omega) fun fd' h' => hr fd' (by simp [h'])
            have := k1.append k2
            rw [ho, ← hc, ← List.drop_drop, List.take_append_drop] at this
            exact ⟨_, this⟩
          · cases h
        · cases h
      · cases h
    · cases h

theorem opens_array {e : TypeId} {es : List Sh} (he : Opens enc P W spare held e es) {cs : List Value} : ∀ (m off : Nat), off + m * es.length = cs.length →
    (∀ i, i < m → ∃ (fuel : Nat) (x : DataW H × List MemPlace), DataW.trod enc P W 0 spare held fuel e ((cs.drop (off + i * es.length)).take es.length) = some x) → ∃ ts, Cells W (List.replicate m es).flatten ts (cs.drop off)
  | 0, off, hl, _ => by
    rw [List.drop_of_length_le (by omega)]
    exact ⟨[], Cells.nil W⟩
  | m + 1, off, hl, hr => by
    obtain ⟨fuel, x, hx⟩ := hr 0 (by omega)
    rw [Nat.zero_mul, Nat.add_zero] at hx
    obtain ⟨t1, k1⟩ := he fuel _ x hx
    obtain ⟨t2, k2⟩ := opens_array he (cs := cs) m (off + es.length) (by rw [Nat.succ_mul] at hl; omega) fun i hi => by
      obtain ⟨fuel, x, hx⟩ := hr (i + 1) (by omega)
      rw [Nat.succ_mul, Nat.add_comm (i * es.length), ← Nat.add_assoc] at hx
      exact ⟨fuel, x, hx⟩
    have := k1.append k2
    rw [← List.drop_drop, List.take_append_drop] at this
    exact ⟨_, by rw [List.replicate_succ, List.flatten_cons]; exact this⟩

theorem opens_slice {t e : TypeId} {es : List Sh} {many : Bool} (ht : P.underlying t = some (.slice e)) (he : Opens enc P W spare held e es) (hn : es.length = P.cellsOf e) (hm : many = true ∨ es.length = 1) : Opens enc P W spare held t [.lst many es] := by
  intro fuel cs x h
  rcases DataW.trod_slice ht h with ⟨rfl, _⟩ | ⟨a, len, cap, elems, rest, n, _, rfl, _, _, hl, hmx, hlen, hel, _, _⟩
  · have r : ∀ sz, RT (fun b => b < W.heap.size) W (.lst sz false []) (.slice none 0 0) := fun sz => RT.lst (sz := sz) (tight := false) (xs := []) none 0 [] (fun x hx => by cases hx) (Nat.le_refl _) (fun h => by cases h) (fun _ => ⟨rfl, rfl⟩) rfl (fun a' h => by cases h) (fun a' h => by cases h) (fun i c u hc => by simp [flat] at hc)
    cases many with
    | true => exact ⟨_, Cells.one (Fits.rows (es := es) (css := []) (by simp) (fun cs h => by cases h) (fun cs h => by cases h)) (r _)⟩
    | false =>
      have : ∃ s, es = [s] := by
        match es, hm.resolve_left (by simp) with
        | [s], _ => exact ⟨s, rfl⟩
      obtain ⟨s, rfl⟩ := this
      exact ⟨_, Cells.one (Fits.lst (e := s) (xs := []) (by simp) (fun x h => by cases h)) (r _)⟩
  · have each : ∀ i : Nat, ∃ p : List T × List Value, i < len → Cells W es p.1 p.2 ∧ ∀ (j : Nat) u, p.2[j]? = some u → W.cell? (a.add (i * es.length + j)) = some u := by
      intro i
      by_cases hi : i < len
      · have h1 := hel i hi
        rw [List.getElem?_eq_getElem (by omega), Option.bind_eq_some_iff] at h1
        obtain ⟨cs, hc, hy⟩ := h1
        obtain ⟨ts, k⟩ := he n cs _ hy
        refine ⟨(ts, cs), fun _ => ⟨k, fun j u hu => ?_⟩⟩
        obtain ⟨_, c2, c3⟩ := World.cells?_some hc
        have hj : j < cs.length := (List.getElem?_eq_some_iff.1 hu).1
        have := c3 j (by omega)
        rw [Addr.add_add, ← hn] at this
        rw [this]; exact hu
      · exact ⟨([], []), fun h => absurd h hi⟩
    obtain ⟨f, hf⟩ := Classical.axiomOfChoice each
    have cu := chunk (g := fun i => (f i).2) (sz := es.length) (len := len) fun i hi => (hf i hi).1.2.1
    have ct := chunk (g := fun i => (f i).1) (sz := es.length) (len := len) fun i hi => (hf i hi).1.1
    have key : ∀ xs : List T, Sized es.length xs → xs.length = len → flat xs = (List.range len).flatMap (fun i => (f i).1) → RT (fun b => b < W.heap.size) W (.lst es.length false xs) (.slice (some a) len cap) := by
      intro xs hsz hxl hfl
      rw [← hxl]
      refine RT.lst (some a) cap ((List.range len).flatMap fun i => (f i).2) hsz (by omega) (fun h => by cases h) (fun h => by cases h) (by rw [hfl, cu.1, ct.1]) ?_ ?_ ?_
      · intro a' ha' hpos
        cases ha'
        obtain ⟨i, j, hi, hj, h0, hu⟩ := cu.2 0 _ (List.getElem?_eq_getElem hpos)
        have := (hf i hi).2 j _ hu
        unfold World.cell? at this
        rw [Addr.add_block] at this
        rcases Nat.lt_or_ge a.block W.heap.size with h | h
        · exact h
        · rw [Array.getElem?_eq_none h] at this; simp at this
      · intro a' ha' k u hu
        cases ha'
        obtain ⟨i, j, hi, hj, rfl, hu'⟩ := cu.2 k u hu
        exact (hf i hi).2 j u hu'
      · intro k c u hc hu
        rw [hfl] at hc
        obtain ⟨i, j, hi, hj, hk, hu'⟩ := cu.2 k u hu
        obtain ⟨i', j', hi', hj', hk', hc'⟩ := ct.2 k c hc
        obtain ⟨rfl, rfl⟩ := chunk_eq hj hj' (hk.symm.trans hk')
        exact (hf i hi).1.2.2.2 j c u hc' hu'
    cases many with
    | true =>
      refine ⟨_, Cells.one (Fits.rows (es := es) (css := (List.range len).map fun i => (f i).1) (by simp; omega) ?_ ?_) (key _ ?_ (by simp) ?_)⟩
      · intro cs hcs
        obtain ⟨i, hi, rfl⟩ := List.mem_map.1 hcs
        exact (hf i (List.mem_range.1 hi)).1.1
      · intro cs hcs
        obtain ⟨i, hi, rfl⟩ := List.mem_map.1 hcs
        exact (hf i (List.mem_range.1 hi)).1.2.2.1
      · intro x hx
        obtain ⟨cs, hcs, rfl⟩ := List.mem_map.1 hx
        obtain ⟨i, hi, rfl⟩ := List.mem_map.1 hcs
        exact ⟨(hf i (List.mem_range.1 hi)).1.1, (hf i (List.mem_range.1 hi)).1.ones⟩
      · simp [flat, List.flatMap_map, T.cells]
    | false =>
      have : ∃ s, es = [s] := by
        match es, hm.resolve_left (by simp) with
        | [s], _ => exact ⟨s, rfl⟩
      obtain ⟨s, rfl⟩ := this
      have one : ∀ i, i < len → ∃ c, (f i).1 = [c] ∧ Fits s c := by
        intro i hi
        obtain ⟨⟨k1, k2, k3, k4⟩, _⟩ := hf i hi
        match hh : (f i).1, k1 with
        | [c], _ =>
          rw [hh] at k3
          exact ⟨c, rfl, k3 0 s c rfl rfl⟩
      have hcell : ∀ i, i < len → (T.at (f i).1 0).cells = (f i).1 := by
        intro i hi
        obtain ⟨c, e, hc⟩ := one i hi
        rw [e]
        have : c.one = true := hc.one
        cases c <;> first | rfl | simp [T.one] at this
      refine ⟨_, Cells.one (Fits.lst (e := s) (xs := (List.range len).map fun i => T.at (f i).1 0) (by simp; omega) ?_) (key _ ?_ (by simp) ?_)⟩
      · intro x hx
        obtain ⟨i, hi, rfl⟩ := List.mem_map.1 hx
        obtain ⟨c, e, hc⟩ := one i (List.mem_range.1 hi)
        rw [e]; exact hc
      · intro x hx
        obtain ⟨i, hi, rfl⟩ := List.mem_map.1 hx
        rw [hcell i (List.mem_range.1 hi)]
        exact ⟨(hf i (List.mem_range.1 hi)).1.1, (hf i (List.mem_range.1 hi)).1.ones⟩
      · rw [flat, List.flatMap_map]
        exact flatMap_same _ fun i hi => hcell i (List.mem_range.1 hi)

theorem open_sh : ∀ (n : Nat) (t : TypeId) (ss : List Sh), shOf P n t = some ss → Opens enc P W spare held t ss
  | 0, t, ss, h => by cases h
  | n + 1, t, ss, h => by
    simp only [shOf] at h
    split at h
    · rename_i ht
      cases h
      intro fuel cs x hx
      obtain ⟨b, rfl, _⟩ := DataW.trod_bool ht hx
      exact ⟨_, Cells.one (.bool b) (.bool b)⟩
    · rename_i k ht
      cases h
      intro fuel cs x hx
      obtain ⟨m, rfl, _, hw⟩ := DataW.trod_int ht hx
      exact ⟨_, Cells.one (.int hw) (.int k m)⟩
    · rename_i ht
      cases h
      intro fuel cs x hx
      obtain ⟨s, rfl, _, hw⟩ := DataW.trod_string ht hx
      exact ⟨_, Cells.one (.str hw) (.str s)⟩
    · rename_i e ht
      split at h
      · rename_i es he
        split at h
        · rename_i hc
          cases h
          exact opens_slice ht (open_sh n e es he) hc.1 hc.2
        · cases h
      · cases h
    · rename_i fs ht
      split at h
      · rename_i ss' hf
        split at h
        · rename_i hc
          cases h
          intro fuel cs x hx
          obtain ⟨xs, m, _, _, hl, hxl, hx'⟩ := DataW.trod_struct ht hx
          have := opens_fields (enc := enc) (W := W) (spare := spare) (held := held) (cs := cs) (fun t ss h => open_sh n t ss h) fs.toList 0 ss hf (by omega) fun fd hfd => by
            obtain ⟨i, hi⟩ := List.mem_iff_getElem?.1 hfd
            have hi' : fs[i]? = some fd := by rw [← Array.getElem?_toList]; exact hi
            have h1 := hx' i fd hi'
            have hlt : i < xs.length := by
              have := (List.getElem?_eq_some_iff.1 hi).1
              rw [Array.length_toList] at this
              omega
            rw [List.getElem?_eq_getElem hlt] at h1
            exact ⟨m, _, h1⟩
          simpa using this
        · cases h
      · cases h
    · rename_i m e ht
      split at h
      · rename_i es he
        split at h
        · rename_i hc
          cases h
          intro fuel cs x hx
          obtain ⟨xs, m', _, _, hl, hxl, hx'⟩ := DataW.trod_array ht hx
          have := opens_array (enc := enc) (W := W) (spare := spare) (held := held) (open_sh n e es he) (cs := cs) m 0 (by omega) fun i hi => by
            have h1 := hx' i hi
            rw [List.getElem?_eq_getElem (by omega), ← hc.1] at h1
            rw [Nat.zero_add]
            exact ⟨m', _, h1⟩
          simpa using this
        · cases h
      · cases h
    · cases h
end
end Go.Abs
