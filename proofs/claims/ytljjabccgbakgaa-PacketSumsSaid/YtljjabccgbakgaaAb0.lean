/- The abstract data: trees, values, heaps, and how they stand in a world of the model. By the session itself. -/
import Derived.WalkKit
namespace Go.Abs
open Go
set_option linter.unusedSimpArgs false
set_option linter.unusedVariables false

/-- Pure data: what can be read and never changes. -/
inductive T where
  | bool (b : Bool)
  | int (k : IntKind) (n : Int)
  | str (s : ByteArray)
  | lst (sz : Nat) (nl : Bool) (xs : List T)
  | agg (cs : List T)
  | nilp
  | nilf
  deriving Inhabited

def T.cells : T → List T
  | .agg cs => cs
  | x => [x]

def flat (xs : List T) : List T := xs.flatMap T.cells

theorem flat_nil : flat [] = [] := rfl
theorem flat_cons (x : T) (xs : List T) : flat (x :: xs) = x.cells ++ flat xs := rfl
theorem flat_append (xs ys : List T) : flat (xs ++ ys) = flat xs ++ flat ys := by simp [flat]

def T.one : T → Bool
  | .agg _ => false
  | _ => true

/-- Every element has so many cells, and each cell is one value. -/
def Sized (sz : Nat) (xs : List T) : Prop := ∀ x ∈ xs, x.cells.length = sz ∧ x.cells.all T.one = true

theorem Sized.one {sz : Nat} {xs : List T} (h : Sized sz xs) : (flat xs).all T.one = true := by
  simp only [flat, List.all_flatMap, List.all_eq_true]
  intro x hx; exact List.all_eq_true.1 (h x hx).2

theorem Sized.nil (sz : Nat) : Sized sz [] := by intro x h; cases h
theorem Sized.append {sz : Nat} {xs ys : List T} (h : Sized sz xs) (k : Sized sz ys) : Sized sz (xs ++ ys) := by
  intro x hx; rcases List.mem_append.1 hx with h1 | h1
  · exact h x h1
  · exact k x h1
theorem Sized.take {sz : Nat} {xs : List T} (h : Sized sz xs) (n : Nat) : Sized sz (xs.take n) := fun x hx => h x (List.mem_of_mem_take hx)
theorem Sized.drop {sz : Nat} {xs : List T} (h : Sized sz xs) (n : Nat) : Sized sz (xs.drop n) := fun x hx => h x (List.mem_of_mem_drop hx)

theorem flat_length {sz : Nat} : ∀ {xs : List T}, Sized sz xs → (flat xs).length = xs.length * sz
  | [], _ => by simp [flat]
  | x :: xs, h => by
    rw [flat_cons, List.length_append, (h x (List.mem_cons_self ..)).1, flat_length (fun y hy => h y (List.mem_cons_of_mem _ hy)), List.length_cons, Nat.succ_mul, Nat.add_comm]

theorem flat_drop {sz : Nat} : ∀ {xs : List T} (n : Nat), Sized sz xs → flat (xs.drop n) = (flat xs).drop (n * sz)
  | [], n, _ => by simp [flat]
  | x :: xs, 0, _ => by simp
  | x :: xs, n + 1, h => by
    have hx := (h x (List.mem_cons_self ..)).1
    rw [List.drop_succ_cons, flat_drop n (fun y hy => h y (List.mem_cons_of_mem _ hy)), flat_cons, Nat.succ_mul, List.drop_append]
    rw [List.drop_of_length_le (l := x.cells) (by omega), List.nil_append, hx]
    congr 1; omega

theorem flat_take {sz : Nat} : ∀ {xs : List T} (n : Nat), Sized sz xs → flat (xs.take n) = (flat xs).take (n * sz)
  | [], n, _ => by simp [flat]
  | x :: xs, 0, _ => by simp [flat]
  | x :: xs, n + 1, h => by
    have hx := (h x (List.mem_cons_self ..)).1
    rw [List.take_succ_cons, flat_cons, flat_take n (fun y hy => h y (List.mem_cons_of_mem _ hy)), flat_cons, Nat.succ_mul, List.take_append]
    rw [List.take_of_length_le (l := x.cells) (by omega), hx]
    congr 2; omega

theorem flat_get {sz : Nat} {xs : List T} (h : Sized sz xs) {i : Nat} {x : T} (hx : xs[i]? = some x) {j : Nat} (hj : j < sz) :
    (flat xs)[i * sz + j]? = x.cells[j]? := by
  have hi : i < xs.length := by
    rcases Nat.lt_or_ge i xs.length with h1 | h1
    · exact h1
    · rw [List.getElem?_eq_none h1] at hx; cases hx
  have hd : xs.drop i = x :: xs.drop (i + 1) := by
    rw [List.drop_eq_getElem_cons hi]
    rw [List.getElem?_eq_getElem hi] at hx
    rw [Option.some.inj hx]
  have e := flat_drop i h
  rw [hd, flat_cons] at e
  have : (flat xs)[i * sz + j]? = ((flat xs).drop (i * sz))[j]? := by rw [List.getElem?_drop]
  rw [this, ← e, List.getElem?_append_left]
  rw [(h x (by have := List.mem_of_getElem? hx; exact this)).1]; exact hj

/-- How pure data stands in a world; S: the blocks that never change. -/
inductive RT (S : Nat → Prop) (W : World) : T → Value → Prop where
  | bool (b : Bool) : RT S W (.bool b) (.bool b)
  | int (k : IntKind) (n : Int) : RT S W (.int k n) (.int k n)
  | str (s : ByteArray) : RT S W (.str s) (.string s)
  | nilp : RT S W .nilp (.pointer none)
  | nilf : RT S W .nilf .nilFunc
  | lst {sz : Nat} {tight : Bool} {xs : List T} (a : Option Addr) (cap : Nat) (us : List Value) (hsz : Sized sz xs) (hcap : xs.length ≤ cap) (ht : tight = true → cap = xs.length)
      (hn : a = none → xs = [] ∧ cap = 0) (hl : us.length = (flat xs).length)
      (hS : ∀ a', a = some a' → 0 < us.length → S a'.block) (hc : ∀ a', a = some a' → ∀ (i : Nat) u, us[i]? = some u → W.cell? (a'.add i) = some u)
      (hr : ∀ (i : Nat) c u, (flat xs)[i]? = some c → us[i]? = some u → RT S W c u) : RT S W (.lst sz tight xs) (.slice a xs.length cap)
  | agg {cs : List T} (us : List Value) (hl : us.length = cs.length) (h : ∀ (i : Nat) c u, cs[i]? = some c → us[i]? = some u → RT S W c u) : RT S W (.agg cs) (.agg us.toArray)

theorem cell_keep {W W' : World} {a : Addr} (h : W'.heap[a.block]? = W.heap[a.block]?) : W'.cell? a = W.cell? a := World.cell?_of_block (w := W) h

theorem Addr.add_block (a : Addr) (i : Nat) : (a.add i).block = a.block := by unfold Addr.add; split <;> rfl

theorem RT.mono {S S' : Nat → Prop} {W W' : World} (hS : ∀ b, S b → S' b) (hW : ∀ b, S b → W'.heap[b]? = W.heap[b]?) {x : T} {v : Value} (h : RT S W x v) : RT S' W' x v := by
  induction h with
  | bool b => exact .bool b
  | int k n => exact .int k n
  | str s => exact .str s
  | nilp => exact .nilp
  | nilf => exact .nilf
  | lst a cap us hsz hcap ht hn hl hSa hc hr ih =>
    refine .lst a cap us hsz hcap ht hn hl (fun a' e h => hS _ (hSa a' e h)) (fun a' ea i u hu => ?_) ih
    have hi : i < us.length := by obtain ⟨h, _⟩ := List.getElem?_eq_some_iff.1 hu; exact h
    have e : W'.heap[(a'.add i).block]? = W.heap[(a'.add i).block]? := by rw [Addr.add_block]; exact hW _ (hSa a' ea (by omega))
    exact (cell_keep e).trans (hc a' ea i u hu)
  | agg us hl h ih => exact .agg us hl ih

theorem RT.scalar {S : Nat → Prop} {W : World} {x : T} {v : Value} (h : RT S W x v) (hx : ∀ cs, x ≠ .agg cs) : v.cells = #[v] := by
  cases h <;> first | rfl | (rename_i cs _ _ _; exact absurd rfl (hx cs)) 

/-- A value of the machine, as the abstract machine sees it. -/
inductive V where
  | t (x : T)
  | agg (cs : List V)
  | sl (id off len gen sz : Nat)
  | bsl (id off len : Nat)
  | ref (id off : Nat)
  | elt (id i off gen : Nat)
  | ip (cs : List T)
  | fn (f : FuncId) (caps : List V)
  | tup (vs : List V)
  | mp (id : Nat)
  | undef
  deriving Inhabited

abbrev V.int (k : IntKind) (n : Int) : V := .t (.int k n)
abbrev V.bool (b : Bool) : V := .t (.bool b)
abbrev V.str (s : ByteArray) : V := .t (.str s)

/-- An entry of a map. -/
structure Ent where
  key : T
  val : T
  deriving Inhabited

/-- An object of the abstract heap. -/
inductive Obj where
  | box (cs : List V)
  | row (sz gen : Nat) (xs : List T)
  | frz (sz gen : Nat) (xs : List T)
  | map (es : List Ent)
  deriving Inhabited

abbrev Heap := List Obj

/-- Where an object lies. -/
structure Loc where
  blk : Nat
  off : Nat
  cap : Nat

def rowOf : Option Obj → Option (Nat × Nat × List T)
  | some (.row sz g xs) => some (sz, g, xs)
  | some (.frz sz g xs) => some (sz, g, xs)
  | _ => none

def Obj.live (l : Loc) : Obj → Bool
  | .box _ => true
  | .row .. => l.cap != 0
  | .frz .. => false
  | .map _ => true

/-- An object that alone holds its block: a row without capacity has none. -/
def Live (H : Heap) (μ : Nat → Loc) (id : Nat) : Prop := ∃ o, H[id]? = some o ∧ o.live (μ id) = true

/-- How a value stands in a world. -/
inductive RV (μ : Nat → Loc) (S : Nat → Prop) (H : Heap) (W : World) : V → Value → Prop where
  | undef (v : Value) : RV μ S H W .undef v
  | t {x : T} {v : Value} (h : RT S W x v) : RV μ S H W (.t x) v
  | agg {cs : List V} (us : List Value) (hl : us.length = cs.length) (h : ∀ (i : Nat) c u, cs[i]? = some c → us[i]? = some u → RV μ S H W c u) : RV μ S H W (.agg cs) (.agg us.toArray)
  | tup {cs : List V} (us : List Value) (hl : us.length = cs.length) (h : ∀ (i : Nat) c u, cs[i]? = some c → us[i]? = some u → RV μ S H W c u) : RV μ S H W (.tup cs) (.tuple us.toArray)
  | fn {f : FuncId} {cs : List V} (us : List Value) (hl : us.length = cs.length) (h : ∀ (i : Nat) c u, cs[i]? = some c → us[i]? = some u → RV μ S H W c u) : RV μ S H W (.fn f cs) (.func (.func f) #[] us.toArray)
  | sl {id off len gen sz : Nat} (a : Option Addr) (cap : Nat) (sz' g : Nat) (xs : List T) (hr : rowOf H[id]? = some (sz', g, xs)) (hg : gen ≤ g) (hcap : len ≤ cap) (hn : a = none → cap = 0)
      (h : gen = g → sz' = sz ∧ off + len ≤ xs.length ∧ (cap ≠ 0 → a = some ⟨(μ id).blk, (μ id).off + off * sz, none⟩ ∧ off + cap ≤ (μ id).cap)) :
      RV μ S H W (.sl id off len gen sz) (.slice a len cap)
  | bsl {id off len : Nat} (a : Addr) (cap : Nat) (cs : List V) (hb : H[id]? = some (.box cs)) (hcap : len ≤ cap) (hl : off + cap ≤ cs.length) (ha : cap ≠ 0 → a = ⟨(μ id).blk, off, none⟩) :
      RV μ S H W (.bsl id off len) (.slice (some a) len cap)
  | ref {id off : Nat} (cs : List V) (hb : H[id]? = some (.box cs)) : RV μ S H W (.ref id off) (.pointer (some ⟨(μ id).blk, off, none⟩))
  | elt {id i off gen : Nat} (a : Addr) (sz g : Nat) (xs : List T) (hr : rowOf H[id]? = some (sz, g, xs)) (hg : gen ≤ g)
      (h : gen = g → i < xs.length ∧ a = ⟨(μ id).blk, (μ id).off + i * sz + off, none⟩) : RV μ S H W (.elt id i off gen) (.pointer (some a))
  | ip {cs : List T} (a : Addr) (us : List Value) (hl : us.length = cs.length) (hsp : a.spot = none) (hS : 0 < us.length → S a.block) (hc : ∀ (i : Nat) u, us[i]? = some u → W.cell? (a.add i) = some u)
      (hr : ∀ (i : Nat) c u, cs[i]? = some c → us[i]? = some u → RT S W c u) : RV μ S H W (.ip cs) (.pointer (some a))
  | mp {id : Nat} (es : List Ent) (hb : H[id]? = some (.map es)) : RV μ S H W (.mp id) (.map (some (μ id).blk))

/-- No cell below n is frozen. -/
def FzOk (fz : Nat × Nat) (n : Nat) : Prop := fz.1 ≤ fz.2 ∧ ∀ i, i < n → ¬ (fz.1 ≤ i ∧ i < fz.2)

/-- The cells of a row of a block. -/
def RowAt (S : Nat → Prop) (W : World) (l : Loc) (sz : Nat) (xs : List T) : Prop :=
  Sized sz xs ∧ xs.length ≤ l.cap ∧ (l.cap ≠ 0 → ∃ us : List Value, ∃ ty fz, W.heap[l.blk]? = some (.cells us.toArray ty fz) ∧ FzOk fz us.length ∧
    l.off + l.cap * sz ≤ us.length ∧ ∀ (i : Nat) c u, (flat xs)[i]? = some c → us[l.off + i]? = some u → RT S W c u)

def BoxAt (μ : Nat → Loc) (S : Nat → Prop) (H : Heap) (W : World) (l : Loc) (cs : List V) : Prop :=
  ∃ us : List Value, ∃ ty, W.heap[l.blk]? = some (.cells us.toArray ty (0, 0)) ∧ us.length = cs.length ∧ ∀ (i : Nat) c u, cs[i]? = some c → us[i]? = some u → RV μ S H W c u

def MapAt (S : Nat → Prop) (W : World) (l : Loc) (es : List Ent) : Prop :=
  ∃ (ms : List MapEntry) (clock : Nat), W.heap[l.blk]? = some (.map ms.toArray clock) ∧ ms.length = es.length ∧ (∀ (i : Nat) e m, es[i]? = some e → ms[i]? = some m → RT S W e.key m.key ∧ RT S W e.val m.val)

def ObjOk (μ : Nat → Loc) (S : Nat → Prop) (H : Heap) (W : World) (l : Loc) : Obj → Prop
  | .box cs => ¬ S l.blk ∧ BoxAt μ S H W l cs
  | .row sz _ xs => (l.cap ≠ 0 → ¬ S l.blk) ∧ RowAt S W l sz xs
  | .frz sz _ xs => (l.cap ≠ 0 → S l.blk) ∧ RowAt S W l sz xs
  | .map es => ¬ S l.blk ∧ MapAt S W l es

structure Rel (H : Heap) (μ : Nat → Loc) (S : Nat → Prop) (W : World) : Prop where
  objs : ∀ (id : Nat) (o : Obj), H[id]? = some o → ObjOk μ S H W (μ id) o
  inj : ∀ i j, Live H μ i → Live H μ j → (μ i).blk = (μ j).blk → i = j
  size : ∀ b, S b → b < W.heap.size

theorem RowAt.lt {S : Nat → Prop} {W : World} {l : Loc} {sz : Nat} {xs : List T} (h : RowAt S W l sz xs) (hc : l.cap ≠ 0) : l.blk < W.heap.size := by
  obtain ⟨_, _, h⟩ := h
  obtain ⟨us, ty, fz, h, _⟩ := h hc
  exact (Array.getElem?_eq_some_iff.1 h).1

/-- How an object may turn into another one. -/
def Obj.to : Obj → Obj → Loc → Loc → Prop
  | .box cs, .box cs', l, l' => cs'.length = cs.length ∧ l' = l
  | .row sz g xs, .row sz' g' xs', l, l' => sz' = sz ∧ (g < g' ∨ (g = g' ∧ xs'.length = xs.length ∧ l' = l))
  | .row sz g xs, .frz sz' g' xs', l, l' => sz' = sz ∧ (g < g' ∨ (g = g' ∧ xs'.length = xs.length ∧ l' = l))
  | .frz sz g xs, .frz sz' g' xs', l, l' => sz' = sz ∧ g' = g ∧ xs' = xs ∧ l' = l
  | .map _, .map _, l, l' => l' = l
  | _, _, _, _ => False

theorem Obj.to_refl (o : Obj) (l : Loc) : o.to o l l := by cases o <;> simp [Obj.to]

theorem Obj.to_trans {a b c : Obj} {l m n : Loc} (h : a.to b l m) (k : b.to c m n) : a.to c l n := by
  cases a <;> cases b <;> simp only [Obj.to] at h <;> cases c <;> simp only [Obj.to] at k <;> simp only [Obj.to]
  · exact ⟨k.1.trans h.1, k.2.trans h.2⟩
  · obtain ⟨rfl, h⟩ := h; obtain ⟨rfl, k⟩ := k
    refine ⟨rfl, ?_⟩
    rcases h with h | ⟨rfl, h1, rfl⟩ <;> rcases k with k | ⟨rfl, k1, rfl⟩
    · exact .inl (by omega)
    · exact .inl h
    · exact .inl k
    · exact .inr ⟨rfl, by omega, rfl⟩
  · obtain ⟨rfl, h⟩ := h; obtain ⟨rfl, k⟩ := k
    refine ⟨rfl, ?_⟩
    rcases h with h | ⟨rfl, h1, rfl⟩ <;> rcases k with k | ⟨rfl, k1, rfl⟩
    · exact .inl (by omega)
    · exact .inl h
    · exact .inl k
    · exact .inr ⟨rfl, by omega, rfl⟩
  · obtain ⟨rfl, h⟩ := h; obtain ⟨rfl, rfl, rfl, rfl⟩ := k
    exact ⟨rfl, h⟩
  · obtain ⟨rfl, rfl, rfl, rfl⟩ := h; exact k
  · exact k.trans h

/-- A later state of the same heap. -/
structure Later (H : Heap) (μ : Nat → Loc) (S : Nat → Prop) (W : World) (H' : Heap) (μ' : Nat → Loc) (S' : Nat → Prop) (W' : World) : Prop where
  os : W'.os = W.os
  tape : W'.tape = W.tape
  output : W'.output = W.output
  size : W.heap.size ≤ W'.heap.size
  objs : ∀ (id : Nat) (o : Obj), H[id]? = some o → ∃ o', H'[id]? = some o' ∧ o.to o' (μ id) (μ' id)
  keep : ∀ b, b < W.heap.size → (∀ id, Live H μ id → (μ id).blk ≠ b) → W'.heap[b]? = W.heap[b]?
  mono : ∀ b, S b → S' b
  news : ∀ b, b < W.heap.size → S' b → S b ∨ ∃ id, Live H μ id ∧ (μ id).blk = b
  fresh : ∀ id, Live H' μ' id → W.heap.size ≤ (μ' id).blk ∨ (Live H μ id ∧ (μ' id).blk = (μ id).blk)

theorem Later.refl (H : Heap) (μ : Nat → Loc) (S : Nat → Prop) (W : World) : Later H μ S W H μ S W :=
  ⟨rfl, rfl, rfl, Nat.le_refl _, fun _ o h => ⟨o, h, o.to_refl _⟩, fun _ _ _ => rfl, fun _ h => h, fun _ _ h => .inl h, fun _ h => .inr ⟨h, rfl⟩⟩

theorem Rel.notS {H : Heap} {μ : Nat → Loc} {S : Nat → Prop} {W : World} (h : Rel H μ S W) {id : Nat} (hl : Live H μ id) : ¬ S (μ id).blk := by
  obtain ⟨o, ho, hl⟩ := hl
  have := h.objs id o ho
  cases o with
  | box cs => exact this.1
  | row sz g xs => exact this.1 (by simpa [Obj.live] using hl)
  | frz sz g xs => cases hl
  | map es => exact this.1

theorem Rel.lt {H : Heap} {μ : Nat → Loc} {S : Nat → Prop} {W : World} (h : Rel H μ S W) {id : Nat} (hl : Live H μ id) : (μ id).blk < W.heap.size := by
  obtain ⟨o, ho, hl⟩ := hl
  have := h.objs id o ho
  cases o with
  | box cs => obtain ⟨_, us, ty, h, _⟩ := this; exact (Array.getElem?_eq_some_iff.1 h).1
  | row sz g xs => exact this.2.lt (by simpa [Obj.live] using hl)
  | frz sz g xs => cases hl
  | map es => obtain ⟨_, ms, cl, h, _⟩ := this; exact (Array.getElem?_eq_some_iff.1 h).1

section
variable {H H' H'' : Heap} {μ μ' μ'' : Nat → Loc} {S S' S'' : Nat → Prop} {W W' W'' : World}

theorem Later.keepS (h : Later H μ S W H' μ' S' W') (r : Rel H μ S W) (b : Nat) (hb : S b) : W'.heap[b]? = W.heap[b]? :=
  h.keep b (r.size b hb) fun _ hl e => r.notS hl (e ▸ hb)

theorem Later.trans (h : Later H μ S W H' μ' S' W') (k : Later H' μ' S' W' H'' μ'' S'' W'') : Later H μ S W H'' μ'' S'' W'' := by
  refine ⟨k.os.trans h.os, k.tape.trans h.tape, k.output.trans h.output, Nat.le_trans h.size k.size, ?_, ?_, fun b hb => k.mono b (h.mono b hb), ?_, ?_⟩
  · intro id o ho
    obtain ⟨o', ho', h1⟩ := h.objs id o ho
    obtain ⟨o'', ho'', h2⟩ := k.objs id o' ho'
    exact ⟨o'', ho'', Obj.to_trans h1 h2⟩
  · intro b hb hn
    rw [k.keep b (Nat.lt_of_lt_of_le hb h.size) ?_, h.keep b hb hn]
    intro id hl e
    rcases h.fresh id hl with hf | ⟨hl', hf⟩
    · omega
    · exact hn id hl' (hf ▸ e)
  · intro b hb hs
    rcases k.news b (Nat.lt_of_lt_of_le hb h.size) hs with h1 | ⟨id, hl, e⟩
    · exact h.news b hb h1
    · rcases h.fresh id hl with hf | ⟨hl', hf⟩
      · omega
      · exact .inr ⟨id, hl', hf ▸ e⟩
  · intro id hl
    rcases k.fresh id hl with hf | ⟨hl', hf⟩
    · exact .inl (Nat.le_trans h.size hf)
    · rcases h.fresh id hl' with hf' | ⟨hl'', hf'⟩
      · exact .inl (hf ▸ hf')
      · exact .inr ⟨hl'', hf.trans hf'⟩

theorem rowOf_later (h : Later H μ S W H' μ' S' W') {id sz g : Nat} {xs : List T} (hr : rowOf H[id]? = some (sz, g, xs)) :
    ∃ g' xs', rowOf H'[id]? = some (sz, g', xs') ∧ (g < g' ∨ (g = g' ∧ xs'.length = xs.length ∧ μ' id = μ id)) := by
  cases ho : H[id]? with
  | none => rw [ho] at hr; cases hr
  | some o =>
    obtain ⟨o', ho', ht⟩ := h.objs id o ho
    rw [ho] at hr
    rw [ho']
    cases o <;> simp only [rowOf, Option.some.injEq, Prod.mk.injEq] at hr <;> try exact hr.elim
    · cases hr
    · obtain ⟨rfl, rfl, rfl⟩ := hr
      cases o' <;> simp only [Obj.to] at ht <;> try exact ht.elim
      · obtain ⟨rfl, ht⟩ := ht; exact ⟨_, _, rfl, ht⟩
      · obtain ⟨rfl, ht⟩ := ht; exact ⟨_, _, rfl, ht⟩
    · obtain ⟨rfl, rfl, rfl⟩ := hr
      cases o' <;> simp only [Obj.to] at ht <;> try exact ht.elim
      obtain ⟨rfl, rfl, rfl, h2⟩ := ht
      exact ⟨_, _, rfl, .inr ⟨rfl, rfl, h2⟩⟩
    · cases hr

theorem RT.later (h : Later H μ S W H' μ' S' W') (r : Rel H μ S W) {x : T} {v : Value} (hx : RT S W x v) : RT S' W' x v := hx.mono h.mono (h.keepS r)

theorem RV.later (h : Later H μ S W H' μ' S' W') (r : Rel H μ S W) {x : V} {v : Value} (hx : RV μ S H W x v) : RV μ' S' H' W' x v := by
  induction hx with
  | undef v => exact .undef v
  | t hx => exact .t (hx.later h r)
  | agg us hl _ ih => exact .agg us hl ih
  | tup us hl _ ih => exact .tup us hl ih
  | fn us hl _ ih => exact .fn us hl ih
  | sl a cap sz' g xs hr hg hcap hn hh =>
    obtain ⟨g', xs', hr', hor⟩ := rowOf_later h hr
    refine .sl a cap sz' g' xs' hr' (by omega) hcap hn fun e => ?_
    rcases hor with h1 | ⟨h1, h2, h3⟩
    · omega
    · obtain ⟨k1, k2, k3⟩ := hh (by omega)
      exact ⟨k1, by omega, h3 ▸ k3⟩
  | bsl a cap cs hb hcap hl ha =>
    obtain ⟨o', ho', ht⟩ := h.objs _ _ hb
    cases o' <;> simp only [Obj.to] at ht <;> try exact ht.elim
    exact .bsl a cap _ ho' hcap (by omega) (ht.2 ▸ ha)
  | ref cs hb =>
    obtain ⟨o', ho', ht⟩ := h.objs _ _ hb
    cases o' <;> simp only [Obj.to] at ht <;> try exact ht.elim
    rw [← ht.2]; exact .ref _ ho'
  | elt a sz g xs hr hg hh =>
    obtain ⟨g', xs', hr', hor⟩ := rowOf_later h hr
    refine .elt a sz g' xs' hr' (by omega) fun e => ?_
    rcases hor with h1 | ⟨h1, h2, h3⟩
    · omega
    · rw [h3, h2]; exact hh (by omega)
  | ip a us hl hsp hSa hc hr =>
    refine .ip a us hl hsp (fun k => h.mono _ (hSa k)) (fun i u hu => ?_) (fun i c u hi hu => (hr i c u hi hu).later h r)
    have hi : i < us.length := by obtain ⟨h, _⟩ := List.getElem?_eq_some_iff.1 hu; exact h
    have e : W'.heap[(a.add i).block]? = W.heap[(a.add i).block]? := by rw [Addr.add_block]; exact h.keepS r _ (hSa (by omega))
    exact (cell_keep e).trans (hc i u hu)
  | mp es hb =>
    obtain ⟨o', ho', ht⟩ := h.objs _ _ hb
    cases o' <;> simp only [Obj.to] at ht <;> try exact ht.elim
    rw [← ht]; exact .mp _ ho'

theorem RowAt.later (h : Later H μ S W H' μ' S' W') (r : Rel H μ S W) {l : Loc} {sz : Nat} {xs : List T} (hb : l.cap ≠ 0 → W'.heap[l.blk]? = W.heap[l.blk]?) (hr : RowAt S W l sz xs) : RowAt S' W' l sz xs := by
  obtain ⟨h1, h2, h7⟩ := hr
  refine ⟨h1, h2, fun hc => ?_⟩
  obtain ⟨us, ty, fz, h3, h4, h5, h6⟩ := h7 hc
  exact ⟨us, ty, fz, (hb hc).trans h3, h4, h5, fun i c u hi hu => (h6 i c u hi hu).later h r⟩
end

/-- A list of values beside a list of the machine's. -/
def All2 {α β : Type} (R : α → β → Prop) (xs : List α) (ys : List β) : Prop := xs.length = ys.length ∧ ∀ (i : Nat) x y, xs[i]? = some x → ys[i]? = some y → R x y

theorem All2.nil {α β : Type} (R : α → β → Prop) : All2 R [] [] := ⟨rfl, fun i x y h => by simp at h⟩
theorem All2.cons {α β : Type} {R : α → β → Prop} {x : α} {y : β} {xs : List α} {ys : List β} (h : R x y) (k : All2 R xs ys) : All2 R (x :: xs) (y :: ys) := by
  refine ⟨by simp [k.1], fun i a b ha hb => ?_⟩
  cases i with
  | zero => simp at ha hb; exact ha ▸ hb ▸ h
  | succ i => exact k.2 i a b (by simpa using ha) (by simpa using hb)
theorem All2.imp {α β : Type} {R R' : α → β → Prop} {xs : List α} {ys : List β} (h : All2 R xs ys) (k : ∀ x y, R x y → R' x y) : All2 R' xs ys := ⟨h.1, fun i x y hx hy => k _ _ (h.2 i x y hx hy)⟩

end Go.Abs
