/- From the abstract machine to a law's row. By the session itself. -/
import Derived.Test.YtljjabccgbakgaaAb18
import Derived.Below
namespace Go.Abs
open Go Go.RowKit
set_option linter.unusedSimpArgs false
set_option linter.unusedVariables false

/-- A law that answers true, from any world. -/
theorem law_below {P : Program} {f : FuncId} {args : List V} {vals : List Value} {W : World} (h : SCall P f args [] (RTree (.bool true))) (ha : All2 (RV (fun _ => ⟨0, 0, 0⟩) (fun b => b < W.heap.size) [] W) args vals) :
    Calls P f vals.toArray W fun e W' => e = .returned (.bool true) ∧ Below W.heap.size W W' := by
  have r : Rel [] (fun _ => ⟨0, 0, 0⟩) (fun b => b < W.heap.size) W :=
    ⟨fun id o h => by simp at h, fun i j hi => by obtain ⟨o, ho, _⟩ := hi; simp at ho, fun b hb => hb⟩
  refine (h.2 _ _ W vals r ha).mono ?_
  rintro e W' ⟨v, u, H', μ', S', rfl, ⟨rfl, rfl⟩, r', hv, l⟩
  have : u = .bool true := by
    cases hv with
    | t h => cases h; rfl
  subst this
  refine ⟨rfl, l.os, l.tape, l.output, l.size, fun k hk => l.keep k hk fun id hl => ?_⟩
  obtain ⟨o, ho, _⟩ := hl
  simp at ho

theorem rv_int {μ : Nat → Loc} {S : Nat → Prop} {H : Heap} {W : World} (k : IntKind) (n : Int) : RV μ S H W (.t (.int k n)) (.int k n) := .t (.int k n)
theorem rv_str {μ : Nat → Loc} {S : Nat → Prop} {H : Heap} {W : World} (s : ByteArray) : RV μ S H W (.t (.str s)) (.string s) := .t (.str s)
theorem rv_bool {μ : Nat → Loc} {S : Nat → Prop} {H : Heap} {W : World} (b : Bool) : RV μ S H W (.t (.bool b)) (.bool b) := .t (.bool b)

/-- A slice of whole numbers that is handed in. -/
def IsRow (k : IntKind) (w : World) (a : Option Addr) (len cap : Nat) (zs : List Int) : Prop :=
  (a = none ∧ len = 0 ∧ cap = 0 ∧ zs = []) ∨
  ∃ x, a = some x ∧ len ≤ cap ∧ cap ≤ maxLen ∧ zs.length = cap ∧ (∀ i, i < zs.length → w.cell? (x.add i) = some (.int k (zs.getD i 0))) ∧ ∀ n ∈ zs, (Lit.int k n).wf = true

theorem flat_ints (k : IntKind) : ∀ l : List Int, flat (l.map (T.int k)) = l.map (T.int k)
  | [] => rfl
  | x :: l => by simp only [List.map_cons, flat_cons, flat_ints k l]; rfl

theorem rv_row {μ : Nat → Loc} {H : Heap} {W : World} {k : IntKind} {a : Option Addr} {len cap : Nat} {zs : List Int} (h : IsRow k W a len cap zs) :
    RV μ (fun b => b < W.heap.size) H W (.t (.lst 1 false ((zs.take len).map (T.int k)))) (.slice a len cap) ∧ (zs.take len).length = len := by
  rcases h with ⟨rfl, rfl, rfl, rfl⟩ | ⟨x, rfl, hl, hm, hz, hcell, hwf⟩
  · refine ⟨.t ?_, rfl⟩
    exact RT.lst (sz := 1) (tight := false) (xs := []) none 0 [] (fun x hx => by cases hx) (Nat.le_refl _) (fun h => by cases h) (fun _ => ⟨rfl, rfl⟩) rfl (fun a' h => by cases h) (fun a' h => by cases h) (fun i c u hc => by simp [flat] at hc)
  · have hlen : (zs.take len).length = len := by rw [List.length_take]; omega
    refine ⟨.t ?_, hlen⟩
    have hcel : ∀ i, i < len → W.cell? (x.add i) = some (.int k (zs.getD i 0)) := fun i hi => hcell i (by omega)
    have key : RT (fun b => b < W.heap.size) W (.lst 1 false ((zs.take len).map (T.int k))) (.slice (some x) ((zs.take len).map (T.int k)).length cap) := by
      refine RT.lst (some x) cap ((zs.take len).map (Value.int k)) ?_ (by simp; omega) (fun h => by cases h) (fun h => by cases h) (by rw [flat_ints]; simp) ?_ ?_ ?_
      · intro y hy
        obtain ⟨n, _, rfl⟩ := List.mem_map.1 hy
        exact ⟨rfl, rfl⟩
      · intro a' ha' hpos
        cases ha'
        have h0 : 0 < len := by rw [List.length_map, hlen] at hpos; exact hpos
        have := hcel 0 h0
        unfold World.cell? at this
        rcases Nat.lt_or_ge (x.add 0).block W.heap.size with h | h
        · rwa [Addr.add_block] at h
        · rw [Array.getElem?_eq_none h] at this; simp at this
      · intro a' ha' i u hu
        cases ha'
        rw [List.getElem?_map] at hu
        have hi : i < len := by
          rcases Nat.lt_or_ge i len with h | h
          · exact h
          · rw [List.getElem?_eq_none (by omega)] at hu; simp at hu
        rw [hcel i hi]
        rw [List.getElem?_take, if_pos hi] at hu
        have hiz : i < zs.length := by omega
        rw [List.getElem?_eq_getElem hiz] at hu
        simp only [Option.map_some, Option.some.injEq] at hu
        rw [← hu, List.getD_eq_getElem?_getD, List.getElem?_eq_getElem hiz]
        rfl
      · intro i c u hc hu
        rw [flat_ints, List.getElem?_map] at hc
        rw [List.getElem?_map] at hu
        cases hn : (zs.take len)[i]? with
        | none => rw [hn] at hc; simp at hc
        | some n =>
          rw [hn] at hc hu
          simp only [Option.map_some, Option.some.injEq] at hc hu
          subst hc hu
          exact .int k n
    rw [List.length_map, hlen] at key
    exact key

theorem i64_of {n : Int} (h : (Lit.int .i64 n).wf = true) : -2 ^ 63 ≤ n ∧ n < 2 ^ 63 := by
  simp only [Lit.wf, Bool.and_eq_true, decide_eq_true_eq] at h
  have e1 : IntKind.min .i64 = -2 ^ 63 := by decide
  have e2 : IntKind.max .i64 = 2 ^ 63 - 1 := by decide
  omega

theorem u8_of {n : Int} (h : (Lit.int .u8 n).wf = true) : 0 ≤ n ∧ n < 256 := by
  simp only [Lit.wf, Bool.and_eq_true, decide_eq_true_eq] at h
  have e1 : IntKind.min .u8 = 0 := by decide
  have e2 : IntKind.max .u8 = 255 := by decide
  omega

end Go.Abs
