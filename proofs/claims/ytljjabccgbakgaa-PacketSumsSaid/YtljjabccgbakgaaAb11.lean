/- The built-in functions are right. By the session itself. -/
import Derived.Test.YtljjabccgbakgaaAb10
namespace Go.Abs
open Go Go.RowKit
set_option linter.unusedSimpArgs false
set_option linter.unusedVariables false

section
variable {P : Program} {H H' : Heap} {μ μ' : Nat → Loc} {S S' : Nat → Prop} {W W' : World}

theorem sound_copy (r : Rel H μ S W) {ts : Array TypeId} {t ty e : TypeId} {m : Nat} (h0 : ts[0]? = some t) (ht : P.underlying t = some (.slice e)) (hm : sizeT P e = some m)
    {d x : V} {dv xv : Value} (hd : RV μ S H W d dv) (hx : RV μ S H W x xv) {ys : List T} (hel : elems H m x = some ys) {c : Prop} {v : V} {H' : Heap} (hk : kcopy H m d ys = some (c, v, H')) (hc : c) :
    Eff P H μ S W (Builtin.copy_ ts ty #[dv, xv]) v H' := by
  obtain ⟨a, cap, us, rfl, hnone, hsy, hall, hcell⟩ := elems_cells r hx hel
  have hfy := flat_length hsy
  have hul0 : us.length = ys.length * m := by rw [← hall.1]; exact hfy
  have hfirst : ∀ n, n ≤ ys.length → (Builtin.firstCells m n (.slice a ys.length cap)).run P W = .ok (us.take (n * m)).toArray W := by
    intro n hn
    have hmm : n * m ≤ ys.length * m := Nat.mul_le_mul_right _ hn
    refine run_firstCells (by simp; omega) (fun e => ?_) fun a' e i w hi => ?_
    · have := hnone e; subst this
      have : us = [] := List.length_eq_zero_iff.1 (by simpa using hul0)
      simp [this]
    · rw [List.getElem?_take] at hi
      split at hi
      · exact hcell a' e i w hi
      · cases hi
  have htake : ∀ n, n ≤ ys.length → All2 (RT S W) (flat (ys.take n)) (us.take (n * m)) := by
    intro n hn; rw [flat_take n hsy]; exact hall.take _
  have run : ∀ (base : Option Addr) (dLen dCap : Nat), (Builtin.copy_ ts ty #[.slice base dLen dCap, .slice a ys.length cap]).run P W =
      ((match base with | some a => storeCells a (us.take (min ys.length dLen * m)) | none => pure ()).run P W).andThen fun _ W' => .ok (.int .i64 ((min ys.length dLen : Nat) : Int)) W' := by
    intro base dLen dCap
    have hf := hfirst (min ys.length dLen) (Nat.min_le_left _ _)
    have hmin : Nat.min ys.length dLen = min ys.length dLen := rfl
    cases base <;> simp [Builtin.copy_, h0, run_underlying ht, run_sizeOf hm, Builtin.lenOf, hmin, hf, goInt] <;> omega
  cases d with
  | sl id off len gen sz' =>
    simp only [kcopy] at hk
    split at hk
    · rename_i s2 g xs hrow
      split at hk
      · rename_i hcond
        obtain ⟨rfl, rfl, rfl⟩ := hcond
        cases hk
        obtain ⟨hS, hsized, hcapr, hblk⟩ := r.objs id _ hrow
        have hfx := flat_length hsized
        cases hd with
        | sl ad dcap sz2 g2 xs2 hr2 hg2 hcap2 hn2 hh =>
          rw [hrow] at hr2
          simp only [rowOf, Option.some.injEq, Prod.mk.injEq] at hr2
          obtain ⟨rfl, rfl, rfl⟩ := hr2
          obtain ⟨_, hlx, ha⟩ := hh rfl
          have hmin : min ys.length len ≤ ys.length := Nat.min_le_left _ _
          have hmin2 : min ys.length len ≤ len := Nat.min_le_right _ _
          have htk : ys.take len = ys.take (min ys.length len) := by
            rcases Nat.le_total ys.length len with h | h
            · rw [Nat.min_eq_left h, List.take_of_length_le h, List.take_of_length_le (Nat.le_refl _)]
            · rw [Nat.min_eq_right h]
          have hnew := htake _ hmin
          have hnewl : (us.take (min ys.length len * sz')).length = min ys.length len * sz' := by
            have := Nat.mul_le_mul_right sz' hmin
            simp; omega
          have hput : flat (putAt xs off (ys.take len)) = putAt (flat xs) (off * sz') (flat (ys.take len)) := by
            unfold putAt
            rw [flat_append, flat_append, flat_take off hsized, flat_drop _ hsized]
            congr 2
            have := flat_length (hsy.take len)
            rw [this, Nat.add_mul]
          have hszp : Sized sz' (putAt xs off (ys.take len)) := by
            unfold putAt
            exact (hsized.take _).append ((hsy.take _).append (hsized.drop _))
          have hpl : (putAt xs off (ys.take len)).length = xs.length := putAt_length _ _ _ (by simp; omega)
          by_cases hc0 : dcap = 0
          · have hl0 : len = 0 := by omega
            subst hl0
            have hrun := run ad 0 dcap
            have hx : putAt xs off (ys.take 0) = xs := by simp [putAt]
            rw [hx]
            have hset : H.set id (.row sz' gen xs) = H := by
              apply List.ext_getElem?
              intro j
              rw [List.getElem?_set]
              by_cases h : id = j
              · subst h; rw [if_pos rfl, hrow]; obtain ⟨h, _⟩ := List.getElem?_eq_some_iff.1 hrow; simp [h]
              · rw [if_neg h]
            rw [hset]
            refine ⟨_, W, μ, S, ?_, r, .mkInt _ _, .refl _ _ _ _⟩
            rw [hrun]
            cases ad <;> simp [storeCells]
          · obtain ⟨rfl, hcc⟩ := ha hc0
            have hcr : (μ id).cap ≠ 0 := by omega
            obtain ⟨vs, tyy, fz, hw, hfz, hul, hrt⟩ := hblk hcr
            have hm1 : off * sz' + min ys.length len * sz' ≤ xs.length * sz' := by rw [← Nat.add_mul]; exact Nat.mul_le_mul_right _ (by omega)
            have hm2 : xs.length * sz' ≤ (μ id).cap * sz' := Nat.mul_le_mul_right _ hcapr
            obtain ⟨W', f1, f2, f3, f4, f5, f6, f7⟩ := run_storeCells_put (P := P) (μ id).blk tyy fz (us.take (min ys.length len * sz')) ((μ id).off + off * sz') 0 vs W hw (by omega) hfz.2 (by
              have := hnew; rw [← htk] at this; exact all2_one this (hsy.take len).one)
            have hlv : (Obj.row sz' gen xs).live (μ id) = true := by simpa [Obj.live] using hcr
            obtain ⟨μ', he, hne, r', l'⟩ := change (W' := W') (S' := S) (o' := .row sz' gen (putAt xs off (ys.take len))) r hrow (μ id) f3 f4 f5 (by omega) (fun b _ hb => f7 b fun h => hb ⟨hlv, h⟩) (fun _ h => h) (fun _ h => .inl h)
              (fun b h => by rw [f6]; exact r.size b h) ⟨rfl, .inr ⟨rfl, hpl, rfl⟩⟩ (fun _ => .inr ⟨hlv, rfl⟩)
              (fun μ' e1 e2 L => by
                refine ⟨hS, hszp, by rw [hpl]; exact hcapr, fun _ => ⟨_, tyy, fz, f2, ?_, ?_, ?_⟩⟩
                · rw [putAt_length _ _ _ (by omega)]; exact hfz
                · rw [putAt_length _ _ _ (by omega)]; exact hul
                · intro j c w hj hw'
                  have hfl2 : (flat (ys.take len)).length = min ys.length len * sz' := by rw [htk, hnew.1]; exact hnewl
                  rw [hput, putAt_get _ _ _ _ (by omega)] at hj
                  rw [putAt_get _ _ _ _ (by omega)] at hw'
                  split at hj
                  · rw [if_pos (by omega)] at hw'
                    rw [show (μ id).off + j - ((μ id).off + off * sz' + 0) = j - off * sz' by omega] at hw'
                    rw [htk] at hj
                    exact (hnew.2 _ c w hj hw').later L r
                  · rw [if_neg (by omega)] at hw'
                    exact (hrt j c w hj hw').later L r)
            refine ⟨_, W', μ', S, ?_, r', .mkInt _ _, l'⟩
            rw [run]
            simp only
            rw [f1]; rfl
      · cases hk
    · cases hk
  | bsl id off len =>
    simp only [kcopy] at hk
    split at hk
    · rename_i cs hb
      split at hk
      · rename_i hcond
        obtain ⟨rfl, hone⟩ := hcond
        cases hk
        obtain ⟨hnS, vs, tyy, hw, hvl, hr⟩ := r.objs id _ hb
        cases hd with
        | bsl ad dcap cs' hb' hcap2 hl ha =>
          rw [hb] at hb'; cases hb'
          have hmin : min ys.length len ≤ ys.length := Nat.min_le_left _ _
          have hmin2 : min ys.length len ≤ len := Nat.min_le_right _ _
          have htk : ys.take len = ys.take (min ys.length len) := by
            rcases Nat.le_total ys.length len with h | h
            · rw [Nat.min_eq_left h, List.take_of_length_le h, List.take_of_length_le (Nat.le_refl _)]
            · rw [Nat.min_eq_right h]
          have hnew := htake _ hmin
          have hflat : flat (ys.take (min ys.length len)) = ys.take (min ys.length len) := flat_ones fun z hz => by
            have := List.all_eq_true.1 hone z (List.mem_of_mem_take hz)
            cases z <;> first | rfl | cases this
          rw [hflat] at hnew
          have hnewl : (us.take (min ys.length len * 1)).length = min ys.length len := by
            rw [← hnew.1]; simp
          by_cases hc0 : len = 0
          · subst hc0
            have hx : putAt cs off ((ys.take 0).map V.t) = cs := by simp [putAt]
            rw [hx]
            have hset : H.set id (.box cs) = H := by
              apply List.ext_getElem?
              intro j
              rw [List.getElem?_set]
              by_cases h : id = j
              · subst h; rw [if_pos rfl, hb]; obtain ⟨h, _⟩ := List.getElem?_eq_some_iff.1 hb; simp [h]
              · rw [if_neg h]
            rw [hset]
            refine ⟨_, W, μ, S, ?_, r, .mkInt _ _, .refl _ _ _ _⟩
            rw [run]
            simp [storeCells]
          · have hbase := ha (by omega)
            subst hbase
            obtain ⟨W', f1, f2, f3, f4, f5, f6, f7⟩ := run_storeCells_put (P := P) (μ id).blk tyy (0, 0) (us.take (min ys.length len * 1)) off 0 vs W hw (by omega) (by simp) (all2_one hnew (by
              rw [List.all_eq_true] at hone ⊢
              exact fun z hz => hone z (List.mem_of_mem_take hz)))
            obtain ⟨μ', h1, h2, h3, h4⟩ := change (W' := W') (S' := S) (o' := .box (putAt cs off ((ys.take len).map .t))) r hb (μ id) f3 f4 f5 (by omega) (fun b _ hb => f7 b fun h => hb ⟨rfl, h⟩) (fun _ h => h) (fun _ h => .inl h)
              (fun b h => by rw [f6]; exact r.size b h) ⟨by rw [putAt_length _ _ _ (by simp; omega)], rfl⟩ (fun _ => .inr ⟨rfl, rfl⟩)
              (fun μ' e1 e2' L => by
                refine ⟨hnS, _, tyy, f2, by rw [putAt_length _ _ _ (by omega), putAt_length _ _ _ (by simp; omega)]; exact hvl, ?_⟩
                have hnew' : All2 (RT S W) (ys.take len) (us.take (min ys.length len * 1)) := by rw [htk]; exact hnew
                have hall2 := (All2.putAt (R := RV μ S H W) ⟨hvl.symm, hr⟩ (all2_t hnew') off).imp fun a b h => h.later L r
                simpa only [Nat.add_zero] using hall2.2)
            refine ⟨_, W', μ', S, ?_, h3, .mkInt _ _, h4⟩
            rw [run]
            simp only
            rw [f1]; rfl
      · cases hk
    · cases hk
  | _ => simp only [kcopy, reduceCtorEq] at hk

theorem run_call_builtin {ρ : Operand → Value} {o : Oper} {b : Builtin} {args : Array Operand} {ts : Array TypeId} (ho : o.op = .call ⟨.builtin b, args, ts⟩) :
    ∃ consts, (execOp ρ o).run P W = (builtin b ts o.type consts (args.map ρ)).run P W := by
  refine ⟨args.map fun | .const _ => true | _ => false, ?_⟩
  unfold execOp
  rw [ho]
  simp only [resolve, Sem.run_bind, Sem.run_pure, Result.andThen_ok, invoke]
  rfl

theorem toArray_of {α : Type} {a : Array α} {l : List α} (h : a.toList = l) : a = l.toArray := by rw [← h]

theorem builtin_val (r : Rel H μ S W) {o : Oper} {b : Builtin} {oargs : Array Operand} {ts : Array TypeId} (ho : o.op = .call ⟨.builtin b, oargs, ts⟩) {k : K} {xs : List Operand} (hc : cBuiltin P b ts.toList oargs.toList = some (k, xs))
    {ρ : Operand → Value} {args : List V} (ha : All2 (RV μ S H W) args (xs.map ρ)) {c : Prop} {v : V} (hk : kval H k args = some (c, v)) (hcond : c) : ∃ q, (execOp ρ o).run P W = .ok (.value q) W ∧ RV μ S H W v q := by
  obtain ⟨consts, hrun⟩ := run_call_builtin (P := P) (W := W) (ρ := ρ) ho
  rw [hrun]
  unfold cBuiltin at hc
  split at hc <;> try (cases hc; done)
  · rename_i t tl x htl hal
    have h0 : ts[0]? = some t := by rw [← Array.getElem?_toList, htl]; rfl
    have he : oargs.map ρ = #[ρ x] := by rw [toArray_of hal]; simp
    rw [he]
    split at hc <;> try (cases hc; done)
    · rename_i hu; cases hc
      obtain ⟨w, rfl, hw⟩ := one_arg ha
      exact Holds.next (sound_lenS h0 hu hw hk)
    · rename_i e hu; cases hc
      obtain ⟨w, rfl, hw⟩ := one_arg ha
      exact Holds.next (sound_len h0 hu hw hk)
    · rename_i n e hu; cases hc
      obtain ⟨w, rfl, hw⟩ := one_arg ha
      simp only [kval, Option.some.injEq, Prod.mk.injEq] at hk
      obtain ⟨rfl, rfl⟩ := hk
      exact Holds.next ⟨_, sound_lenC h0 hu _, .mkInt _ _⟩
  · rename_i x y hal
    cases hc
    have he : oargs.map ρ = #[ρ x, ρ y] := by rw [toArray_of hal]; simp
    rw [he]
    obtain ⟨v1, v2, rfl, h1, h2⟩ := two_args ha
    obtain ⟨q, e1, e2⟩ := sound_min2 (P := P) h1 h2 hk
    refine Holds.next (s := Builtin.min_ ts o.type #[ρ x, ρ y]) ⟨q, ?_, e2⟩
    simp only [Builtin.min_, List.foldlM_cons, List.foldlM_nil, Sem.run_bind, e1, Result.andThen_ok, Sem.run_pure]
  · rename_i x y hal
    cases hc
    have he : oargs.map ρ = #[ρ x, ρ y] := by rw [toArray_of hal]; simp
    rw [he]
    obtain ⟨v1, v2, rfl, h1, h2⟩ := two_args ha
    obtain ⟨q, e1, e2⟩ := sound_max2 (P := P) h1 h2 hk
    refine Holds.next (s := Builtin.max_ ts o.type #[ρ x, ρ y]) ⟨q, ?_, e2⟩
    simp only [Builtin.max_, List.foldlM_cons, List.foldlM_nil, Sem.run_bind, e1, Result.andThen_ok, Sem.run_pure]
  · split at hc <;> try (cases hc; done)
    split at hc <;> try (cases hc; done)
    split at hc <;> try (cases hc; done)
    split at hc <;> try (cases hc; done)
    · cases hc; simp [kval] at hk
    · split at hc <;> try (cases hc; done)
      cases hc; simp [kval] at hk
  · split at hc <;> try (cases hc; done)
    split at hc <;> try (cases hc; done)
    split at hc <;> try (cases hc; done)
    cases hc; simp [kval] at hk

theorem builtin_eff (r : Rel H μ S W) {o : Oper} {b : Builtin} {oargs : Array Operand} {ts : Array TypeId} (ho : o.op = .call ⟨.builtin b, oargs, ts⟩) {k : K} {xs : List Operand} (hc : cBuiltin P b ts.toList oargs.toList = some (k, xs))
    {ρ : Operand → Value} {args : List V} (ha : All2 (RV μ S H W) args (xs.map ρ)) {c : Prop} {v : V} {H' : Heap} (hk : keff H k args = some (c, v, H')) (hcond : c) :
    ∃ n q W' μ' S', (execOp ρ o).run P W = .ok n W' ∧ (n = .value q ∨ (n = .skip ∧ q = undef)) ∧ Rel H' μ' S' W' ∧ RV μ' S' H' W' v q ∧ Later H μ S W H' μ' S' W' := by
  obtain ⟨consts, hrun⟩ := run_call_builtin (P := P) (W := W) (ρ := ρ) ho
  rw [hrun]
  unfold cBuiltin at hc
  split at hc <;> try (cases hc; done)
  · split at hc <;> try (cases hc; done)
    all_goals (cases hc; simp [keff] at hk)
  · cases hc; simp [keff] at hk
  · cases hc; simp [keff] at hk
  · rename_i t u tl x y htl hal
    have h0 : ts[0]? = some t := by rw [← Array.getElem?_toList, htl]; rfl
    have h1 : ts[1]? = some u := by rw [← Array.getElem?_toList, htl]; rfl
    have he : oargs.map ρ = #[ρ x, ρ y] := by rw [toArray_of hal]; simp
    rw [he]
    split at hc <;> try (cases hc; done)
    rename_i e ht
    split at hc <;> try (cases hc; done)
    rename_i n bb z hn hb hz
    split at hc <;> try (cases hc; done)
    rename_i hcc
    split at hc <;> try (cases hc; done)
    · rename_i e' hu
      cases hc
      obtain ⟨v1, v2, rfl, e1, e2⟩ := two_args ha
      simp only [keff] at hk
      split at hk
      · rename_i ys hel
        exact Eff.next (s := Builtin.append_ ts o.type #[ρ x, ρ y]) (sound_append r h0 h1 ht (.inr ⟨e', hu⟩) hn hb hcc.2.1 ⟨z, hz, hcc.2.2⟩ e1 (src_elems r e2 hel) hk hcond)
      · cases hk
    · rename_i hu
      split at hc <;> try (cases hc; done)
      rename_i hn1
      cases hc
      obtain ⟨v1, v2, rfl, e1, e2⟩ := two_args ha
      obtain ⟨s, rfl⟩ : ∃ s, v2 = .t (.str s) := by
        cases v2 with
        | t q => cases q with
          | str s => exact ⟨s, rfl⟩
          | _ => simp [keff] at hk
        | _ => simp [keff] at hk
      simp only [keff] at hk
      have hs := e2.str_inv
      rw [hs]
      subst hn1
      exact Eff.next (s := Builtin.append_ ts o.type #[ρ x, .string s]) (sound_append r h0 h1 ht (.inl hu) hn hb hcc.2.1 ⟨z, hz, hcc.2.2⟩ e1 (src_str s) hk hcond)
  · rename_i t u tl x y htl hal
    have h0 : ts[0]? = some t := by rw [← Array.getElem?_toList, htl]; rfl
    have he : oargs.map ρ = #[ρ x, ρ y] := by rw [toArray_of hal]; simp
    rw [he]
    split at hc <;> try (cases hc; done)
    rename_i e ht
    split at hc <;> try (cases hc; done)
    rename_i n e' hn hu
    split at hc <;> try (cases hc; done)
    cases hc
    obtain ⟨v1, v2, rfl, e1, e2⟩ := two_args ha
    simp only [keff] at hk
    split at hk
    · rename_i ys hel
      exact Eff.next (s := Builtin.copy_ ts o.type #[ρ x, ρ y]) (sound_copy r h0 ht hn e1 e2 hel hk hcond)
    · cases hk
end
end Go.Abs
