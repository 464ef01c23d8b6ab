/- MessageReplies. By the session itself. -/
import Derived.Test.YtljjabccgbakgaaMsg17
namespace Go.Proofs.Ytljjabccgbakgaa
open Go Go.Abs
set_option maxRecDepth 100000
set_option maxHeartbeats 4000000
set_option linter.unusedSimpArgs false
set_option linter.unusedVariables false

/-- A reply that may be encoded, mostly. -/
def Rp.near (R : Rp) (which : Int) : Rp :=
  ⟨R.err, if which % 8 = 0 then List.replicate (128 + (which % 2).toNat) 0 else R.words, (R.ths.map Th.cut).take 8, if which % 8 = 1 then List.replicate (128 + (which.tdiv 8 % 2).toNat) (0, 0) else R.out, R.stop⟩
def RNearT (R : Rp) (which : Int) (r : V) (F : Heap) : Prop := ∃ cs, (R.near which).At cs ∧ r = .t (.agg cs) ∧ F = []

theorem Rp.near_ok {R : Rp} (h : R.Ok) (which : Int) : (R.near which).Ok := by
  obtain ⟨kerr, kwords, kwlen, kths, ktlen, kout, kolen, kstop, kslen⟩ := h
  refine ⟨kerr, ?_, ?_, fun q hq => ?_, ?_, ?_, ?_, kstop, kslen⟩
  · simp only [Rp.near]
    split
    · intro x hx; rw [List.eq_of_mem_replicate hx]; exact ⟨by decide, by decide⟩
    · exact kwords
  · simp only [Rp.near]
    split
    · rw [List.length_replicate]; omega
    · exact kwlen
  · obtain ⟨q', hq', rfl⟩ := List.mem_map.1 (List.mem_of_mem_take hq)
    exact Th.cut_ok (kths q' hq')
  · simp only [Rp.near, List.length_take]; omega
  · simp only [Rp.near]
    split
    · intro x hx
      obtain ⟨o, ho, hx⟩ := List.mem_flatMap.1 hx
      rw [List.eq_of_mem_replicate ho] at hx
      simp only [List.mem_cons, List.not_mem_nil, or_false, or_self] at hx
      rw [hx]; exact ⟨by decide, by decide⟩
    · exact kout
  · simp only [Rp.near]
    split
    · rw [List.length_replicate]; omega
    · exact kolen

theorem nearT_sc (R : Rp) (cs : List T) (hR : R.Ok) (hA : R.At cs) (hsm : R.Small) (which : Int) (hw : I64 which) : SCall PP N.debuggerlaw36_near [.agg (cs.map V.t), .t (.int .i64 which)] [] (RNearT R which) := by
  refine (near36_sc R cs hR hA hsm which hw).weak ?_
  rintro r F ⟨g, ys, w, o, F', hyl, hya, rfl, rfl, s1, t1, s3, t3, h1, h3, hrest⟩
  obtain ⟨q0, q1, q2, q3, q4, q5, q6, hs7⟩ := seven hR.slen
  have hNs : Ns R.stop = [.int .i64 q0, .int .i64 q1, .int .i64 q2, .int .i64 q3, .int .i64 q4, .int .i64 q5, .int .i64 q6] := by rw [hs7]; rfl
  have hths : ∀ i (h : i < ((R.ths.map Th.cut).take 8).length), (((R.ths.map Th.cut).take 8)[i]'h).At (T.at (ys.take (min R.ths.length 8)) i) := by
    intro i h
    simp only [List.length_take, List.length_map] at h
    simp only [List.getElem_take, List.getElem_map]
    have e2 : T.at (ys.take (min R.ths.length 8)) i = T.at ys i := by simp only [T.at, List.getD_eq_getElem?_getD, List.getElem?_take]; rw [if_pos (by omega)]
    rw [e2]
    exact hya i (by omega)
  have hthl : (ys.take (min R.ths.length 8)).length = ((R.ths.map Th.cut).take 8).length := by simp only [List.length_take, List.length_map]; omega
  have fin : ∀ (c : V) (F1 : Heap) (sw : Nat) (tw : Bool) (so : Nat) (to : Bool), (sw = 1 ∨ (R.near which).words = []) → (so = 2 ∨ (R.near which).out = []) →
      toElem (.row 20 g ys :: F') (.agg (.t (.int .i64 R.err) :: w :: .sl 0 0 (min R.ths.length 8) g 20 :: o :: (Ns R.stop).map V.t)) = some (.agg (.int .i64 R.err :: .lst sw tw (Ns (R.near which).words) :: .lst 20 false (ys.take (min R.ths.length 8)) :: .lst so to (Ps (R.near which).out) :: Ns R.stop), F1) →
      ∃ r' F2, Weak ([] : Heap).length ⟨[(0, .agg (.t (.int .i64 R.err) :: w :: .sl 0 0 (min R.ths.length 8) g 20 :: o :: (Ns R.stop).map V.t))], .row 20 g ys :: F'⟩ ⟨[(0, r')], F2⟩ ∧ RNearT R which r' F2 := by
    intro c F1 sw tw so to hsw hso he
    refine ⟨_, _, (weak_one he).trans (weak_to [0] [] rfl (Nat.le_refl _) (by simp) (by simp) rfl), ?_⟩
    exact ⟨_, ⟨sw, tw, 20, false, so, to, _, hsw, .inl rfl, hso, hthl, hths, rfl⟩, by simp only [get_cons, if_true, V.ren]; rfl, rfl⟩
  have hdr : ∀ (xs : List T) (n : Nat), (xs.drop 0).take n = xs.take n := fun xs n => by rw [List.drop_zero]
  rcases hrest with ⟨g0, g1, rfl, rfl, rfl⟩ | ⟨g0, k, hk, rfl, rfl, rfl⟩ | ⟨g1, k, hk, rfl, rfl, rfl⟩
  · have e1 : (R.near which).words = R.words := by simp only [Rp.near, if_neg g0]
    have e2 : (R.near which).out = R.out := by simp only [Rp.near, if_neg g1]
    refine fin .undef [.frz 20 g ys] s1 t1 s3 t3 (by rw [e1]; exact h1) (by rw [e2]; exact h3) ?_
    rw [hNs, e1, e2]
    simp only [List.map_cons, List.map_nil, toElem_agg, toTs_cons, toTs_nil, toT_t, toT_sl]
    simp [rowOf]
  · have e1 : (R.near which).words = List.replicate k 0 := by simp only [Rp.near, if_pos g0, hk]
    have e2 : (R.near which).out = R.out := by simp only [Rp.near, if_neg (show ¬ which % 8 = 1 by omega)]
    have e3 : (Ns (List.replicate k 0)).take k = Ns (List.replicate k 0) := List.take_of_length_le (by rw [Ns_length, List.length_replicate]; omega)
    refine fin .undef [.frz 20 g ys, .frz 1 0 (Ns (List.replicate k 0))] 1 false s3 t3 (.inl rfl) (by rw [e2]; exact h3) ?_
    rw [hNs, e1, e2]
    simp only [List.map_cons, List.map_nil, toElem_agg, toTs_cons, toTs_nil, toT_t, toT_sl]
    simp [rowOf, e3]
  · have e1 : (R.near which).words = R.words := by simp only [Rp.near, if_neg (show ¬ which % 8 = 0 by omega)]
    have e2 : (R.near which).out = List.replicate k (0, 0) := by simp only [Rp.near, if_pos g1, hk]
    have e3 : (Ps (List.replicate k (0, 0))).take k = Ps (List.replicate k (0, 0)) := List.take_of_length_le (by rw [Ps_length, List.length_replicate]; omega)
    refine fin .undef [.frz 20 g ys, .frz 2 0 (Ps (List.replicate k (0, 0)))] s1 t1 2 false (by rw [e1]; exact h1) (.inl rfl) ?_
    rw [hNs, e1, e2]
    simp only [List.map_cons, List.map_nil, toElem_agg, toTs_cons, toTs_nil, toT_t, toT_sl]
    simp [rowOf, e3]

theorem step_nearT {P : Program} {f : FuncId} {H : Heap} {K : St → Prop} {vs : List (Nat × V)} {r : List Ins} {d : Nat} {xs : List Opnd} {R : Rp} {which : Int}
    (h : SCall P f ((xs.map (ev vs)).map (V.ren (idx []))) [] (RNearT R which)) (hk : ∀ cs, (R.near which).At cs → wpR (SCall P) r K ⟨(d, .t (.agg cs)) :: vs, H⟩) : wpR (SCall P) (⟨some d, none, .call f xs⟩ :: r) K ⟨vs, H⟩ := by
  refine step_call (call_own h ?_)
  rintro r N ⟨cs, h1, rfl, rfl⟩
  simpa [V.ren] using hk cs h1

theorem Rp.At.facts {R : Rp} {cs : List T} (h : R.At cs) (hs : R.stop.length = 7) : cs.length = 11 ∧ cs.take 11 = cs ∧ (cs.map V.t).take 11 = cs.map V.t ∧ (cs.map V.t).all V.one = true ∧ cs.all T.one = true ∧
    (∀ a0 a1 a2 a3 a4 a5 a6 a7 a8 a9 a10 : V, putAt [a0, a1, a2, a3, a4, a5, a6, a7, a8, a9, a10] 0 (cs.map V.t) = cs.map V.t) := by
  obtain ⟨s1, t1, s2, t2, s3, t3, xs, h1, h2, h3, hx, ha, rfl⟩ := h
  obtain ⟨q0, q1, q2, q3, q4, q5, q6, hs7⟩ := seven hs
  rw [hs7]
  refine ⟨rfl, rfl, rfl, rfl, rfl, ?_⟩
  intros; rfl

theorem step_decR {P : Program} {f : FuncId} {H : Heap} {K : St → Prop} {vs : List (Nat × V)} {r : List Ins} {d : Nat} {x : Opnd} {D : Rp × Int} {E : List Int} {id g : Nat} (hx : ev vs x = .sl id 0 E.length g 1) (hg : H[id]? = some (.row 1 g (B E)))
    (h : SCall P f [.t (.lst 1 false (B E))] [] (RDecR D)) (hk : ∀ cs, D.1.At cs → wpR (SCall P) r K ⟨(d, .tup [.t (.agg cs), .t (.int .i64 D.2)]) :: vs, H.set id (.frz 1 g (B E))⟩) : wpR (SCall P) (⟨some d, none, .call f [x]⟩ :: r) K ⟨vs, H⟩ := by
  refine step_call (SCall.frz 0 (v := .sl id 0 E.length g 1) (x := .lst 1 false (B E)) (H1 := H.set id (.frz 1 g (B E))) (by simp [hx]) ?_ (call_own (Q := RDecR D) ?_ ?_))
  · rw [toT_sl, hg]; simp [rowOf, B_all]
  · simpa [V.ren] using h
  · rintro r N ⟨cs, h1, rfl, rfl⟩
    simpa [V.ren, V.renL] using hk cs h1
end Go.Proofs.Ytljjabccgbakgaa
