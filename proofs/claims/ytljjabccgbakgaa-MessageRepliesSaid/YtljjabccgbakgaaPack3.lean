/- Packets: Mod, near and Same. By the session itself. -/
import Derived.Test.YtljjabccgbakgaaAwake
namespace Go.Proofs.Ytljjabccgbakgaa
open Go Go.Abs
set_option maxRecDepth 100000
set_option maxHeartbeats 4000000
set_option linter.unusedSimpArgs false
set_option linter.unusedVariables false

theorem Mod_sc (n k : Int) (hk : 0 < k) (hk2 : k < 2 ^ 62) : SCall PP N.debuggerkit_Mod [.t (.int .i64 n), .t (.int .i64 k)] [] (RTree (.int .i64 (n % k))) := by
  refine debuggerkit_Mod.intro (by simp) ?_
  have h1 := Int.tmod_lt_of_pos n hk
  have h2 : -k < n.tmod k := by
    have := Int.tmod_lt_of_pos (-n) hk
    rw [Int.neg_tmod] at this
    omega
  have h3 := Int.emod_nonneg n (by omega : k ≠ 0)
  have h4 := Int.emod_lt_of_pos n hk
  have hd : k ∣ n.tmod k - n % k := by
    have e1 := Int.tmod_add_mul_tdiv n k
    have e2 := Int.emod_add_mul_ediv n k
    refine ⟨n / k - n.tdiv k, ?_⟩
    rw [Int.mul_sub]; omega
  by_cases hneg : n.tmod k < 0
  · have e : n.tmod k + k = n % k := by
      obtain ⟨c, hc⟩ := hd
      have : c = -1 := by
        rcases Int.lt_trichotomy c (-1) with h | h | h
        · have : k * c ≤ k * (-2) := Int.mul_le_mul_of_nonneg_left (by omega) (by omega)
          omega
        · exact h
        · have : k * 0 ≤ k * c := Int.mul_le_mul_of_nonneg_left (by omega) (by omega)
          omega
      subst this
      omega
    have hb : decide (n.tmod k < 0) = true := decide_eq_true hneg
    simp (maxSteps := 4000000) -implicitDefEqProofs (disch := omega) only [hb, ↓sxPre, sxPost, sxLib, if_true, if_false, Nat.reduceEqDiff, ↓reduceIte, Nat.reduceAdd, Nat.reduceSub, Nat.reduceMul, Nat.reduceLT, Nat.reduceLeDiff, reduceCtorEq, eq_self, K.isEff, List.reduceReplicate]
    refine ⟨by omega, finK_gc [] ?_⟩
    simp [e, gcSt, keepOk, finG, resV, resOne, resAll, idx, V.ren, V.renL, Obj.ren, get_cons, get_nil, RTree, RTup, RRow]
  · have e : n.tmod k = n % k := by
      obtain ⟨c, hc⟩ := hd
      have : c = 0 := by
        rcases Int.lt_trichotomy c 0 with h | h | h
        · have : k * c ≤ k * (-1) := Int.mul_le_mul_of_nonneg_left (by omega) (by omega)
          omega
        · exact h
        · have : k * 1 ≤ k * c := Int.mul_le_mul_of_nonneg_left (by omega) (by omega)
          omega
      subst this
      omega
    have hb : decide (n.tmod k < 0) = false := decide_eq_false hneg
    simp (maxSteps := 4000000) -implicitDefEqProofs (disch := omega) only [hb, ↓sxPre, sxPost, sxLib, if_true, if_false, Nat.reduceEqDiff, ↓reduceIte, Nat.reduceAdd, Nat.reduceSub, Nat.reduceMul, Nat.reduceLT, Nat.reduceLeDiff, reduceCtorEq, eq_self, K.isEff, List.reduceReplicate]
    refine ⟨by omega, finK_gc [] ?_⟩
    simp [e, gcSt, keepOk, finG, resV, resOne, resAll, idx, V.ren, V.renL, Obj.ren, get_cons, get_nil, RTree, RTup, RRow]

/-- A packet that is mostly right. -/
def Pk.near0 (p : Pk) : Pk :=
  if 1 + p.kind % 3 = 2 then ⟨1 + p.kind % 3, 1 + p.src % 1073741824, p.dst % 1073741824, 1 + p.seq % 1073741824, p.ack % 1073741824, p.body⟩
  else ⟨1 + p.kind % 3, 1 + p.src % 1073741824, p.dst % 1073741824, 0, p.ack % 1073741824, []⟩
def Pk.near (p : Pk) (w : Int) : Pk :=
  if w % 12 = 0 then { p.near0 with seq := 0 } else if w % 12 = 1 then { p.near0 with src := 0 } else if w % 12 = 2 then { p.near0 with dst := 1073741825 } else if w % 12 = 3 then { p.near0 with body := [1] } else p.near0

/-- A packet as the result. -/
def RPk (q : Pk) (r : V) (H : Heap) : Prop := ∃ sz t, (sz = 1 ∨ q.body = []) ∧ r = .agg ((q.cells sz t).map V.t) ∧ H = []

/-- A call that is handed nothing that is written to: its results may hold what it was handed. -/
theorem call_own {P : Program} {f : FuncId} {args : List V} {H : Heap} {k Q : V → Heap → Prop} (h : SCall P f (args.map (V.ren (idx []))) [] Q)
    (hk : ∀ r N, Q r N → k (r.ren (tau [] H.length)) (H ++ N.map (Obj.ren (tau [] H.length)))) : SCall P f args H k :=
  (SCall.frame [] (by simp) (by simp) h).mono fun r H' ⟨r0, N, hq, e1, e2⟩ => by
    subst e1 e2
    simpa [merge, setAll] using hk r0 N hq

theorem step_pk {P : Program} {f : FuncId} {H : Heap} {K : St → Prop} {vs : List (Nat × V)} {r : List Ins} {d : Nat} {xs : List Opnd} {q : Pk}
    (h : SCall P f ((xs.map (ev vs)).map (V.ren (idx []))) [] (RPk q)) (hk : ∀ sz t, (sz = 1 ∨ q.body = []) → wpR (SCall P) r K ⟨(d, .agg ((q.cells sz t).map V.t)) :: vs, H⟩) : wpR (SCall P) (⟨some d, none, .call f xs⟩ :: r) K ⟨vs, H⟩ := by
  refine step_call (call_own h ?_)
  rintro r N ⟨sz, t, hs, rfl, rfl⟩
  simpa [V.ren, renL_t] using hk sz t hs

theorem fin_pk {slot id : Nat} {q : Pk} {sz : Nat} {t : Bool} {s : St} (h1 : get s.vs slot = .ref id 0) (h2 : s.h[id]? = some (.box ((q.cells sz t).map V.t))) (hs : sz = 1 ∨ q.body = []) : finK 0 [.cell slot 6 false] (RPk q) s := by
  refine finK_gc [] ⟨by simp [keepOk], ?_⟩
  simp only [resV, resOne, h1, kloadN_ref, h2]
  refine ⟨by simp [Pk.cells], sz, t, hs, ?_, rfl⟩
  simp [V.ren, V.renL, Pk.cells]

theorem near_sc (p : Pk) (w : Int) (sz : Nat) (tight : Bool) (hsz : sz = 1 ∨ p.body = []) : SCall PP N.debuggerlaw33_near [.agg ((p.cells sz tight).map V.t), .t (.int .i64 w)] [] (RPk (p.near w)) := by
  refine debuggerlaw33_near.intro (by simp) ?_
  obtain ⟨kind, src, dst, seq, ack, body⟩ := p
  simp only [Pk.cells]
  have m1 : 0 ≤ kind % 3 ∧ kind % 3 < 3 := by omega
  have m2 : 0 ≤ src % 1073741824 ∧ src % 1073741824 < 1073741824 := by omega
  have m3 : 0 ≤ dst % 1073741824 ∧ dst % 1073741824 < 1073741824 := by omega
  have m4 : 0 ≤ seq % 1073741824 ∧ seq % 1073741824 < 1073741824 := by omega
  have m5 : 0 ≤ ack % 1073741824 ∧ ack % 1073741824 < 1073741824 := by omega
  simp (maxSteps := 4000000) -implicitDefEqProofs (disch := omega) only [kstore_ref, putAt, ↓sxPre, sxPost, sxLib, if_true, if_false, Nat.reduceEqDiff, ↓reduceIte, Nat.reduceAdd, Nat.reduceSub, Nat.reduceMul, Nat.reduceLT, Nat.reduceLeDiff, reduceCtorEq, eq_self, K.isEff, List.reduceReplicate]
  refine step_tree (Mod_sc kind 3 (by decide) (by decide)) rfl ?_
  simp (maxSteps := 4000000) -implicitDefEqProofs (disch := omega) only [kstore_ref, putAt, ↓sxPre, sxPost, sxLib, if_true, if_false, Nat.reduceEqDiff, ↓reduceIte, Nat.reduceAdd, Nat.reduceSub, Nat.reduceMul, Nat.reduceLT, Nat.reduceLeDiff, reduceCtorEq, eq_self, K.isEff, List.reduceReplicate]
  refine step_eff (step_tree (Mod_sc src 1073741824 (by decide) (by decide)) rfl ?_)
  simp (maxSteps := 4000000) -implicitDefEqProofs (disch := omega) only [kstore_ref, putAt, ↓sxPre, sxPost, sxLib, if_true, if_false, Nat.reduceEqDiff, ↓reduceIte, Nat.reduceAdd, Nat.reduceSub, Nat.reduceMul, Nat.reduceLT, Nat.reduceLeDiff, reduceCtorEq, eq_self, K.isEff, List.reduceReplicate]
  refine step_eff (step_tree (Mod_sc dst 1073741824 (by decide) (by decide)) rfl ?_)
  simp (maxSteps := 4000000) -implicitDefEqProofs (disch := omega) only [kstore_ref, putAt, ↓sxPre, sxPost, sxLib, if_true, if_false, Nat.reduceEqDiff, ↓reduceIte, Nat.reduceAdd, Nat.reduceSub, Nat.reduceMul, Nat.reduceLT, Nat.reduceLeDiff, reduceCtorEq, eq_self, K.isEff, List.reduceReplicate]
  refine step_eff (step_tree (Mod_sc ack 1073741824 (by decide) (by decide)) rfl ?_)
  simp (maxSteps := 4000000) -implicitDefEqProofs (disch := omega) only [kstore_ref, putAt, ↓sxPre, sxPost, sxLib, if_true, if_false, Nat.reduceEqDiff, ↓reduceIte, Nat.reduceAdd, Nat.reduceSub, Nat.reduceMul, Nat.reduceLT, Nat.reduceLeDiff, reduceCtorEq, eq_self, K.isEff, List.reduceReplicate]
  have nv : ∀ q : Pk, Pk.near0 ⟨kind, src, dst, seq, ack, body⟩ = q → Pk.near ⟨kind, src, dst, seq, ack, body⟩ w = (if w % 12 = 0 then { q with seq := 0 } else if w % 12 = 1 then { q with src := 0 } else if w % 12 = 2 then { q with dst := 1073741825 } else if w % 12 = 3 then { q with body := [1] } else q) := by
    rintro q rfl; rfl
  refine condV_dec (fun hk => ?_) fun hk => ?_
  · have nv := nv _ (if_pos hk)
    generalize Pk.near ⟨kind, src, dst, seq, ack, body⟩ w = N at *
    refine step_tree (Mod_sc seq 1073741824 (by decide) (by decide)) rfl ?_
    simp (maxSteps := 4000000) -implicitDefEqProofs (disch := omega) only [kstore_ref, putAt, ↓sxPre, sxPost, sxLib, if_true, if_false, Nat.reduceEqDiff, ↓reduceIte, Nat.reduceAdd, Nat.reduceSub, Nat.reduceMul, Nat.reduceLT, Nat.reduceLeDiff, reduceCtorEq, eq_self, K.isEff, List.reduceReplicate]
    refine step_tree (Mod_sc w 12 (by decide) (by decide)) rfl ?_
    simp (maxSteps := 4000000) -implicitDefEqProofs (disch := omega) only [kstore_ref, putAt, ↓sxPre, sxPost, sxLib, if_true, if_false, Nat.reduceEqDiff, ↓reduceIte, Nat.reduceAdd, Nat.reduceSub, Nat.reduceMul, Nat.reduceLT, Nat.reduceLeDiff, reduceCtorEq, eq_self, K.isEff, List.reduceReplicate]
    refine condV_dec (fun h => ?_) fun h => ?_
    · rw [if_pos h] at nv
      rw [nv]
      exact fin_pk (sz := sz) (t := tight) rfl rfl hsz
    rw [if_neg h] at nv
    refine condV_dec (fun h => ?_) fun h => ?_
    · rw [if_pos h] at nv
      rw [nv]
      exact fin_pk (sz := sz) (t := tight) rfl rfl hsz
    rw [if_neg h] at nv
    refine condV_dec (fun h => ?_) fun h => ?_
    · rw [if_pos h] at nv
      rw [nv]
      exact fin_pk (sz := sz) (t := tight) rfl rfl hsz
    rw [if_neg h] at nv
    refine condV_dec (fun h => ?_) fun h => ?_
    · rw [if_pos h] at nv
      rw [nv]
      exact fin_pk (sz := 1) (t := true) rfl rfl (.inl rfl)
    · rw [if_neg h] at nv
      rw [nv]
      exact fin_pk (sz := sz) (t := tight) rfl rfl hsz
  · have nv := nv _ (if_neg hk)
    generalize Pk.near ⟨kind, src, dst, seq, ack, body⟩ w = N at *
    refine step_tree (Mod_sc w 12 (by decide) (by decide)) rfl ?_
    simp (maxSteps := 4000000) -implicitDefEqProofs (disch := omega) only [kstore_ref, putAt, ↓sxPre, sxPost, sxLib, if_true, if_false, Nat.reduceEqDiff, ↓reduceIte, Nat.reduceAdd, Nat.reduceSub, Nat.reduceMul, Nat.reduceLT, Nat.reduceLeDiff, reduceCtorEq, eq_self, K.isEff, List.reduceReplicate]
    refine condV_dec (fun h => ?_) fun h => ?_
    · rw [if_pos h] at nv
      rw [nv]
      exact fin_pk (sz := 0) (t := true) rfl rfl (.inr rfl)
    rw [if_neg h] at nv
    refine condV_dec (fun h => ?_) fun h => ?_
    · rw [if_pos h] at nv
      rw [nv]
      exact fin_pk (sz := 0) (t := true) rfl rfl (.inr rfl)
    rw [if_neg h] at nv
    refine condV_dec (fun h => ?_) fun h => ?_
    · rw [if_pos h] at nv
      rw [nv]
      exact fin_pk (sz := 0) (t := true) rfl rfl (.inr rfl)
    rw [if_neg h] at nv
    refine condV_dec (fun h => ?_) fun h => ?_
    · rw [if_pos h] at nv
      rw [nv]
      exact fin_pk (sz := 1) (t := true) rfl rfl (.inl rfl)
    · rw [if_neg h] at nv
      rw [nv]
      exact fin_pk (sz := 0) (t := true) rfl rfl (.inr rfl)

theorem bytesOf_inj : ∀ {a b : List Int}, Bytes a → Bytes b → bytesOf (B a) = bytesOf (B b) → a = b
  | [], [], _, _, _ => rfl
  | [], _ :: _, _, _, h => by simp [B, bytesOf] at h
  | _ :: _, [], _, _, h => by simp [B, bytesOf] at h
  | x :: a, y :: b, ha, hb, h => by
    simp only [B, List.map_cons, bytesOf, List.cons.injEq] at h
    have hx := ha x (by simp)
    have hy := hb y (by simp)
    have e : x.toNat % 256 = y.toNat % 256 := by
      have := congrArg UInt8.toNat h.1
      simpa [UInt8.toNat_ofNat'] using this
    have : x = y := by omega
    rw [this, bytesOf_inj (fun z hz => ha z (by simp [hz])) (fun z hz => hb z (by simp [hz])) h.2]

theorem str_eq {a b : List Int} (ha : Bytes a) (hb : Bytes b) : decide ((⟨(bytesOf (B a)).toArray⟩ : ByteArray) = ⟨(bytesOf (B b)).toArray⟩) = decide (a = b) := by
  refine decide_eq_decide.2 ⟨fun h => bytesOf_inj ha hb ?_, fun h => by rw [h]⟩
  have := congrArg (fun x : ByteArray => x.data.toList) h
  simpa using this

theorem Same_sc (p q : Pk) (hp : Bytes p.body) (hq : Bytes q.body) (sz sz2 : Nat) (t t2 : Bool) (h1 : sz = 1 ∨ p.body = []) (h2 : sz2 = 1 ∨ q.body = []) :
    SCall PP N.debuggerref33_Same [.agg ((p.cells sz t).map V.t), .agg ((q.cells sz2 t2).map V.t)] [] (RTree (.bool (decide (p = q)))) := by
  refine debuggerref33_Same.intro (by simp) ?_
  obtain ⟨k1, s1, d1, q1, a1, b1⟩ := p
  obtain ⟨k2, s2, d2, q2, a2, b2⟩ := q
  obtain ⟨r, hr⟩ : ∃ r, r = decide ((⟨k1, s1, d1, q1, a1, b1⟩ : Pk) = ⟨k2, s2, d2, q2, a2, b2⟩) := ⟨_, rfl⟩
  rw [← hr]
  simp only [Pk.mk.injEq] at hr
  simp only [Pk.cells]
  have e1 : ∀ H : Heap, elems H 1 (.t (.lst sz t (B b1))) = some (B b1) := fun H => elems_lst (Or.imp id (fun e => by rw [e]; rfl) (show sz = 1 ∨ b1 = [] from h1))
  have e2 : ∀ H : Heap, elems H 1 (.t (.lst sz2 t2 (B b2))) = some (B b2) := fun H => elems_lst (Or.imp id (fun e => by rw [e]; rfl) (show sz2 = 1 ∨ b2 = [] from h2))
  have i1 := B_isByte hp
  have i2 := B_isByte hq
  simp only at i1 i2
  have es := str_eq hp hq
  simp only at es
  by_cases x0 : k1 = k2
  case neg =>
    have g0 : decide (k1 = k2) = false := decide_eq_false x0
    simp (maxSteps := 4000000) -implicitDefEqProofs (disch := omega) only [g0, ktoStr, e1, e2, ↓sxPre, sxPost, sxLib, if_true, if_false, Nat.reduceEqDiff, ↓reduceIte, Nat.reduceAdd, Nat.reduceSub, Nat.reduceMul, Nat.reduceLT, Nat.reduceLeDiff, reduceCtorEq, eq_self, K.isEff, List.reduceReplicate]
    obtain rfl : r = false := by rw [hr]; exact decide_eq_false (by simp [x0])
    refine finK_gc [] ?_
    simp [gcSt, keepOk, finG, resV, resOne, resAll, idx, V.ren, V.renL, Obj.ren, get_cons, get_nil, RTree, RTup, RRow]
  have g0 : decide (k1 = k2) = true := decide_eq_true x0
  by_cases x1 : s1 = s2
  case neg =>
    have g1 : decide (s1 = s2) = false := decide_eq_false x1
    simp (maxSteps := 4000000) -implicitDefEqProofs (disch := omega) only [g0, g1, ktoStr, e1, e2, ↓sxPre, sxPost, sxLib, if_true, if_false, Nat.reduceEqDiff, ↓reduceIte, Nat.reduceAdd, Nat.reduceSub, Nat.reduceMul, Nat.reduceLT, Nat.reduceLeDiff, reduceCtorEq, eq_self, K.isEff, List.reduceReplicate]
    obtain rfl : r = false := by rw [hr]; exact decide_eq_false (by simp [x1])
    refine finK_gc [] ?_
    simp [gcSt, keepOk, finG, resV, resOne, resAll, idx, V.ren, V.renL, Obj.ren, get_cons, get_nil, RTree, RTup, RRow]
  have g1 : decide (s1 = s2) = true := decide_eq_true x1
  by_cases x2 : d1 = d2
  case neg =>
    have g2 : decide (d1 = d2) = false := decide_eq_false x2
    simp (maxSteps := 4000000) -implicitDefEqProofs (disch := omega) only [g0, g1, g2, ktoStr, e1, e2, ↓sxPre, sxPost, sxLib, if_true, if_false, Nat.reduceEqDiff, ↓reduceIte, Nat.reduceAdd, Nat.reduceSub, Nat.reduceMul, Nat.reduceLT, Nat.reduceLeDiff, reduceCtorEq, eq_self, K.isEff, List.reduceReplicate]
    obtain rfl : r = false := by rw [hr]; exact decide_eq_false (by simp [x2])
    refine finK_gc [] ?_
    simp [gcSt, keepOk, finG, resV, resOne, resAll, idx, V.ren, V.renL, Obj.ren, get_cons, get_nil, RTree, RTup, RRow]
  have g2 : decide (d1 = d2) = true := decide_eq_true x2
  by_cases x3 : q1 = q2
  case neg =>
    have g3 : decide (q1 = q2) = false := decide_eq_false x3
    simp (maxSteps := 4000000) -implicitDefEqProofs (disch := omega) only [g0, g1, g2, g3, ktoStr, e1, e2, ↓sxPre, sxPost, sxLib, if_true, if_false, Nat.reduceEqDiff, ↓reduceIte, Nat.reduceAdd, Nat.reduceSub, Nat.reduceMul, Nat.reduceLT, Nat.reduceLeDiff, reduceCtorEq, eq_self, K.isEff, List.reduceReplicate]
    obtain rfl : r = false := by rw [hr]; exact decide_eq_false (by simp [x3])
    refine finK_gc [] ?_
    simp [gcSt, keepOk, finG, resV, resOne, resAll, idx, V.ren, V.renL, Obj.ren, get_cons, get_nil, RTree, RTup, RRow]
  have g3 : decide (q1 = q2) = true := decide_eq_true x3
  by_cases x4 : a1 = a2
  case neg =>
    have g4 : decide (a1 = a2) = false := decide_eq_false x4
    simp (maxSteps := 4000000) -implicitDefEqProofs (disch := omega) only [g0, g1, g2, g3, g4, ktoStr, e1, e2, ↓sxPre, sxPost, sxLib, if_true, if_false, Nat.reduceEqDiff, ↓reduceIte, Nat.reduceAdd, Nat.reduceSub, Nat.reduceMul, Nat.reduceLT, Nat.reduceLeDiff, reduceCtorEq, eq_self, K.isEff, List.reduceReplicate]
    obtain rfl : r = false := by rw [hr]; exact decide_eq_false (by simp [x4])
    refine finK_gc [] ?_
    simp [gcSt, keepOk, finG, resV, resOne, resAll, idx, V.ren, V.renL, Obj.ren, get_cons, get_nil, RTree, RTup, RRow]
  have g4 : decide (a1 = a2) = true := decide_eq_true x4
  simp (maxSteps := 4000000) -implicitDefEqProofs (disch := omega) only [g0, g1, g2, g3, g4, ktoStr, e1, e2, i1, i2, es, ↓sxPre, sxPost, sxLib, if_true, if_false, Nat.reduceEqDiff, ↓reduceIte, Nat.reduceAdd, Nat.reduceSub, Nat.reduceMul, Nat.reduceLT, Nat.reduceLeDiff, reduceCtorEq, eq_self, K.isEff, List.reduceReplicate]
  obtain rfl : r = decide (b1 = b2) := by rw [hr]; exact decide_eq_decide.2 (by simp [x0, x1, x2, x3, x4])
  refine finK_gc [] ?_
  simp [gcSt, keepOk, finG, resV, resOne, resAll, idx, V.ren, V.renL, Obj.ren, get_cons, get_nil, RTree, RTup, RRow]
end Go.Proofs.Ytljjabccgbakgaa
