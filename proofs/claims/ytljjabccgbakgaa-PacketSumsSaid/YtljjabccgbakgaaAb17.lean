/- Rules for walking through the abstract machine's code. By the session itself. -/
import Derived.Test.YtljjabccgbakgaaAb16
namespace Go.Abs
open Go
set_option linter.unusedSimpArgs false
set_option linter.unusedVariables false

section
variable {Cl : Known} {n : Nat} {Q : Ex → St → Prop} {s : St} {H : Heap} {vs : List (Nat × V)} {k : V → Heap → Prop} {K : St → Prop}

theorem wpC_skip : wpC Cl n .skip Q s = Q .norm s := (rfl)
theorem wpC_rgn {is : List Ins} : wpC Cl n (.rgn is) Q s = wpR Cl is (Q .norm) s := (rfl)
theorem wpC_rgnD {p : Plan} : wpC Cl n (.rgnD p) Q s = wpP Cl p (Q .norm) s := (rfl)
theorem wpP_fin : wpP Cl .fin K s = K s := (rfl)
theorem wpP_val {i : Ins} {p : Plan} : wpP Cl (.val i p) K s = wpR Cl [i] (wpP Cl p K) s := (rfl)
theorem wpP_eff {d : Option Nat} {g : Option (Nat × Bool)} {op : Abs.K} {xs : List Opnd} {fl : List Ins} {p : Plan} : wpP Cl (.eff ⟨d, g, .op op xs⟩ fl p) K s = wpR Cl [⟨d, g, .op op xs⟩] (fun s' => flos fl s' (wpP Cl p K s')) s := (rfl)
theorem wpP_alt {p q : Plan} : wpP Cl (.alt p q) K s = (wpP Cl p K s ∧ wpP Cl q K s) := (rfl)
theorem flos_nil {q : Prop} : flos [] s q = q := (rfl)
theorem flos_cons {i : Ins} {is : List Ins} {q : Prop} : flos (i :: is) s q = (flo i s ∧ flos is s q) := (rfl)
theorem flo_plain {d : Nat} {op : Abs.K} {xs : List Opnd} : flo ⟨some d, none, .op op xs⟩ ⟨vs, H⟩ = stepK H op (xs.map (ev vs)) fun v _ => v = get vs d := (rfl)
theorem flo_guard {d t : Nat} {w : Bool} {op : Abs.K} {xs : List Opnd} : flo ⟨some d, some (t, w), .op op xs⟩ ⟨vs, H⟩ = guardV (get vs t) w (stepK H op (xs.map (ev vs)) fun v _ => v = get vs d) (get vs d = .undef) := (rfl)
theorem wpC_seq {a b : Cd} : wpC Cl n (.seq a b) Q s = wpC Cl n a (thenK (wpC Cl n b Q) Q) s := (rfl)
theorem wpC_cond {c : Opnd} {a b : Cd} : wpC Cl n (.cond c a b) Q ⟨vs, H⟩ = condV (ev vs c) (wpC Cl n a Q ⟨vs, H⟩) (wpC Cl n b Q ⟨vs, H⟩) := (rfl)
theorem wpC_block {id : Nat} {c : Cd} : wpC Cl n (.block id c) Q s = wpC Cl n c (blockK id Q) s := (rfl)
theorem wpC_exit {id : Nat} : wpC Cl n (.exit id) Q s = Q (.exit id) s := (rfl)
theorem wpC_ret : wpC Cl n .ret Q s = Q .ret s := (rfl)
theorem thenK_norm {q : St → Prop} : thenK q Q .norm s = q s := (rfl)
theorem thenK_exit {q : St → Prop} {id : Nat} : thenK q Q (.exit id) s = Q (.exit id) s := (rfl)
theorem thenK_ret {q : St → Prop} : thenK q Q .ret s = Q .ret s := (rfl)
theorem blockK_norm {id : Nat} : blockK id Q .norm s = Q .norm s := (rfl)
theorem blockK_exit {id i : Nat} : blockK id Q (.exit i) s = if i = id then Q .norm s else Q (.exit i) s := (rfl)
theorem blockK_ret {id : Nat} : blockK id Q .ret s = Q .ret s := (rfl)
theorem exitK_norm {rs : List Res} {q : V → Heap → Prop} : exitK n rs q .norm s = finK n rs q s := (rfl)
theorem exitK_ret {rs : List Res} {q : V → Heap → Prop} : exitK n rs q .ret s = finK n rs q s := (rfl)
theorem wpR_nil : wpR Cl [] K s = K s := (rfl)
theorem wpR_cons {d : Nat} {op : Abs.K} {xs : List Opnd} {r : List Ins} : wpR Cl (⟨some d, none, .op op xs⟩ :: r) K ⟨vs, H⟩ = stepK H op (xs.map (ev vs)) fun v H => wpR Cl r K ⟨(d, v) :: vs, H⟩ := (rfl)
theorem wpR_cons_none {op : Abs.K} {xs : List Opnd} {r : List Ins} : wpR Cl (⟨none, none, .op op xs⟩ :: r) K ⟨vs, H⟩ = stepK H op (xs.map (ev vs)) fun _ H => wpR Cl r K ⟨vs, H⟩ := (rfl)
theorem wpR_guard {d t : Nat} {want : Bool} {op : Abs.K} {xs : List Opnd} {r : List Ins} : wpR Cl (⟨some d, some (t, want), .op op xs⟩ :: r) K ⟨vs, H⟩ = guardV (get vs t) want (stepK H op (xs.map (ev vs)) fun v H => wpR Cl r K ⟨(d, v) :: vs, H⟩) (wpR Cl r K ⟨(d, .undef) :: vs, H⟩) := (rfl)
theorem wpR_guard_none {t : Nat} {want : Bool} {op : Abs.K} {xs : List Opnd} {r : List Ins} : wpR Cl (⟨none, some (t, want), .op op xs⟩ :: r) K ⟨vs, H⟩ = guardV (get vs t) want (stepK H op (xs.map (ev vs)) fun _ H => wpR Cl r K ⟨vs, H⟩) (wpR Cl r K ⟨vs, H⟩) := (rfl)
theorem callV_fn {f : FuncId} {caps args : List V} : callV Cl (.fn f caps) args H k = Cl f (args ++ caps) H k := (rfl)
theorem map_nil' {f : Opnd → V} : List.map f [] = [] := (rfl)
theorem map_cons' {f : Opnd → V} {x : Opnd} {xs : List Opnd} : List.map f (x :: xs) = f x :: List.map f xs := (rfl)
theorem ev_tmp {t : Nat} : ev vs (.tmp t) = get vs t := (rfl)
theorem ev_val {v : V} : ev vs (.val v) = v := (rfl)
theorem get_nil {t : Nat} : get [] t = .undef := (rfl)
theorem get_cons {j t : Nat} {v : V} : get ((j, v) :: vs) t = if j = t then v else get vs t := (rfl)
theorem putO_some {t : Nat} {v : V} : putO vs (some t) v = (t, v) :: vs := (rfl)
theorem putO_none {v : V} : putO vs none v = vs := (rfl)
theorem initVs_nil {i : Nat} : initVs i [] = [] := (rfl)
theorem initVs_cons {i : Nat} {v : V} {r : List V} : initVs i (v :: r) = (i, v) :: initVs (i + 1) r := (rfl)

theorem condV_true {yes no : Prop} : condV (.t (.bool true)) yes no = yes := by simp [condV]
theorem condV_false {yes no : Prop} : condV (.t (.bool false)) yes no = no := by simp [condV]
theorem condV_dec {p yes no : Prop} [Decidable p] (h : p → yes) (h' : ¬ p → no) : condV (.t (.bool (decide p))) yes no := ⟨fun e => h (of_decide_eq_true e), fun e => h' (of_decide_eq_false e)⟩
theorem condV_ndec {p yes no : Prop} [Decidable p] (h : ¬ p → yes) (h' : p → no) : condV (.t (.bool (!decide p))) yes no := ⟨fun e => h (by simpa using e), fun e => h' (by simpa using e)⟩
theorem condV_any {b : Bool} {yes no : Prop} (h : b = true → yes) (h' : b = false → no) : condV (.t (.bool b)) yes no := ⟨h, h'⟩
theorem guardV_tt {yes no : Prop} : guardV (.t (.bool true)) true yes no = yes := by simp [guardV]
theorem guardV_ff {yes no : Prop} : guardV (.t (.bool false)) false yes no = yes := by simp [guardV]
theorem guardV_tf {yes no : Prop} : guardV (.t (.bool true)) false yes no = no := by simp [guardV]
theorem guardV_ft {yes no : Prop} : guardV (.t (.bool false)) true yes no = no := by simp [guardV]

theorem stepK_id {x : V} : stepK H .id [x] k = k x H := by simp [stepK, K.isEff, kval, kk]
theorem stepK_strId {s : ByteArray} : stepK H .strId [.t (.str s)] k = k (.t (.str s)) H := by simp [stepK, K.isEff, kval, kk]
theorem stepK_pick {c : Bool} {a b : V} : stepK H .pick [.t (.bool c), a, b] k = k (if c then a else b) H := by simp [stepK, K.isEff, kval, kk]
theorem pick_true {a b : V} : (if true = true then a else b) = a := (rfl)
theorem pick_false {a b : V} : (if false = true then a else b) = b := (rfl)
theorem stepK_add {d : IntKind} {a b : Int} : stepK H (.bin .add) [.t (.int d a), .t (.int d b)] k = k (.t (.int d (d.wrap (a + b)))) H := by simp [stepK, K.isEff, kval, kk, kbin, isShift, binInt]
theorem stepK_sub {d : IntKind} {a b : Int} : stepK H (.bin .sub) [.t (.int d a), .t (.int d b)] k = k (.t (.int d (d.wrap (a - b)))) H := by simp [stepK, K.isEff, kval, kk, kbin, isShift, binInt]
theorem stepK_mul {d : IntKind} {a b : Int} : stepK H (.bin .mul) [.t (.int d a), .t (.int d b)] k = k (.t (.int d (d.wrap (a * b)))) H := by simp [stepK, K.isEff, kval, kk, kbin, isShift, binInt]
theorem stepK_quo {d : IntKind} {a b : Int} : stepK H (.bin .quo) [.t (.int d a), .t (.int d b)] k = (b ≠ 0 ∧ k (.t (.int d (d.wrap (a.tdiv b)))) H) := by simp [stepK, K.isEff, kval, kk, kbin, isShift, binInt]
theorem stepK_rem {d : IntKind} {a b : Int} : stepK H (.bin .rem) [.t (.int d a), .t (.int d b)] k = (b ≠ 0 ∧ k (.t (.int d (a.tmod b))) H) := by simp [stepK, K.isEff, kval, kk, kbin, isShift, binInt]
theorem stepK_and {d : IntKind} {a b : Int} : stepK H (.bin .and) [.t (.int d a), .t (.int d b)] k = k (.t (.int d (bits .and d a b))) H := by simp [stepK, K.isEff, kval, kk, kbin, isShift, binInt]
theorem stepK_or {d : IntKind} {a b : Int} : stepK H (.bin .or) [.t (.int d a), .t (.int d b)] k = k (.t (.int d (bits .or d a b))) H := by simp [stepK, K.isEff, kval, kk, kbin, isShift, binInt]
theorem stepK_xor {d : IntKind} {a b : Int} : stepK H (.bin .xor) [.t (.int d a), .t (.int d b)] k = k (.t (.int d (bits .xor d a b))) H := by simp [stepK, K.isEff, kval, kk, kbin, isShift, binInt]
theorem stepK_andNot {d : IntKind} {a b : Int} : stepK H (.bin .andNot) [.t (.int d a), .t (.int d b)] k = k (.t (.int d (bits .andNot d a b))) H := by simp [stepK, K.isEff, kval, kk, kbin, isShift, binInt]
theorem stepK_eql {d : IntKind} {a b : Int} : stepK H (.bin .eql) [.t (.int d a), .t (.int d b)] k = k (.t (.bool (decide (a = b)))) H := by simp [stepK, K.isEff, kval, kk, kbin, isShift, binInt]
theorem stepK_neq {d : IntKind} {a b : Int} : stepK H (.bin .neq) [.t (.int d a), .t (.int d b)] k = k (.t (.bool (!decide (a = b)))) H := by simp [stepK, K.isEff, kval, kk, kbin, isShift, binInt]
theorem stepK_lss {d : IntKind} {a b : Int} : stepK H (.bin .lss) [.t (.int d a), .t (.int d b)] k = k (.t (.bool (decide (a < b)))) H := by simp [stepK, K.isEff, kval, kk, kbin, isShift, binInt]
theorem stepK_leq {d : IntKind} {a b : Int} : stepK H (.bin .leq) [.t (.int d a), .t (.int d b)] k = k (.t (.bool (decide (a ≤ b)))) H := by simp [stepK, K.isEff, kval, kk, kbin, isShift, binInt]
theorem stepK_gtr {d : IntKind} {a b : Int} : stepK H (.bin .gtr) [.t (.int d a), .t (.int d b)] k = k (.t (.bool (decide (b < a)))) H := by simp [stepK, K.isEff, kval, kk, kbin, isShift, binInt]
theorem stepK_geq {d : IntKind} {a b : Int} : stepK H (.bin .geq) [.t (.int d a), .t (.int d b)] k = k (.t (.bool (decide (b ≤ a)))) H := by simp [stepK, K.isEff, kval, kk, kbin, isShift, binInt]
theorem stepK_shl {d d' : IntKind} {a b : Int} : stepK H (.bin .shl) [.t (.int d a), .t (.int d' b)] k = (0 ≤ b ∧ k (.t (.int d (d.wrap (a * 2 ^ (min b.toNat d.bits))))) H) := by simp [stepK, K.isEff, kval, kk, kbin, isShift, binShift]
theorem stepK_shr {d d' : IntKind} {a b : Int} : stepK H (.bin .shr) [.t (.int d a), .t (.int d' b)] k = (0 ≤ b ∧ k (.t (.int d (a.fdiv (2 ^ (min b.toNat d.bits))))) H) := by simp [stepK, K.isEff, kval, kk, kbin, isShift, binShift]
theorem stepK_sadd {a b : ByteArray} : stepK H (.bin .add) [.t (.str a), .t (.str b)] k = ((a.size + b.size : Int) ≤ 9223372036854775807 ∧ k (.t (.str (a ++ b))) H) := by simp [stepK, K.isEff, kval, kk, kbin, binStr]
theorem stepK_seql {a b : ByteArray} : stepK H (.bin .eql) [.t (.str a), .t (.str b)] k = k (.t (.bool (decide (a = b)))) H := by simp [stepK, K.isEff, kval, kk, kbin, binStr]
theorem stepK_sneq {a b : ByteArray} : stepK H (.bin .neq) [.t (.str a), .t (.str b)] k = k (.t (.bool (!decide (a = b)))) H := by simp [stepK, K.isEff, kval, kk, kbin, binStr]
theorem stepK_beql {a b : Bool} : stepK H (.binB .eql) [.t (.bool a), .t (.bool b)] k = k (.t (.bool (a == b))) H := by simp [stepK, K.isEff, kval, kk, kbinB]
theorem stepK_bneq {a b : Bool} : stepK H (.binB .neq) [.t (.bool a), .t (.bool b)] k = k (.t (.bool (!(a == b)))) H := by simp [stepK, K.isEff, kval, kk, kbinB]
theorem stepK_not {b : Bool} : stepK H (.un .not) [.t (.bool b)] k = k (.t (.bool (!b))) H := by simp [stepK, K.isEff, kval, kk, kun]
theorem stepK_neg {d : IntKind} {a : Int} : stepK H (.un .neg) [.t (.int d a)] k = k (.t (.int d (d.wrap (0 - a)))) H := by simp [stepK, K.isEff, kval, kk, kun]
theorem stepK_com {d : IntKind} {a : Int} : stepK H (.un .xor) [.t (.int d a)] k = k (.t (.int d (bits .xor d (if d.signed then -1 else d.max) a))) H := by simp [stepK, K.isEff, kval, kk, kun]
theorem stepK_conv {d d' : IntKind} {a : Int} : stepK H (.conv d) [.t (.int d' a)] k = k (.t (.int d (d.wrap a))) H := by simp [stepK, K.isEff, kval, kk]
theorem stepK_toStr {x : V} : stepK H .toStr [x] k = kk (ktoStr H x) H k := (rfl)
theorem stepK_len {x : V} : stepK H .len [x] k = kk (klen x) H k := (rfl)
theorem klen_lst {sz : Nat} {b : Bool} {xs : List T} : klen (.t (.lst sz b xs)) = some (True, .t (.int .i64 xs.length)) := (rfl)
theorem klen_sl {id off len gen sz : Nat} : klen (.sl id off len gen sz) = some (True, .t (.int .i64 len)) := (rfl)
theorem klen_bsl {id off len : Nat} : klen (.bsl id off len) = some (True, .t (.int .i64 len)) := (rfl)
theorem stepK_lenS {s : ByteArray} : stepK H .lenS [.t (.str s)] k = k (.t (.int .i64 s.size)) H := by simp [stepK, K.isEff, kval, kk, klenS]
theorem stepK_lenC {m : Nat} {x : V} : stepK H (.lenC m) [x] k = k (.t (.int .i64 m)) H := by simp [stepK, K.isEff, kval, kk]
theorem stepK_min2 {d d' : IntKind} {a b : Int} : stepK H .min2 [.t (.int d a), .t (.int d' b)] k = k (.t (.int d (if b < a then b else a))) H := by simp [stepK, K.isEff, kval, kk, kmin2]
theorem stepK_max2 {d d' : IntKind} {a b : Int} : stepK H .max2 [.t (.int d a), .t (.int d' b)] k = k (.t (.int d (if a < b then b else a))) H := by simp [stepK, K.isEff, kval, kk, kmax2]
theorem stepK_field1 {off m : Nat} {x : V} : stepK H (.field off m true) [x] k = kk (kfield1 off x) H k := (rfl)
theorem stepK_fieldN {off m : Nat} {x : V} : stepK H (.field off m false) [x] k = kk (kfieldN off m x) H k := (rfl)
theorem kfield1_agg {off : Nat} {cs : List V} : kfield1 off (.agg cs) = some (off < cs.length, cs.getD off .undef) := (rfl)
theorem kfield1_t {off : Nat} {cs : List T} : kfield1 off (.t (.agg cs)) = some (off < (cs.map V.t).length, (cs.map V.t).getD off .undef) := (rfl)
theorem kfieldN_agg {off m : Nat} {cs : List V} : kfieldN off m (.agg cs) = some (off + m ≤ cs.length, .agg ((cs.drop off).take m)) := (rfl)
theorem kfieldN_t {off m : Nat} {cs : List T} : kfieldN off m (.t (.agg cs)) = some (off + m ≤ (cs.map V.t).length, .agg (((cs.map V.t).drop off).take m)) := (rfl)
theorem stepK_build {zero : List T} {ps : List (Nat × Nat)} {xs : List V} {cs : List V} (h : fillV (zero.map .t) ps xs = some cs) : stepK H (.build zero ps) xs k = k (.agg cs) H := by simp [stepK, K.isEff, kval, kk, h]
theorem stepK_build' {zero : List T} {ps : List (Nat × Nat)} {xs : List V} : stepK H (.build zero ps) xs k = kk (match fillV (zero.map .t) ps xs with | some cs => some (True, .agg cs) | none => none) H k := (rfl)
theorem stepK_load1 {x : V} : stepK H .load1 [x] k = kk (kload1 H x) H k := (rfl)
theorem stepK_loadN {m : Nat} {x : V} : stepK H (.loadN m) [x] k = kk (kloadN m H x) H k := (rfl)
theorem kload1_ip {cs : List T} : kload1 H (.ip cs) = some (0 < cs.length, .t (T.at cs 0)) := (rfl)
theorem kloadN_ip {m : Nat} {cs : List T} : kloadN m H (.ip cs) = some (m ≤ cs.length, .agg ((cs.take m).map .t)) := (rfl)
theorem kload1_ref {id off : Nat} : kload1 H (.ref id off) = (match H[id]? with
    | some (.box cs) => some (off < cs.length, cs.getD off .undef)
    | _ => none) := (rfl)
theorem kloadN_ref {m id off : Nat} : kloadN m H (.ref id off) = (match H[id]? with
    | some (.box cs) => some (off + m ≤ cs.length, .agg ((cs.drop off).take m))
    | _ => none) := (rfl)
theorem kload1_elt {id i off gen : Nat} : kload1 H (.elt id i off gen) = (match rowOf H[id]? with
    | some (_, g, xs) => if gen = g then some (off < (T.at xs i).cells.length, .t (T.at (T.at xs i).cells off)) else none
    | none => none) := (rfl)
theorem kidxS_sl {m id off len gen sz : Nat} {d : IntKind} {i : Int} : kidxS m H (.sl id off len gen sz) (.t (.int d i)) = (match rowOf H[id]? with
    | some (sz', g, _) => if gen = g ∧ sz' = sz ∧ sz = m then some (0 ≤ i ∧ i < len, .elt id (off + i.toNat) 0 gen) else none
    | none => none) := (rfl)
theorem kidxS_bsl {m id off len : Nat} {d : IntKind} {i : Int} : kidxS m H (.bsl id off len) (.t (.int d i)) = some (m = 1 ∧ 0 ≤ i ∧ i < len, .ref id (off + i.toNat)) := (rfl)
theorem at_zero {x : T} {r : List T} : T.at (x :: r) 0 = x := (rfl)
theorem stepK_fieldA_ref {off id o : Nat} : stepK H (.fieldA off) [.ref id o] k = k (.ref id (o + off)) H := by simp [stepK, K.isEff, kval, kk, kfieldA]
theorem stepK_fieldA_elt {off id i o g : Nat} : stepK H (.fieldA off) [.elt id i o g] k = k (.elt id i (o + off) g) H := by simp [stepK, K.isEff, kval, kk, kfieldA]
theorem stepK_fieldA_ip {off : Nat} {cs : List T} : stepK H (.fieldA off) [.ip cs] k = k (.ip (cs.drop off)) H := by simp [stepK, K.isEff, kval, kk, kfieldA]
theorem stepK_idxS {m : Nat} {x i : V} : stepK H (.idxS m) [x, i] k = kk (kidxS m H x i) H k := (rfl)
theorem kidxS_lst {m sz : Nat} {b : Bool} {xs : List T} {d : IntKind} {i : Int} : kidxS m H (.t (.lst sz b xs)) (.t (.int d i)) = some (sz = m ∧ 0 ≤ i ∧ i < xs.length, .ip (T.at xs i.toNat).cells) := (rfl)
theorem stepK_idxA {len sz : Nat} {x i : V} : stepK H (.idxA len sz) [x, i] k = kk (kidxA len sz x i) H k := (rfl)
theorem kidxA_ref {len sz id o : Nat} {d : IntKind} {i : Int} : kidxA len sz (.ref id o) (.t (.int d i)) = some (0 ≤ i ∧ i < len, .ref id (o + i.toNat * sz)) := (rfl)
theorem kidxA_elt {len sz id j o g : Nat} {d : IntKind} {i : Int} : kidxA len sz (.elt id j o g) (.t (.int d i)) = some (0 ≤ i ∧ i < len, .elt id j (o + i.toNat * sz) g) := (rfl)
theorem kidxA_ip {len sz : Nat} {cs : List T} {d : IntKind} {i : Int} : kidxA len sz (.ip cs) (.t (.int d i)) = some (0 ≤ i ∧ i < len, .ip (cs.drop (i.toNat * sz))) := (rfl)
theorem stepK_idxStr {s : ByteArray} {d : IntKind} {i : Int} : stepK H .idxStr [.t (.str s), .t (.int d i)] k = ((0 ≤ i ∧ i < s.size) ∧ k (.t (.int .u8 (bt s i.toNat))) H) := by simp [stepK, K.isEff, kval, kk, kidxStr]
theorem stepK_slice {m : Nat} {lo hi : Bool} {x : V} {r : List V} : stepK H (.slice m lo hi) (x :: r) k = kk (kslice m lo hi x r) H k := (rfl)
theorem stepK_sliceStr {lo hi : Bool} {x : V} {r : List V} : stepK H (.sliceStr lo hi) (x :: r) k = kk (ksliceStr lo hi x r) H k := (rfl)
theorem stepK_sliceA {m : Nat} {lo hi : Bool} {x : V} {r : List V} : stepK H (.sliceA m lo hi) (x :: r) k = kk (ksliceA H m lo hi x r) H k := (rfl)
theorem kslice_lst {m sz : Nat} {lo hi tight : Bool} {xs : List T} {r : List V} : kslice m lo hi (.t (.lst sz tight xs)) r = (match bounds xs.length lo hi r with | some (c, l, h) => some ((sz = m ∨ xs = []) ∧ c, .t (.lst sz (tight && !hi) ((xs.take h).drop l))) | none => none) := (rfl)
theorem kslice_sl {m id off len gen sz : Nat} {lo hi : Bool} {r : List V} : kslice m lo hi (.sl id off len gen sz) r = (match bounds len lo hi r with | some (c, l, h) => some (sz = m ∧ c, .sl id (off + l) (h - l) gen sz) | none => none) := (rfl)
theorem ksliceStr_str {lo hi : Bool} {s : ByteArray} {r : List V} : ksliceStr lo hi (.t (.str s)) r = (match bounds s.size lo hi r with | some (c, l, h) => some (c, .t (.str (s.extract l h))) | none => none) := (rfl)
theorem bounds_ff {m : Nat} : bounds m false false [] = some (True, 0, m) := (rfl)
theorem bounds_tf {m : Nat} {d : IntKind} {l : Int} : bounds m true false [.t (.int d l)] = some (0 ≤ l ∧ l ≤ m, l.toNat, m) := (rfl)
theorem bounds_ft {m : Nat} {d : IntKind} {h : Int} : bounds m false true [.t (.int d h)] = some (0 ≤ h ∧ h ≤ m, 0, h.toNat) := (rfl)
theorem bounds_tt {m : Nat} {d d' : IntKind} {l h : Int} : bounds m true true [.t (.int d l), .t (.int d' h)] = some (0 ≤ l ∧ l ≤ h ∧ h ≤ m, l.toNat, h.toNat) := (rfl)
theorem stepK_extract {i : Nat} {l : List V} : stepK H (.extract i) [.tup l] k = (i < l.length ∧ k (l.getD i .undef) H) := by simp [stepK, K.isEff, kval, kk]
theorem stepK_mkfn {f : FuncId} {caps : List V} : stepK H (.mkfn f) caps k = k (.fn f caps) H := by simp [stepK, K.isEff, kval, kk]
theorem stepK_nilck_ref {id o : Nat} : stepK H .nilck [.ref id o] k = k (.ref id o) H := by simp [stepK, K.isEff, kval, kk]
theorem stepK_nilck_elt {id i o g : Nat} : stepK H .nilck [.elt id i o g] k = k (.elt id i o g) H := by simp [stepK, K.isEff, kval, kk]
theorem stepK_nilck_ip {cs : List T} : stepK H .nilck [.ip cs] k = k (.ip cs) H := by simp [stepK, K.isEff, kval, kk]
theorem stepK_nilck_fn {f : FuncId} {cs : List V} : stepK H .nilck [.fn f cs] k = k (.fn f cs) H := by simp [stepK, K.isEff, kval, kk]
theorem stepK_alloc {zero : List T} : stepK H (.alloc zero) [] k = k (.ref H.length 0) (H ++ [.box (zero.map .t)]) := by simp [stepK, K.isEff, keff, ke]
theorem stepK_box {x : V} : stepK H .box [x] k = ((x.solid = true ∧ x.cells.all V.one = true) ∧ k (.ref H.length 0) (H ++ [.box x.cells])) := (rfl)
theorem stepK_store {m : Nat} {a v : V} : stepK H (.store m) [a, v] k = ke (kstore H m a v) k := (rfl)
theorem stepK_buildSlice {sz len : Nat} {zero : T} {ps : List Nat} {xs : List V} : stepK H (.buildSlice sz zero len ps) xs k = ke (keff H (.buildSlice sz zero len ps) xs) k := (rfl)
theorem stepK_buildRow {sz len : Nat} {zero : T} {ps : List Nat} {xs : List V} : stepK H (.buildRow sz zero len ps) xs k = ke (keff H (.buildRow sz zero len ps) xs) k := (rfl)
theorem stepK_makeSlice {sz b : Nat} {zero : T} {d d' : IntKind} {l c : Int} : stepK H (.makeSlice sz b zero) [.t (.int d l), .t (.int d' c)] k =
    ((0 ≤ l ∧ l ≤ c ∧ c < 9223372036854775808 ∧ b * c ≤ 2 ^ 46) ∧ k (.sl H.length 0 l.toNat 0 sz) (H ++ [.row sz 0 (List.replicate l.toNat zero)])) := (rfl)
theorem stepK_append {sz b : Nat} {x y : V} : stepK H (.append sz b) [x, y] k = ke (match elems H sz y with | some ys => kappend H sz b x ys | none => none) k := (rfl)
theorem stepK_appendStr {b : Nat} {x : V} {s : ByteArray} : stepK H (.appendStr b) [x, .t (.str s)] k = ke (kappend H 1 b x (strElems s)) k := (rfl)
theorem stepK_copy {sz : Nat} {x y : V} : stepK H (.copy sz) [x, y] k = ke (match elems H sz y with | some ys => kcopy H sz x ys | none => none) k := (rfl)
theorem stepK_mark {x : V} : stepK H .mark [x] k = ke (keff H .mark [x]) k := (rfl)
theorem keff_buildSlice {sz len : Nat} {zero : T} {ps : List Nat} {xs : List V} : keff H (.buildSlice sz zero len ps) xs = (match toElems H xs with
    | some (es, H1) => some (es.length = ps.length ∧ (ps.all (· < len)) = true ∧ (es.all fun e => e.cells.length == sz && e.cells.all T.one) = true, .t (.lst sz true (setElems (List.replicate len zero) ps es)), H1)
    | none => none) := (rfl)
theorem keff_buildRow {sz len : Nat} {zero : T} {ps : List Nat} {xs : List V} : keff H (.buildRow sz zero len ps) xs = (match toElems H xs with
    | some (es, H1) => some (es.length = ps.length ∧ (ps.all (· < len)) = true ∧ (es.all fun e => e.cells.length == sz && e.cells.all T.one) = true, .sl H1.length 0 len 0 sz, H1 ++ [.row sz 0 (setElems (List.replicate len zero) ps es)])
    | none => none) := (rfl)
theorem toElems_nil : toElems H [] = some ([], H) := (rfl)
theorem toElems_cons {v : V} {r : List V} : toElems H (v :: r) = (match toElem H v with
    | some (x, H1) => match toElems H1 r with
      | some (xs, H2) => some (x :: xs, H2)
      | none => none
    | none => none) := (rfl)
theorem toElem_t {x : T} : toElem H (.t x) = some (x, H) := (rfl)
theorem toElem_agg {cs : List V} : toElem H (.agg cs) = (match toTs H cs with
    | some (xs, H1) => some (.agg xs, H1)
    | none => none) := (rfl)
theorem toTs_nil : toTs H [] = some ([], H) := (rfl)
theorem toTs_cons {v : V} {r : List V} : toTs H (v :: r) = (match toT H v with
    | some (x, H1) => match toTs H1 r with
      | some (xs, H2) => some (x :: xs, H2)
      | none => none
    | none => none) := (rfl)
theorem toT_t {x : T} : toT H (.t x) = some (x, H) := (rfl)
theorem setElems_cons {zs : List T} {i : Nat} {is : List Nat} {x : T} {xs : List T} : setElems zs (i :: is) (x :: xs) = setElems (zs.set i x) is xs := (rfl)
theorem setElems_nil {zs : List T} {xs : List T} : setElems zs [] xs = zs := by unfold setElems; rfl
theorem kstore_ref {m id off : Nat} {v : V} : kstore H m (.ref id off) v = (match H[id]? with
    | some (.box cs) => some (v.solid = true ∧ v.cells.length = m ∧ off + m ≤ cs.length ∧ (v.cells.all V.one) = true, .undef, H.set id (.box (putAt cs off v.cells)))
    | _ => none) := (rfl)
theorem kstore_elt {m id i off gen : Nat} {v : V} : kstore H m (.elt id i off gen) v = (match toElem H v with
    | some (x, H1) => match H1[id]? with
      | some (.row sz g xs) => if gen = g then some (i < xs.length ∧ x.cells.length = m ∧ off + m ≤ sz ∧ x.cells.all T.one = true, .undef, H1.set id (.row sz g (xs.set i (elemPut (T.at xs i) off x)))) else none
      | _ => none
    | none => none) := (rfl)
theorem kcopy_sl {m id off len gen sz' : Nat} {ys : List T} : kcopy H m (.sl id off len gen sz') ys = (match H[id]? with
    | some (.row s2 g xs) => if gen = g ∧ s2 = m ∧ sz' = m then some (True, .int .i64 ((min ys.length len : Nat) : Int), H.set id (.row m g (putAt xs off (ys.take len)))) else none
    | _ => none) := (rfl)
theorem elemPut_int {d : IntKind} {n : Int} {off : Nat} {x : T} : elemPut (.int d n) off x = T.at x.cells 0 := (rfl)
theorem elemPut_bool {b : Bool} {off : Nat} {x : T} : elemPut (.bool b) off x = T.at x.cells 0 := (rfl)
theorem kk_some {c : Prop} {v : V} : kk (some (c, v)) H k = (c ∧ k v H) := (rfl)
theorem ke_some {c : Prop} {v : V} {H' : Heap} : ke (some (c, v, H')) k = (c ∧ k v H') := (rfl)
theorem elems_lst {m sz : Nat} {b : Bool} {xs : List T} (h : sz = m ∨ xs = []) : elems H m (.t (.lst sz b xs)) = some xs := by simp only [elems, if_pos h]
theorem elems_lst' {m : Nat} {b : Bool} {xs : List T} : elems H m (.t (.lst m b xs)) = some xs := by simp [elems]
theorem elems_nil {m sz : Nat} {b : Bool} : elems H m (.t (.lst sz b [])) = some [] := by simp [elems]
theorem kappend_tight {sz b sz' : Nat} {xs ys : List T} : kappend H sz b (.t (.lst sz' true xs)) ys = some ((xs = [] ∨ ys ≠ []) ∧ (xs = [] ∨ sz' = sz) ∧ (xs.length + ys.length) * b ≤ 2 ^ 47, .sl H.length 0 (xs.length + ys.length) 0 sz, H ++ [.row sz 0 (xs ++ ys)]) := (rfl)
theorem kappend_nil {sz b sz' : Nat} {ys : List T} : kappend H sz b (.t (.lst sz' true [])) ys = some (ys.length * b ≤ 2 ^ 47, .sl H.length 0 ys.length 0 sz, H ++ [.row sz 0 ys]) := by simp [kappend]

theorem kappend_sl {sz b id off len gen sz' : Nat} {ys : List T} : kappend H sz b (.sl id off len gen sz') ys = (match H[id]? with
    | some (.row s2 g xs) => if gen = g ∧ off = 0 ∧ s2 = sz ∧ sz' = sz then some (len = xs.length ∧ (xs.length + ys.length) * b ≤ 2 ^ 47, .sl id 0 (len + ys.length) (g + 1) sz, H.set id (.row sz (g + 1) (xs ++ ys))) else none
    | _ => none) := (rfl)
theorem w64 {x : Int} (h : -9223372036854775808 ≤ x ∧ x ≤ 9223372036854775807) : IntKind.i64.wrap x = x := by simp [IntKind.wrap, IntKind.bits, IntKind.signed]; omega
theorem wu64 {x : Int} (h : 0 ≤ x ∧ x ≤ 18446744073709551615) : IntKind.u64.wrap x = x := by simp [IntKind.wrap, IntKind.bits, IntKind.signed]; omega
theorem wu8 {x : Int} (h : 0 ≤ x ∧ x ≤ 255) : IntKind.u8.wrap x = x := by simp [IntKind.wrap, IntKind.bits, IntKind.signed]; omega

theorem vcells_agg {cs : List V} : (V.agg cs).cells = cs := (rfl)
theorem vcells_tagg {cs : List T} : (V.t (.agg cs)).cells = cs.map V.t := (rfl)
theorem vcells_int {d : IntKind} {n : Int} : (V.t (.int d n)).cells = [.t (.int d n)] := (rfl)
theorem vcells_bool {b : Bool} : (V.t (.bool b)).cells = [.t (.bool b)] := (rfl)
theorem vcells_str {s : ByteArray} : (V.t (.str s)).cells = [.t (.str s)] := (rfl)
theorem vcells_lst {sz : Nat} {b : Bool} {xs : List T} : (V.t (.lst sz b xs)).cells = [.t (.lst sz b xs)] := (rfl)
theorem vcells_sl {id off len gen sz : Nat} : (V.sl id off len gen sz).cells = [.sl id off len gen sz] := (rfl)
theorem vcells_ref {id off : Nat} : (V.ref id off).cells = [.ref id off] := (rfl)
theorem solid_t {x : T} : (V.t x).solid = true := (rfl)
theorem solid_agg {cs : List V} : (V.agg cs).solid = true := (rfl)
theorem solid_sl {id off len gen sz : Nat} : (V.sl id off len gen sz).solid = true := (rfl)
theorem solid_ref {id off : Nat} : (V.ref id off).solid = true := (rfl)
theorem vone_int {d : IntKind} {n : Int} : (V.t (.int d n)).one = true := (rfl)
theorem vone_bool {b : Bool} : (V.t (.bool b)).one = true := (rfl)
theorem vone_str {s : ByteArray} : (V.t (.str s)).one = true := (rfl)
theorem vone_lst {sz : Nat} {b : Bool} {xs : List T} : (V.t (.lst sz b xs)).one = true := (rfl)
theorem vone_sl {id off len gen sz : Nat} : (V.sl id off len gen sz).one = true := (rfl)
theorem vone_ref {id off : Nat} : (V.ref id off).one = true := (rfl)
theorem tcells_agg {cs : List T} : (T.agg cs).cells = cs := (rfl)
theorem tcells_int {d : IntKind} {n : Int} : (T.int d n).cells = [.int d n] := (rfl)
theorem tcells_bool {b : Bool} : (T.bool b).cells = [.bool b] := (rfl)
theorem tcells_str {s : ByteArray} : (T.str s).cells = [.str s] := (rfl)
theorem tcells_lst {sz : Nat} {b : Bool} {xs : List T} : (T.lst sz b xs).cells = [.lst sz b xs] := (rfl)
theorem tone_int {d : IntKind} {n : Int} : (T.int d n).one = true := (rfl)
theorem tone_bool {b : Bool} : (T.bool b).one = true := (rfl)
theorem tone_str {s : ByteArray} : (T.str s).one = true := (rfl)
theorem tone_lst {sz : Nat} {b : Bool} {xs : List T} : (T.lst sz b xs).one = true := (rfl)
theorem rowOf_row {sz g : Nat} {xs : List T} : rowOf (some (.row sz g xs)) = some (sz, g, xs) := (rfl)
theorem rowOf_frz {sz g : Nat} {xs : List T} : rowOf (some (.frz sz g xs)) = some (sz, g, xs) := (rfl)

/-- The end of a function. -/
theorem finK_intro {rs : List Res} {q : V → Heap → Prop} {c : Prop} {v v' : V} {H' : Heap} (hr : resV s.h s.vs rs = some (c, v)) (hc : c) (hw : Weak n ⟨[(0, v)], s.h⟩ ⟨[(0, v')], H'⟩) (hq : q v' H') : finK n rs q s := by
  unfold finK; rw [hr]; exact ⟨hc, v', H', hw, hq⟩

theorem weak_to {s s' : St} (slots keep : List Nat) (h1 : keep.take n = List.range n) (hn : n ≤ keep.length) (h2 : keep.Nodup) (h3 : ∀ id ∈ keep, id < s.h.length) (he : gcSt slots keep s = s') : Weak n s s' := he ▸ weak_gc slots keep h1 hn h2 h3

/-- A loop: the state at its head is described by I, with a measure. -/
theorem wpC_loop {c : Cd} (I : Nat → St → Prop) (m : Nat) (s0 : St) (hw : Weak n s s0) (hI : I m s0) (hstep : ∀ m s, I m s → wpC Cl n c (thenK (fun s' => ∃ m' s'', m' < m ∧ Weak n s' s'' ∧ I m' s'') Q) s) : wpC Cl n (.loop c) Q s :=
  ⟨I, m, s0, hw, hI, hstep⟩
end

section
variable {P : Program} {Cl : Known} {n : Nat}

def Mono (Cl : Known) : Prop := ∀ f args H (k k' : V → Heap → Prop), (∀ v H, k v H → k' v H) → Cl f args H k → Cl f args H k'

theorem mono_scall : Mono (SCall P) := fun _ _ _ _ _ h hc => hc.mono h

theorem kk_mono {o : Option (Prop × V)} {H : Heap} {k k' : V → Heap → Prop} (h : ∀ v H, k v H → k' v H) (hk : kk o H k) : kk o H k' := by
  unfold kk at *
  split at hk
  · exact ⟨hk.1, h _ _ hk.2⟩
  · exact hk

theorem ke_mono {o : Option (Prop × V × Heap)} {k k' : V → Heap → Prop} (h : ∀ v H, k v H → k' v H) (hk : ke o k) : ke o k' := by
  unfold ke at *
  split at hk
  · exact ⟨hk.1, h _ _ hk.2⟩
  · exact hk

theorem wpB_mono (hCl : Mono Cl) {b : Body} {s : St} {k k' : V → Heap → Prop} (h : ∀ v H, k v H → k' v H) (hk : wpB Cl b s k) : wpB Cl b s k' := by
  cases b with
  | op op xs =>
    simp only [wpB, stepK] at *
    split at hk
    · rename_i e; rw [if_pos e]; exact ke_mono h hk
    · rename_i e; rw [if_neg e]; exact kk_mono h hk
  | call f xs => exact hCl _ _ _ _ _ h hk
  | callv x xs =>
    simp only [wpB, callV] at *
    split at hk
    · exact hCl _ _ _ _ _ h hk
    · exact hk

theorem guardV_mono {v : V} {w : Bool} {a b a' b' : Prop} (h1 : a → a') (h2 : b → b') (h : guardV v w a b) : guardV v w a' b' := by
  unfold guardV at *
  split at h
  · exact ⟨fun e => h1 (h.1 e), fun e => h2 (h.2 e)⟩
  · exact h

theorem condV_mono {v : V} {a b a' b' : Prop} (h1 : a → a') (h2 : b → b') (h : condV v a b) : condV v a' b' := by
  unfold condV at *
  split at h
  · exact ⟨fun e => h1 (h.1 e), fun e => h2 (h.2 e)⟩
  · exact h

theorem wpR_mono (hCl : Mono Cl) : ∀ (is : List Ins) {k k' : St → Prop} (s : St), (∀ s, k s → k' s) → wpR Cl is k s → wpR Cl is k' s
  | [], k, k', s, h, hk => h _ hk
  | ⟨d, none, b⟩ :: r, k, k', s, h, hk => wpB_mono hCl (fun v H hk => wpR_mono hCl r _ h hk) hk
  | ⟨d, some (t, w), b⟩ :: r, k, k', s, h, hk => guardV_mono (fun hk => wpB_mono hCl (fun v H hk => wpR_mono hCl r _ h hk) hk) (fun hk => wpR_mono hCl r _ h hk) hk

theorem flos_mono {s : St} {q q' : Prop} (h : q → q') : ∀ (is : List Ins), flos is s q → flos is s q'
  | [], hq => h hq
  | i :: is, hq => ⟨hq.1, flos_mono h is hq.2⟩

theorem wpP_mono (hCl : Mono Cl) : ∀ (p : Plan) {k k' : St → Prop} (s : St), (∀ s, k s → k' s) → wpP Cl p k s → wpP Cl p k' s
  | .fin, k, k', s, h, hk => h _ hk
  | .val i p, k, k', s, h, hk => wpR_mono hCl [i] s (fun s' hs => wpP_mono hCl p s' h hs) hk
  | .eff i fl p, k, k', s, h, hk => wpR_mono hCl [i] s (fun s' hs => flos_mono (fun hs => wpP_mono hCl p s' h hs) fl hs) hk
  | .alt p q, k, k', s, h, hk => ⟨wpP_mono hCl p s h hk.1, wpP_mono hCl q s h hk.2⟩

theorem wpC_mono (hCl : Mono Cl) : ∀ (c : Cd) {Q Q' : Ex → St → Prop} (s : St), (∀ e s, Q e s → Q' e s) → wpC Cl n c Q s → wpC Cl n c Q' s := by
  intro c
  induction c with
  | skip => intro Q Q' s h hq; exact h _ _ hq
  | rgn is => intro Q Q' s h hq; exact wpR_mono hCl is s (fun s hs => h _ s hs) hq
  | rgnD p => intro Q Q' s h hq; exact wpP_mono hCl p s (fun s hs => h _ s hs) hq
  | seq a b iha ihb =>
    intro Q Q' s h hq
    refine iha s (fun e s he => ?_) hq
    cases e with
    | norm => exact ihb s h he
    | exit id => exact h _ _ he
    | ret => exact h _ _ he
  | cond c a b iha ihb => intro Q Q' s h hq; exact condV_mono (iha s h) (ihb s h) hq
  | block id c ih =>
    intro Q Q' s h hq
    refine ih s (fun e s he => ?_) hq
    cases e with
    | norm => exact h _ _ he
    | exit i =>
      simp only [blockK] at he ⊢
      split
      · rename_i e; rw [if_pos e] at he; exact h _ _ he
      · rename_i e; rw [if_neg e] at he; exact h _ _ he
    | ret => exact h _ _ he
  | loop c ih =>
    intro Q Q' s h hq
    obtain ⟨I, m, s0, hw, hI, hs⟩ := hq
    refine ⟨I, m, s0, hw, hI, fun m s hI => ih s (fun e s he => ?_) (hs m s hI)⟩
    cases e with
    | norm => exact he
    | exit id => exact h _ _ he
    | ret => exact h _ _ he
  | exit id => intro Q Q' s h hq; exact h _ _ hq
  | ret => intro Q Q' s h hq; exact h _ _ hq

/-- What may be kept of a heap. -/
def keepOk (n : Nat) (keep : List Nat) (len : Nat) : Prop := keep.take n = List.range n ∧ n ≤ keep.length ∧ keep.Nodup ∧ ∀ id ∈ keep, id < len

theorem weak_keep {slots keep : List Nat} {s : St} (h : keepOk n keep s.h.length) : Weak n s (gcSt slots keep s) := weak_gc slots keep h.1 h.2.1 h.2.2.1 h.2.2.2

/-- A loop, where at its head the slots and objects that are named are kept. -/
theorem wpC_loop_gc {c : Cd} {Q : Ex → St → Prop} {s : St} (slots keep : List Nat) (I : Nat → St → Prop) (m : Nat) (h0 : keepOk n keep s.h.length ∧ I m (gcSt slots keep s))
    (hstep : ∀ m s, I m s → wpC (SCall P) n c (thenK (fun s' => ∃ m', m' < m ∧ keepOk n keep s'.h.length ∧ I m' (gcSt slots keep s')) Q) s) : wpC (SCall P) n (.loop c) Q s := by
  refine wpC_loop I m _ (weak_keep h0.1) h0.2 fun m s hI => wpC_mono mono_scall c s (fun e s he => ?_) (hstep m s hI)
  cases e with
  | norm =>
    obtain ⟨m', hlt, hk, hI'⟩ := he
    exact ⟨m', _, hlt, weak_keep hk, hI'⟩
  | exit id => exact he
  | ret => exact he

/-- The end of a function, where the objects that are named are kept. -/
def finG (n : Nat) (keep : List Nat) (rs : List Res) (Q : V → Heap → Prop) (s : St) : Prop :=
  keepOk n keep s.h.length ∧ match resV s.h s.vs rs with
  | some (c, v) => c ∧ Q (v.ren (idx keep)) (keep.map fun id => ((s.h[id]?).getD default).ren (idx keep))
  | none => False

theorem finK_gc {rs : List Res} {q : V → Heap → Prop} {s : St} (keep : List Nat) (h : finG n keep rs q s) : finK n rs q s := by
  obtain ⟨hk, h⟩ := h
  split at h
  · rename_i c v hr
    refine finK_intro hr h.1 (weak_keep (slots := [0]) (s := ⟨[(0, v)], s.h⟩) hk) ?_
    simpa [gcSt, get] using h.2
  · exact h.elim

end

/-! What a walk looks at first: never at what comes later. -/
section
variable {Cl : Known} {P : Program}
@[congr] theorem guardV_congr {v v' : V} {w : Bool} {a b : Prop} (h : v = v') : guardV v w a b = guardV v' w a b := by rw [h]
@[congr] theorem condV_congr {v v' : V} {a b : Prop} (h : v = v') : condV v a b = condV v' a b := by rw [h]
@[congr] theorem kk_congr {o o' : Option (Prop × V)} {H H' : Heap} {k : V → Heap → Prop} (h : o = o') (h2 : H = H') : kk o H k = kk o' H' k := by rw [h, h2]
@[congr] theorem ke_congr {o o' : Option (Prop × V × Heap)} {k : V → Heap → Prop} (h : o = o') : ke o k = ke o' k := by rw [h]
@[congr] theorem stepK_congr {H H' : Heap} {op : Abs.K} {a a' : List V} {k : V → Heap → Prop} (h : H = H') (h2 : a = a') : stepK H op a k = stepK H' op a' k := by rw [h, h2]
@[congr] theorem wpB_congr {b : Body} {s s' : St} {k : V → Heap → Prop} (h : s = s') : wpB Cl b s k = wpB Cl b s' k := by rw [h]
@[congr] theorem wpR_congr {is : List Ins} {K : St → Prop} {s s' : St} (h : s = s') : wpR Cl is K s = wpR Cl is K s' := by rw [h]
@[congr] theorem wpP_congr {p : Plan} {K : St → Prop} {s s' : St} (h : s = s') : wpP Cl p K s = wpP Cl p K s' := by rw [h]
@[congr] theorem wpC_congr {n : Nat} {c : Cd} {Q : Ex → St → Prop} {s s' : St} (h : s = s') : wpC Cl n c Q s = wpC Cl n c Q s' := by rw [h]
@[congr] theorem scall_congr {f : FuncId} {a a' : List V} {H H' : Heap} {k : V → Heap → Prop} (h : a = a') (h2 : H = H') : SCall P f a H k = SCall P f a' H' k := by rw [h, h2]
@[congr] theorem callV_congr {x x' : V} {a a' : List V} {H H' : Heap} {k : V → Heap → Prop} (h1 : x = x') (h : a = a') (h2 : H = H') : callV Cl x a H k = callV Cl x' a' H' k := by rw [h, h2, h1]
end
end Go.Abs
